import Derived.Deep.RegionLaw
import Derived.Deep.RegionHeld3
import Derived.Test.YtpibfnekkfhkmaaGreatM8
open Nat renaming reduceBEq → zB, reduceEqDiff → zE, reduceAdd → zA, reduceSub → zS, reduceLT → zL, reduceLeDiff → zD, reduceMul → zM
open Go.Proofs.Tryz renaming prog → P0
open List renaming getElem?_eq_some_iff → zaa, mem_append → zab, mem_cons → zad, mem_of_getElem? → zae, mem_iff_getElem? → zaf, mem_map → zag, flatten_cons → zai, take_append_drop → zaj, map_cons → zak, mem_filter → zal, length_append → zam, pairwise_iff_getElem → zan, getElem?_eq_getElem → zao, length_cons → zap, findIdx?_cons → zaq, map_append → zar, getElem?_set → zas, mem_singleton → zat, mem_or_eq_of_mem_set → zau, exists_cons_of_ne_nil → zav, getElem?_modify → zaw, drop_eq_getElem_cons → zax, filter_sublist → zay, length_eq_zero_iff → zaz
open Int renaming reduceToNat → zac
open Nat renaming le_refl → zah
namespace Go.Ev
set_option maxRecDepth 100000
open Go Go.RowKit
set_option linter.unusedSectionVars false
set_option linter.unnecessarySimpa false
set_option linter.unusedSimpArgs false
set_option linter.unusedVariables false
set_option maxRecDepth 100000
theorem a1h:(Go.Proofs.Tryz.prog.info? 120).map (fun i=>(i.zero,i.size,i.bytes))=some (some (.agg #[.int .u64 0,.int .i64 0,.int .i64 0]),3,24):=by kernel_rfl
theorem a5d {P:Program} {t:TypeId} {z:Option Value} {s b:Nat} (h:(P.info? t).map (fun i=>(i.zero,i.size,i.bytes))=some (z,s,b)):∃i,P.info? t=some i∧i.zero=z∧i.size=s∧i.bytes=b:=by
 rcases hi:P.info? t with _ | i
 ·rw [hi] at h; simp at h
 ·rw [hi] at h;simp at h;exact ⟨i,rfl,h.1,h.2.1,h.2.2⟩
theorem a3v {P:Program} {ops:Array Oper} {o:Oper} {a:Act} {w:World} {K:Act→World→Prop} {Q:Exit→Act→World→Prop} {E:Prop} (hgd:o.guard=none) (h:Oper.wp P o a w K Q):if Region.wanted o (yielded ops a.tmps)=true then Oper.wp P o a w K Q else E:=by
 rw [if_pos (by simp [Region.wanted,hgd])];exact h
theorem bao {p:Prop} (h:Unit→p):p:=h ()
set_option maxHeartbeats 2000000 in
theorem put2_w {w : World} {b cap : Nat} {og : Option Nat} {gs : List Nat} {ns : List (List Ky)} {n : Int} (h : TL w b og gs cap ns n) (k : Ky) (r s : Nat) (l : List Ky) (hN : Nod ns k r) (hl : ns[r - 1]? = some l) (hP : Plc l k s) (hs : l[s]? ≠ some k) (hlen : l.length < 32) (hn0 : 0 ≤ n) (hn1 : n < 9223372036854775807) :
    Calls P0 64 #[.pointer (some ⟨b,0,none⟩),k.val] w fun e w'=>e=.returned (.bool true) ∧
    ∃gs',TL w' b og gs' cap (ns.set (r-1) (l.take s++k::l.drop s)) (n+1)∧Keeps (Ft b og gs) w w'∧∀x,Ft b og gs' x→Ft b og gs x∨w.heap.size≤x:=by
  obtain ⟨g,rfl⟩:=h.some_ hl;have hat:r-1<ns.length:=(zaa.1 hl).1;generalize hr:r-1=i at *;obtain ⟨c0,c1,f0,f1,hlt⟩:=h.root;have hne:((ns.length:Int) == 0)=false:=by rw [beq_eq_false_iff_ne]; omega
  have hk0:∀x,Keeps (fun _=>False) w (w.alloc x):=fun x=>dq;have i0:(0:Int)≤(i:Int):=by omega
  have i1:(i:Int)<(ns.length:Int):=by omega
  obtain ⟨iK,hiK,hzK,hsK,hbK⟩:=a5d a1h;simp only [Ky.val]
  go_enter Go.Proofs.Tryz.func64,Go.Proofs.Tryz.ntmps64
  go_wp2_with fail
  have h1:=h.keeps (hk0 (.cells #[.int .u64 k.c,.int .i64 k.v,.int .i64 k.d] 120)) (fun _ _ q=>q);have b1:KB (w.alloc (.cells #[.int .u64 k.c,.int .i64 k.v,.int .i64 k.d] 120)) w.heap.size k:=aez rfl;refine (ayi h1 k r hN).mono ?_;rintro e w2 ⟨rfl,hK2⟩;rw [hr];have h2:=h1.keeps (hK2 fun _=>False) (fun _ _ q=>q);have b2:=b1.keeps (hK2 fun _=>False) (fun q=>q);obtain ⟨d0,d1,f2,f3,_⟩:=h2.root;obtain ⟨g',c,hg',hrow,d2,f4⟩:=h2.node hl;obtain ⟨k0,k1,k2⟩:=b2.cells
  go_wp2_with fail
  refine (ay4 hrow k s hP).mono ?_;rintro e w3 ⟨rfl,hK3⟩;rw [decide_eq_false hs];have h3:=h2.keeps (hK3 fun _=>False) (fun _ _ q=>q);have b3:=b2.keeps (hK3 fun _=>False) (fun q=>q);have hrow3:xu w3 g' l c:=hrow.loc ((hK3 fun _=>False).block g' hrow.lt fun q=>q);clear d0 d1 f2 f3 d2 f4 k0 k1 k2;obtain ⟨k0,k1,k2⟩:=b3.cells
  go_wp2_with (at_builtin; refine bao ?_)
  intro _;obtain ⟨cs,e',hg3,hsz,hf,hlc,hc,hcm⟩:=hrow3;have hl3:g'<w3.heap.size:=(Array.getElem?_eq_some_iff.1 hg3).1
  refine wpList_plain rfl fun K hK=>wp_app (.tmp 41) (.tmp 43) _ _ rfl Go.Proofs.Tryz.underlying176 Go.Proofs.Tryz.underlying176 hiK hzK (by rw [hsK]; rfl) hsK hbK g' l.length c rfl hc (by rw [aey hl3]; exact hg3) hsz hlc rfl (kc k)
    (alk (aez rfl) rfl fun j u hj=>by simpa [kc] using hj) rfl (by simp [kc,Value.oneCell']) (by simp only [maxLen]; omega) hcm (by omega) ?_
  intro g2 cap2 cs2 e2 w4 hor hc2 hlc2 hcm2 hg4 hsz2 hf2 hK4;refine hK _ _ ?_;have hsl:s≤l.length:=hP.le;have w1:IntKind.i64.wrap ((s:Int)+1)=(s:Int)+1:=a6 ⟨by omega,by omega⟩;have j0:(0:Int)≤(s:Int):=by omega
  have j1:(s:Int)≤(l.length:Int)+1:=by omega
  have j2:(0:Int)≤(s:Int)+1:=by omega
  have j3:(s:Int)+1≤(l.length:Int)+1:=by omega
  go_wp2_with fail
  have hpre:(flat l++kc k) <+: cs2.toList:=by
    exact a4y (ye l) hf (fun j hj=>hf2 j (by rw [show (kc k).length=3 from rfl] at hj; omega)) (by rw [show (kc k).length=3 from rfl]; omega)
  have hone:∀u∈(cs2.toList.drop (s*3)).take ((l.length-s)*3),u.oneCell'=true:=a33 hpre (fun u hu=>by
    rcases zab.1 hu with hu | hu
    · exact a1p u hu
    · simp [kc] at hu; rcases hu with rfl | rfl | rfl<;>rfl) (by rw [zam,ye,show (kc k).length=3 from rfl]; omega)
  go_region_held3 (fun _=>True) (trivial) ((refine a3v rfl (wp_cpy (.tmp 48) (.tmp 51) _ _ rfl Go.Proofs.Tryz.underlying176 hiK hsK g2 ((s+1)*3) (s*3) (l.length-s) hg4 rfl rfl (by simp only [Nat.min_def]; split<;>omega) (fun hm=>⟨if_neg (by omega),if_neg (by omega)⟩) (by omega) (by omega) hone ?_); intro w5 hg5 hK5))
  have hnd:=h.nb;have hgm:g'∈gs:=zae hg';simp only [Option.toList_some,List.cons_append,List.nil_append,List.nodup_cons,zad,not_or] at hnd;obtain ⟨⟨n1,n2⟩,n3,n4⟩:=hnd;have l1:=h.lt g (.inr (.inl rfl));have l2:=h.lt g' (.inr (.inr hgm))
  have z2:w.heap.size+1≤w3.heap.size:=by
    have a1:=(hK2 fun _=>False).size;have a2:=(hK3 fun _=>False).size;have a3:(w.alloc (.cells #[.int .u64 k.c,.int .i64 k.v,.int .i64 k.d] 120)).heap.size=w.heap.size+1:=a2n;omega
  have z3:(w3.alloc (.cells #[.int .u64 k.c,.int .i64 k.v,.int .i64 k.d] 120)).heap.size=w3.heap.size+1:=a2n;rw [z3] at hor;have hg2b:∀x,x<w3.heap.size→x≠g'→x≠g2:=fun x h1 h2 h3=>by rcases hor with q | q<;>omega
  have hsame:∀x,x<w3.heap.size→x≠g'→w5.heap[x]?=w3.heap[x]?:=fun x h1 h2=>by
    rw [hK5.block x (Nat.lt_of_lt_of_le (by rw [z3]; omega) hK4.size) (hg2b x h1 h2),show w4.drew.heap=w4.heap from rfl,hK4.block x (by rw [z3]; omega) h2,aey h1]
  have m1:b≠g':=fun q=>n2 (q▸hgm);have m2:g≠g':=fun q=>n3 (q▸hgm);have hgb:¬b=g2:=hg2b b (by omega) m1;have hgg:¬g=g2:=hg2b g (by omega) m2;have hgh:¬w.heap.size=g2:=hg2b _ (by omega) (by omega);have hgb':¬g2=b:=fun q=>hgb q.symm;have hgg':¬g2=g:=fun q=>hgg q.symm;have hgh':¬g2=w.heap.size:=fun q=>hgh q.symm;have hbg:¬b=g:=n1;have hbg':¬g=b:=fun q=>n1 q.symm;obtain ⟨p0,p1,q0,q1,_⟩:=h3.root;obtain ⟨_,_,_,_,p2,q2⟩:=h3.node hl;have e0:=(tg (hsame b (by omega) m1) 0).trans p0;have e1:=(tg (hsame b (by omega) m1) 1).trans p1;have r0:=(adk (hsame b (by omega) m1) 0).trans q0;have r1:=(adk (hsame b (by omega) m1) 1).trans q1;have e3:=(tg (hsame g (by omega) m2) i).trans p2
  have r2:=(adk (hsame g (by omega) m2) i).trans q2;have e4:=(tg (hsame w.heap.size (by omega) (by omega)) 0).trans k0;have e5:=(tg (hsame w.heap.size (by omega) (by omega)) 1).trans k1;have e6:=(tg (hsame w.heap.size (by omega) (by omega)) 2).trans k2
  have hz5:(b7 cs2.toList ((s+1)*3) ((cs2.toList.drop (s*3)).take ((l.length-s)*3))).toArray.size=cs2.size:=by
    rw [List.size_toArray,i9 (by simp; omega)]; simp
  obtain ⟨v0,e7⟩:=ao8 hg5 (o:=s*3) (by omega);obtain ⟨v1,e8⟩:=ao8 hg5 (o:=s*3+1) (by omega);obtain ⟨v2,e9⟩:=ao8 hg5 (o:=s*3+2) (by omega);have r3:=ahz (o:=s*3) hg5;have r4:=ahz (o:=s*3+1) hg5;have r5:=ahz (o:=s*3+2) hg5;have wn:IntKind.i64.wrap (n+1)=n+1:=a6 ⟨by omega,by omega⟩;have j4:(s:Int)<(l.length:Int)+1:=by omega
  have j5:¬((32:Int)<(l.length:Int)+1):=by omega
  clear k0 k1 k2 p0 p1 q0 q1 p2 q2
  go_wp2_with fail
  · go_ret
    obtain ⟨ho0,ho⟩:=h3.out g rfl;obtain ⟨co,eo,hco1,hco2,hco4⟩:=ho;obtain ⟨eb,heb⟩:=h3.hd;have G0:=(hsame g (by omega) m2).trans hco1;have B0:=(hsame b (by omega) m1).trans heb;have G1:=la (o:=s*3) (v:=.int .u64 k.c) hg5;have G2:=la (o:=s*3+1) (v:=.int .i64 k.v) G1;have G3:=la (o:=s*3+2) (v:=.int .i64 k.d) G2
    have O1:∀x,x≠g2→(((w5.setCell ⟨g2,s*3,none⟩ (.int .u64 k.c)).setCell ⟨g2,s*3+1,none⟩ (.int .i64 k.v)).setCell ⟨g2,s*3+2,none⟩ (.int .i64 k.d)).heap[x]?=w5.heap[x]?:=fun x hx=>by
      rw [gm G2 hx,gm G1 hx,gm hg5 hx]
    have K1:Keeps (· = g2) w5 (((w5.setCell ⟨g2,s*3,none⟩ (.int .u64 k.c)).setCell ⟨g2,s*3+1,none⟩ (.int .i64 k.v)).setCell ⟨g2,s*3+2,none⟩ (.int .i64 k.d)):=((go (I:=(· = g2)) hg5 rfl).trans (go (I:=(· = g2)) G1 rfl)).trans (go (I:=(· = g2)) G2 rfl);generalize ((w5.setCell ⟨g2,s*3,none⟩ (.int .u64 k.c)).setCell ⟨g2,s*3+1,none⟩ (.int .i64 k.v)).setCell ⟨g2,s*3+2,none⟩ (.int .i64 k.d)=w6 at *;have C0:=(O1 g hgg).trans G0;have C1:=(O1 b hgb).trans B0;have hll:(l.take s++k::l.drop s).length=l.length+1:=by simp; omega
    have F1:=la (o:=i) (v:=.slice (some ⟨g2,0,none⟩) (l.length+1) (s+1)) C0;have O2:∀x,x≠g→(w6.setCell ⟨g,i,none⟩ (.slice (some ⟨g2,0,none⟩) (l.length+1) (s+1))).heap[x]?=w6.heap[x]?:=fun x hx=>gm C0 hx;have K2:=go (o:=i) (v:=.slice (some ⟨g2,0,none⟩) (l.length+1) (s+1)) (I:=fun x=>Ft b (some g) gs x∨w.heap.size≤x) C0 (.inl (.inr (.inl rfl)));generalize w6.setCell ⟨g,i,none⟩ (.slice (some ⟨g2,0,none⟩) (l.length+1) (s+1))=w7 at *;have D1:=(O2 b hbg).trans C1;have F2:=la (o:=1) (v:=.int .i64 (n+1)) D1;have O3:∀x,x≠b→(w7.setCell ⟨b,1,none⟩ (.int .i64 (n+1))).heap[x]?=w7.heap[x]?:=fun x hx=>gm D1 hx
    have K3:=go (o:=1) (v:=.int .i64 (n+1)) (I:=fun x=>Ft b (some g) gs x∨w.heap.size≤x) D1 (.inl (.inl rfl));generalize w7.setCell ⟨b,1,none⟩ (.int .i64 (n+1))=w8 at *
    have hI2:Ft b (some g) gs g2∨w.heap.size≤g2:=by
      rcases hor with q | q
      · exact .inl (.inr (.inr (q▸hgm)))
      · exact .inr (by omega)
    refine ⟨rfl,gs.set i g2,h3.put hat ⟨eb,F2⟩ ⟨co,eo,hco1,?_⟩ (c2:=(s+1)) ?_ (fun j x hj hx=>?_) ?_,ap7 ?_,fun x hx=>?_⟩
    · rw [O3 g hbg',F1,hll]
    · refine ⟨_,e2,by rw [O3 g2 hgb',O2 g2 hgg']; exact G3,by simp; simp at hz5; omega,?_,by rw [hll]; omega,by omega,by omega⟩;intro j u hj;have hpi:_ <+: b7 _ _ [Value.int .u64 k.c,Value.int .i64 k.v,Value.int .i64 k.d]:=aqb hsl hpre;rw [← a64 _ _ _ _ _ (by rw [i9 (by simp; omega)]; simp; omega)] at hpi;obtain ⟨t,ht⟩:=hpi;have:j<(flat (l.take s++k::l.drop s)).length:=(zaa.1 hj).1;simp only [List.setIfInBounds_toArray,List.getElem?_toArray];rw [← ht,List.getElem?_append_left this];exact hj
    · have hxm:x∈gs:=zae hx;have x1:x≠b:=fun q=>n2 (q▸hxm);have x2:x≠g:=fun q=>n3 (q▸hxm)
      have x3:x≠g':=fun q=>by
        subst q;have:=(List.getElem?_inj (zaa.1 hx).1 n4).1 (hx.trans hg'.symm);exact hj this
      have x4:=h3.lt x (.inr (.inr hxm));rw [O3 x x1,O2 x x2,O1 x (hg2b x x4 x3),hsame x x4 x3]
    · rcases hor with q | q
      · exact .inl (q▸hg')
      · refine .inr ⟨hgb',hgg',fun hm=>?_⟩;have:=h3.lt g2 (.inr (.inr hm));omega
    · have kd:Keeps (fun x=>Ft b (some g) gs x∨w.heap.size≤x) w4 w4.drew:=⟨rfl,rfl,rfl,zah _,fun _ _ _=>rfl⟩
      have k4:=hK4.mono (J:=fun x=>Ft b (some g) gs x∨w.heap.size≤x) fun x hx=>.inl (.inr (.inr (hx▸hgm)));have k5:=hK5.mono (J:=fun x=>Ft b (some g) gs x∨w.heap.size≤x) fun x hx=>hx▸hI2;have k6:=K1.mono (J:=fun x=>Ft b (some g) gs x∨w.heap.size≤x) fun x hx=>hx▸hI2;exact (((((((((dq.trans (hK2 _)).trans (hK3 _)).trans dq).trans k4).trans kd).trans k5).trans k6).trans K2).trans K3)
    · rcases hx with q | q | q
      · exact .inl (.inl q)
      · exact .inl (.inr (.inl q))
      · rcases zau q with q | q
        · exact .inl (.inr (.inr q))
        · exact q▸hI2
  · go_ret
    obtain ⟨ho0,ho⟩:=h3.out g rfl;obtain ⟨co,eo,hco1,hco2,hco4⟩:=ho;obtain ⟨eb,heb⟩:=h3.hd;have G0:=(hsame g (by omega) m2).trans hco1;have B0:=(hsame b (by omega) m1).trans heb;have G1:=la (o:=s*3) (v:=.int .u64 k.c) hg5;have G2:=la (o:=s*3+1) (v:=.int .i64 k.v) G1;have G3:=la (o:=s*3+2) (v:=.int .i64 k.d) G2
    have O1:∀x,x≠g2→(((w5.setCell ⟨g2,s*3,none⟩ (.int .u64 k.c)).setCell ⟨g2,s*3+1,none⟩ (.int .i64 k.v)).setCell ⟨g2,s*3+2,none⟩ (.int .i64 k.d)).heap[x]?=w5.heap[x]?:=fun x hx=>by
      rw [gm G2 hx,gm G1 hx,gm hg5 hx]
    have K1:Keeps (· = g2) w5 (((w5.setCell ⟨g2,s*3,none⟩ (.int .u64 k.c)).setCell ⟨g2,s*3+1,none⟩ (.int .i64 k.v)).setCell ⟨g2,s*3+2,none⟩ (.int .i64 k.d)):=((go (I:=(· = g2)) hg5 rfl).trans (go (I:=(· = g2)) G1 rfl)).trans (go (I:=(· = g2)) G2 rfl);generalize ((w5.setCell ⟨g2,s*3,none⟩ (.int .u64 k.c)).setCell ⟨g2,s*3+1,none⟩ (.int .i64 k.v)).setCell ⟨g2,s*3+2,none⟩ (.int .i64 k.d)=w6 at *;have C0:=(O1 g hgg).trans G0;have C1:=(O1 b hgb).trans B0;have hll:(l.take s++k::l.drop s).length=l.length+1:=by simp; omega
    have F1:=la (o:=i) (v:=.slice (some ⟨g2,0,none⟩) (l.length+1) cap2) C0;have O2:∀x,x≠g→(w6.setCell ⟨g,i,none⟩ (.slice (some ⟨g2,0,none⟩) (l.length+1) cap2)).heap[x]?=w6.heap[x]?:=fun x hx=>gm C0 hx;have K2:=go (o:=i) (v:=.slice (some ⟨g2,0,none⟩) (l.length+1) cap2) (I:=fun x=>Ft b (some g) gs x∨w.heap.size≤x) C0 (.inl (.inr (.inl rfl)));generalize w6.setCell ⟨g,i,none⟩ (.slice (some ⟨g2,0,none⟩) (l.length+1) cap2)=w7 at *;have D1:=(O2 b hbg).trans C1;have F2:=la (o:=1) (v:=.int .i64 (n+1)) D1;have O3:∀x,x≠b→(w7.setCell ⟨b,1,none⟩ (.int .i64 (n+1))).heap[x]?=w7.heap[x]?:=fun x hx=>gm D1 hx
    have K3:=go (o:=1) (v:=.int .i64 (n+1)) (I:=fun x=>Ft b (some g) gs x∨w.heap.size≤x) D1 (.inl (.inl rfl));generalize w7.setCell ⟨b,1,none⟩ (.int .i64 (n+1))=w8 at *
    have hI2:Ft b (some g) gs g2∨w.heap.size≤g2:=by
      rcases hor with q | q
      · exact .inl (.inr (.inr (q▸hgm)))
      · exact .inr (by omega)
    refine ⟨rfl,gs.set i g2,h3.put hat ⟨eb,F2⟩ ⟨co,eo,hco1,?_⟩ (c2:=cap2) ?_ (fun j x hj hx=>?_) ?_,ap7 ?_,fun x hx=>?_⟩
    · rw [O3 g hbg',F1,hll]
    · refine ⟨_,e2,by rw [O3 g2 hgb',O2 g2 hgg']; exact G3,by simp; simp at hz5; omega,?_,by rw [hll]; omega,by omega,by omega⟩;intro j u hj;have hpi:_ <+: b7 _ _ [Value.int .u64 k.c,Value.int .i64 k.v,Value.int .i64 k.d]:=aqb hsl hpre;rw [← a64 _ _ _ _ _ (by rw [i9 (by simp; omega)]; simp; omega)] at hpi;obtain ⟨t,ht⟩:=hpi;have:j<(flat (l.take s++k::l.drop s)).length:=(zaa.1 hj).1;simp only [List.setIfInBounds_toArray,List.getElem?_toArray];rw [← ht,List.getElem?_append_left this];exact hj
    · have hxm:x∈gs:=zae hx;have x1:x≠b:=fun q=>n2 (q▸hxm);have x2:x≠g:=fun q=>n3 (q▸hxm)
      have x3:x≠g':=fun q=>by
        subst q;have:=(List.getElem?_inj (zaa.1 hx).1 n4).1 (hx.trans hg'.symm);exact hj this
      have x4:=h3.lt x (.inr (.inr hxm));rw [O3 x x1,O2 x x2,O1 x (hg2b x x4 x3),hsame x x4 x3]
    · rcases hor with q | q
      · exact .inl (q▸hg')
      · refine .inr ⟨hgb',hgg',fun hm=>?_⟩;have:=h3.lt g2 (.inr (.inr hm));omega
    · have kd:Keeps (fun x=>Ft b (some g) gs x∨w.heap.size≤x) w4 w4.drew:=⟨rfl,rfl,rfl,zah _,fun _ _ _=>rfl⟩
      have k4:=hK4.mono (J:=fun x=>Ft b (some g) gs x∨w.heap.size≤x) fun x hx=>.inl (.inr (.inr (hx▸hgm)));have k5:=hK5.mono (J:=fun x=>Ft b (some g) gs x∨w.heap.size≤x) fun x hx=>hx▸hI2;have k6:=K1.mono (J:=fun x=>Ft b (some g) gs x∨w.heap.size≤x) fun x hx=>hx▸hI2;exact (((((((((dq.trans (hK2 _)).trans (hK3 _)).trans dq).trans k4).trans kd).trans k5).trans k6).trans K2).trans K3)
    · rcases hx with q | q | q
      · exact .inl (.inl q)
      · exact .inl (.inr (.inl q))
      · rcases zau q with q | q
        · exact .inl (.inr (.inr q))
        · exact q▸hI2

open Go Go.RowKit
set_option maxRecDepth 100000

open Go Go.RowKit
set_option maxRecDepth 100000

open Go Go.RowKit
set_option maxRecDepth 100000

open Go Go.RowKit
set_option maxRecDepth 100000

open Go Go.RowKit
set_option maxRecDepth 100000

open Go
theorem ang (a:Ky):kl a a=false:=by simp [kl]
theorem aff {a b c:Ky} (h1:kl a b=true) (h2:kl b c=true):kl a c=true:=by
 unfold kl at *;split at h1<;>split at h2<;>split<;>(try split at h1)<;>(try split at h2)<;>(try split)<;>simp at * <;> omega
theorem a74 {a b:Ky} (h1:kl a b=false) (h2:kl b a=false):a=b:=by
 rcases a with ⟨a1,a2,a3⟩
 rcases b with ⟨b1,b2,b3⟩
 unfold kl at *;simp only [Ky.mk.injEq];split at h1<;>split at h2<;>(try split at h1)<;>(try split at h2)<;>simp at * <;> omega
theorem a24 {a b:Ky} (h1:kl b a=false):a=b∨kl a b=true:=by
 cases h:kl a b
 ·exact .inl (a74 h h1)
 ·exact .inr rfl
abbrev Srt (l:List Ky):Prop:=l.Pairwise fun a b=>kl a b=true
structure Good (ns:List (List Ky)):Prop where
 ne:∀l∈ns,l≠[]∧l.length≤32
 so:Srt ns.flatten
def nk (k:Ky):List Ky→Bool
 | q::_=>kl k q
 | []=>true
def i5 (ns:List (List Ky)) (k:Ky):Nat:=ns.findIdx (nk k)
def plc (l:List Ky) (k:Ky):Nat:=l.findIdx fun q=>!kl q k
theorem aw9 {l:List Ky} (h:Srt l) {i j:Nat} {a b:Ky} (hij:i<j) (ha:l[i]?=some a) (hb:l[j]?=some b):kl a b=true:=by
 obtain ⟨hi,rfl⟩:=zaa.1 ha;obtain ⟨hj,rfl⟩:=zaa.1 hb;exact zan.1 h i j hi hj hij
theorem a7k {l:List Ky} (h:Srt l) (k:Ky):Plc l k (plc l k):=by
 refine ⟨List.findIdx_le_length,fun i q hi hq=>?_,fun i q hi hq=>?_⟩
 ·obtain ⟨hl,rfl⟩:=zaa.1 hq;have:=List.not_of_lt_findIdx hi;simpa using this
 ·obtain ⟨hl,rfl⟩:=zaa.1 hq;have hs:plc l k<l.length:=by omega
  have h0:kl l[plc l k] k=false:=by
   have:=List.findIdx_getElem (w:=hs);simp only [Bool.not_eq_true'] at this;exact this
  by_cases he:plc l k=i
  ·subst he; exact h0
  ·have h1:=aw9 h (show plc l k<i by omega) (zao hs) (zao hl);cases h2:kl l[i] k
   ·rfl
   ·rw [aff h1 h2] at h0; cases h0
theorem Good.node {ns:List (List Ky)} (h:Good ns) {i:Nat} {l:List Ky} (hl:ns[i]?=some l):Srt l:=(List.pairwise_flatten.1 h.so).1 l (zae hl)
theorem Good.apart {ns:List (List Ky)} (h:Good ns) {i j:Nat} {l m:List Ky} (hij:i<j) (hl:ns[i]?=some l) (hm:ns[j]?=some m):∀x∈l,∀y∈m,kl x y=true:=by
 obtain ⟨hi,rfl⟩:=zaa.1 hl;obtain ⟨hj,rfl⟩:=zaa.1 hm;exact zan.1 (List.pairwise_flatten.1 h.so).2 i j hi hj hij
theorem Good.len {ns:List (List Ky)} (h:∀l∈ns,l≠[]):ns.length≤ns.flatten.length:=by
 induction ns with
 | nil=>simp
 | cons l ns ih=>
  have h1:l≠[]:=h l (by simp);have h2:=ih fun l hl=>h l (by simp [hl]);have h3:0<l.length:=List.length_pos_iff.2 h1;simp only [zap,zai,zam];omega
theorem ap4 {ns:List (List Ky)} (h:Good ns) (hn:ns.flatten.length≤1000000) (k:Ky):Nod ns k (i5 ns k):=by
 refine ⟨List.findIdx_le_length,?_,fun i l hl=>?_,fun i q x hi hq=>?_,fun i q x hi hq=>?_⟩
 ·have:=Good.len fun l hl=>(h.ne l hl).1;simp only [maxLen];omega
 ·have:=h.ne l (zae hl);exact ⟨this.1,by simp only [maxLen]; omega⟩
 ·obtain ⟨hl,hx⟩:=zaa.1 hq;have:=List.not_of_lt_findIdx hi;rw [hx] at this;simpa [nk] using this
 ·obtain ⟨hl,hx⟩:=zaa.1 hq;have hs:i5 ns k<ns.length:=by omega
  have h0:nk k ns[i5 ns k]=true:=List.findIdx_getElem (w:=hs);by_cases he:i5 ns k=i
  ·have:ns[i5 ns k]=q::x:=by subst he; exact hx
   rw [this] at h0;exact h0
  ·rcases hq0:ns[i5 ns k] with _ | ⟨q0,x0⟩
   ·exact absurd hq0 (h.ne _ (List.getElem_mem hs)).1
   ·rw [hq0] at h0;have h1:=h.apart (show i5 ns k<i by omega) ((zao hs).trans (by rw [hq0])) hq q0 (by simp) q (by simp);exact aff h0 h1
def ja (ns:List (List Ky)) (k:Ky):List (List Ky)×Bool:=
 if ns=[] then ([[k]],true) else
  if (ns.getD (i5 ns k-1) [])[plc (ns.getD (i5 ns k-1) []) k]?=some k then (ns,false) else
   if (ns.getD (i5 ns k-1) []).length<32 then
    (ns.set (i5 ns k-1) ((ns.getD (i5 ns k-1) []).take (plc (ns.getD (i5 ns k-1) []) k)++k::(ns.getD (i5 ns k-1) []).drop (plc (ns.getD (i5 ns k-1) []) k)),true)
   else
    (ns.take (i5 ns k-1)++((ns.getD (i5 ns k-1) []).take (plc (ns.getD (i5 ns k-1) []) k)++k::(ns.getD (i5 ns k-1) []).drop (plc (ns.getD (i5 ns k-1) []) k)).take 16 ::
     ((ns.getD (i5 ns k-1) []).take (plc (ns.getD (i5 ns k-1) []) k)++k::(ns.getD (i5 ns k-1) []).drop (plc (ns.getD (i5 ns k-1) []) k)).drop 16::ns.drop (i5 ns k-1+1),true)
def ba6 (ns:List (List Ky)) (k:Ky):List (List Ky)×Bool:=
 if ns=[] then (ns,false) else
  if (ns.getD (i5 ns k-1) [])[plc (ns.getD (i5 ns k-1) []) k]?=some k then
   if 2≤(ns.getD (i5 ns k-1) []).length then
    (ns.set (i5 ns k-1) ((ns.getD (i5 ns k-1) []).take (plc (ns.getD (i5 ns k-1) []) k)++(ns.getD (i5 ns k-1) []).drop (plc (ns.getD (i5 ns k-1) []) k+1)),true)
   else (ns.eraseIdx (i5 ns k-1),true)
  else (ns,false)
structure Spt (ns:List (List Ky)) (k:Ky) (i s:Nat) (l:List Ky):Prop where
 nx:i5 ns k-1=i
 nd:Nod ns k (i5 ns k)
 at_:ns[i]?=some l
 gd:ns.getD i []=l
 px:plc l k=s
 pl:Plc l k s
 ahead:∀x∈(ns.take i).flatten,kl x k=true
 behind:∀x∈(ns.drop (i+1)).flatten,kl k x=true
 all:ns.flatten=(ns.take i).flatten++(l++(ns.drop (i+1)).flatten)
 ne:l≠[]
 le:l.length≤32
theorem spt {ns:List (List Ky)} (h:Good ns) (hn:ns.flatten.length≤1000000) (k:Ky) (h0:ns≠[]):∃i s l,Spt ns k i s l:=by
 have hN:=ap4 h hn k;have hpos:0<ns.length:=List.length_pos_iff.2 h0;have hi:i5 ns k-1<ns.length:=by have:=hN.le; omega
 have hl:ns[i5 ns k-1]?=some ns[i5 ns k-1]:=zao hi;obtain ⟨l,hll⟩:∃l,ns[i5 ns k-1]=l:=⟨_,rfl⟩
 rw [hll] at hl;have hne:=h.ne l (zae hl);refine ⟨i5 ns k-1,plc l k,l,rfl,hN,hl,by simp [List.getD,hl],rfl,a7k (h.node hl) k,fun x hx=>?_,fun x hx=>?_,?_,hne.1,hne.2⟩
 ·obtain ⟨m,hm,hxm⟩:=List.mem_flatten.1 hx;obtain ⟨j,hj⟩:=zaf.1 hm;rw [List.getElem?_take] at hj;split at hj
  ·rename_i hji;obtain ⟨q,t,rfl⟩:=zav hne.1;have h1:=h.apart hji hj hl x hxm q (by simp);have h2:=hN.lo (i5 ns k-1) q t (by omega) hl;rcases a24 h2 with rfl | h3
   ·exact h1
   ·exact aff h1 h3
  ·cases hj
 ·obtain ⟨m,hm,hxm⟩:=List.mem_flatten.1 hx;obtain ⟨j,hj⟩:=zaf.1 hm;rw [List.getElem?_drop] at hj;have hnm:=(h.ne m (zae hj)).1;obtain ⟨q,t,rfl⟩:=zav hnm;have h1:=hN.hi _ q t (by omega) hj;rcases zad.1 hxm with rfl | hxt
  ·exact h1
  ·have h2:=h.node hj;exact aff h1 (List.rel_of_pairwise_cons h2 hxt)
 ·have e1:ns=ns.take (i5 ns k-1)++l::ns.drop (i5 ns k-1+1):=by
   rw [← hll,List.getElem_cons_drop,zaj]
  conv=>lhs; rw [e1]
  simp
theorem atj {ns:List (List Ky)} {i:Nat} (hi:i<ns.length) (m:List Ky):(ns.set i m).flatten=(ns.take i).flatten++(m++(ns.drop (i+1)).flatten):=by
 rw [List.set_eq_take_append_cons_drop,if_pos hi];simp

section
variable {ns:List (List Ky)} {k:Ky} {i s:Nat} {l:List Ky}
theorem Spt.mem (h:Good ns) (hs:Spt ns k i s l):l[s]?=some k↔k∈ns.flatten:=by
 constructor
 ·intro he;rw [hs.all];exact zab.2 (.inr (zab.2 (.inl (zae he))))
 ·intro hm;rw [hs.all] at hm;rcases zab.1 hm with q | q
  ·have:=hs.ahead k q; rw [ang] at this; cases this
  ·rcases zab.1 q with q | q
   ·obtain ⟨j,hj⟩:=zaf.1 q;rcases Nat.lt_trichotomy j s with h1 | h1 | h1
    ·have:=hs.pl.lo j k h1 hj; rw [ang] at this; cases this
    ·exact h1▸hj
    ·have hjl:=(zaa.1 hj).1;have hsl:l[s]?=some (l[s]'(by omega)):=by simp [show s<l.length by omega]
     have h2:=aw9 (h.node hs.at_) h1 hsl hj;rw [hs.pl.hi s _ (zah _) hsl] at h2;cases h2
   ·have:=hs.behind k q; rw [ang] at this; cases this
theorem Spt.lt (hs:Spt ns k i s l):i<ns.length:=(zaa.1 hs.at_).1
theorem Spt.lo_ (hs:Spt ns k i s l):∀x∈l.take s,kl x k=true:=fun x hx=>by
 obtain ⟨j,hj⟩:=zaf.1 hx;rw [List.getElem?_take] at hj;split at hj
 ·rename_i h1; exact hs.pl.lo j x h1 hj
 ·cases hj
theorem Spt.hi_ (h:Good ns) (hs:Spt ns k i s l) (hk:l[s]?≠some k):∀x∈l.drop s,kl k x=true:=fun x hx=>by
 obtain ⟨j,hj⟩:=zaf.1 hx;rw [List.getElem?_drop] at hj;have h1:=hs.pl.hi (s+j) x (by omega) hj;rcases a24 h1 with rfl | h2
 ·exact absurd ((hs.mem h).2 (by rw [hs.all]; exact zab.2 (.inr (zab.2 (.inl (zae hj)))))) hk
 ·exact h2
theorem Spt.ins (h:Good ns) (hs:Spt ns k i s l) (hk:l[s]?≠some k):Srt ((ns.take i).flatten++((l.take s++k::l.drop s)++(ns.drop (i+1)).flatten)):=by
 have hso:=h.so;rw [hs.all] at hso;have e:∀(X Z:List Ky),X++(l.take s++k::l.drop s++Z)=(X++l.take s)++k::(l.drop s++Z):=fun X Z=>by simp
 have e2:∀(X Z:List Ky),X++(l++Z)=(X++l.take s)++(l.drop s++Z):=fun X Z=>by
  rw [List.append_assoc,← List.append_assoc (l.take s),zaj]
 rw [e];rw [e2] at hso;rw [Srt,List.pairwise_append] at hso ⊢;obtain ⟨h1,h2,h3⟩:=hso;have lo:∀x∈(ns.take i).flatten++l.take s,kl x k=true:=fun x hx=>(zab.1 hx).elim (hs.ahead x) (hs.lo_ x);have hi:∀x∈l.drop s++(ns.drop (i+1)).flatten,kl k x=true:=fun x hx=>(zab.1 hx).elim (hs.hi_ h hk x) (hs.behind x);refine ⟨h1,List.pairwise_cons.2 ⟨hi,h2⟩,fun a ha b hb=>?_⟩;rcases zad.1 hb with rfl | hb
 ·exact lo a ha
 ·exact h3 a ha b hb
end
structure PutL (ns ns':List (List Ky)) (k:Ky) (f:Bool):Prop where
 good:Good ns'
 flag:f=!decide (k∈ns.flatten)
 mem:∀x,x∈ns'.flatten↔x=k∨x∈ns.flatten
 len:ns'.flatten.length=ns.flatten.length+f.toNat
theorem atx {ns:List (List Ky)} (h:Good ns) (hn:ns.flatten.length≤1000000) (k:Ky):PutL ns (ja ns k).1 k (ja ns k).2:=by
 by_cases h0:ns=[]
 ·subst h0;refine ⟨⟨by simp [ja],by simp [ja,Srt]⟩,by simp [ja],by simp [ja],by simp [ja]⟩
 ·obtain ⟨i,s,l,hs⟩:=spt h hn k h0;have hm:=hs.mem h;unfold ja;rw [if_neg h0,hs.nx,hs.gd,hs.px];by_cases hk:l[s]?=some k
  ·rw [if_pos hk];refine ⟨h,by simp [hm.1 hk],fun x=>⟨.inr,?_⟩,by simp⟩;rintro (rfl | hx)
   ·exact hm.1 hk
   ·exact hx
  ·rw [if_neg hk];have hk':k∉ns.flatten:=fun q=>hk (hm.2 q);have hso:=hs.ins h hk
   have key:∀N:List (List Ky),(∀m∈N,m≠[]∧m.length≤32)→N.flatten=(ns.take i).flatten++((l.take s++k::l.drop s)++(ns.drop (i+1)).flatten)→PutL ns N k true:=fun N hN hf=>by
    refine ⟨⟨hN,by rw [hf]; exact hso⟩,by simp [hk'],fun x=>?_,?_⟩
    ·rw [hf,hs.all]
     conv=>rhs; rw [← zaj s l]
     simp only [zab,zad];constructor
     ·rintro (q | (q | q | q) | q)<;>simp [q]
     ·rintro (q | q | (q | q) | q)<;>simp [q]
    ·rw [hf,hs.all]
     conv=>rhs; rw [← zaj s l]
     simp only [zam,zap,Bool.toNat_true];omega
   have hll:(l.take s++k::l.drop s).length=l.length+1:=by
    have:=hs.pl.le;simp;omega
   split
   ·refine key _ (fun m hm=>?_) (atj hs.lt _);rcases zau hm with q | rfl
    ·exact h.ne m q
    ·exact ⟨by simp,by rw [hll]; omega⟩
   ·refine key _ (fun m hm=>?_) ?_
    ·rcases zab.1 hm with q | q
     ·exact h.ne m (List.mem_of_mem_take q)
     ·have hle:=hs.le;rcases zad.1 q with rfl | q
      ·refine ⟨fun e=>?_,by rw [List.length_take]; omega⟩;have:=congrArg List.length e;rw [List.length_take,hll] at this;simp at this
      ·rcases zad.1 q with rfl | q
       ·refine ⟨fun e=>?_,by rw [List.length_drop,hll]; omega⟩;have:=congrArg List.length e;rw [List.length_drop,hll] at this;simp at this;omega
       ·exact h.ne m (List.mem_of_mem_drop q)
    ·rw [List.flatten_append,zai,zai,← List.append_assoc (List.take 16 _),zaj]
structure DelL (ns ns':List (List Ky)) (k:Ky) (f:Bool):Prop where
 good:Good ns'
 flag:f=decide (k∈ns.flatten)
 mem:∀x,x∈ns'.flatten↔x≠k∧x∈ns.flatten
 len:ns'.flatten.length+f.toNat=ns.flatten.length

open Go Go.RowKit
def tr (ns:List (List Ky)):AbsT:=a9r ns ns.flatten.length
theorem aul {b:Nat} {og og':Option Nat} {gs gs':List Nat} {w:World} (h:∀x,Ft b og' gs' x→Ft b og gs x∨w.heap.size≤x) (hb:(b::(og'.toList++gs')).Nodup):∀j c,fpt og' gs' j=some c→(∃j',fpt og gs j'=some c)∨w.heap.size≤c:=fun j c hj=>by
 have h1:=abd.1 ⟨j,hj⟩;rcases h c (.inr h1) with h2 | h2
 ·rcases h2 with rfl | h2
  ·exfalso;have:=(List.nodup_cons.1 hb).1;apply this;rcases h1 with q | q
   ·exact zab.2 (.inl (by rw [q]; simp))
   ·exact zab.2 (.inr q)
  ·exact .inl (abd.2 h2)
 ·exact .inr h2
theorem ayz {w w':World} {b:Nat} {og:Option Nat} {gs:List Nat} (h:Keeps (Ft b og gs) w w'):Keeps (fun x=>x=b∨∃j,fpt og gs j=some x) w w':=h.mono fun x hx=>by
 rcases hx with q | q
 ·exact .inl q
 ·exact .inr (abd.2 q)
theorem a9y {ns:List (List Ky)} (h:Good ns) (hn:ns.flatten.length≤30) (k:Ky):a7 P0 64 [.ptr 1000000 0 0,k.av] [.abs (tr ns)] (bl (ja ns k).2) [.abs (tr (ja ns k).1)]:=by
 refine au8 rfl fun w b φ hQ=>?_;obtain ⟨og,gs,cap,hT,rfl⟩:=hQ;have hL:=atx h (by omega) k;by_cases h0:ns=[]
 ·subst h0;refine (put0_w hT k).mono ?_;rintro e w' ⟨rfl,og',gs',cap',hT',hK,hF⟩;exact ⟨rfl,fpt og' gs',⟨og',gs',cap',hT',rfl⟩,ayz hK,aul hF hT'.nb⟩
 ·obtain ⟨i,s,l,hs⟩:=spt h (by omega) k h0;have hlen:=Good.len fun l hl=>(h.ne l hl).1;have hnd:=hs.nd;have hat:=hs.at_;rw [← hs.nx] at hat;by_cases hk:l[s]?=some k
  ·refine (a7d hT k _ s l hnd hat hs.pl hk).mono ?_;rintro e w' ⟨rfl,hT',hK⟩
   have hp:ja ns k=(ns,false):=by
    unfold ja;rw [if_neg h0,hs.nx,hs.gd,hs.px,if_pos hk]
   rw [hp];exact ⟨rfl,fpt og gs,⟨og,gs,cap,hT',rfl⟩,hK _,fun j c hj=>.inl ⟨j,hj⟩⟩
  ·by_cases hl:l.length<32
   ·refine (put2_w hT k _ s l hnd hat hs.pl hk hl (by omega) (by omega)).mono ?_;rintro e w' ⟨rfl,gs',hT',hK,hF⟩
    have hp:ja ns k=(ns.set (i5 ns k-1) (l.take s++k::l.drop s),true):=by
     unfold ja;rw [if_neg h0,hs.nx,hs.gd,hs.px,if_neg hk,if_pos hl]
    rw [hp] at hL ⊢;refine ⟨rfl,fpt og gs',⟨og,gs',cap,?_,rfl⟩,ayz hK,aul hF hT'.nb⟩;have:=hL.len;simp only [Bool.toNat_true] at this;rw [this];exact hT'
   ·exact absurd (List.Sublist.length_le (List.sublist_flatten_of_mem (zae hat))) (by omega)
theorem a94 (w:World):Calls P0 61 #[] w fun e w'=>e=.returned (.pointer (some ⟨w.heap.size,0,none⟩))∧TL w' w.heap.size none [] 0 [] 0∧∀I,Keeps I w w':=by
 go_enter Go.Proofs.Tryz.func61,Go.Proofs.Tryz.ntmps61
 go_wp2_with fail
 go_ret
 refine ⟨rfl,⟨⟨_,aez rfl⟩,by simp,by simp,by simp,by simp,rfl,by simp⟩,fun I=>dq⟩
theorem a95:a7 P0 61 [] [] (.ptr 1000000 0 0) [.abs (tr [])]:=by
 intro w cargs ρ B hgl hB hM hcs hargs;have hc:cargs=#[]:=by simpa using hcs
 subst hc;refine (a94 w).mono ?_;rintro e w' ⟨rfl,hT,hK⟩;have hno:∀b,¬ek (ob0 []) ρ b:=fun b ⟨_,_,h,_⟩=>by simp [ob0,obs] at h
 have hid:∀(T0:AbsT) id x,ob0 [Ob.abs T0] id=some x→id=1000000∧x=(0,.abs T0):=fun T0 id x hx=>by
  obtain ⟨h1,h2,h3⟩:=rc hx
  have:id-1000000=0:=by
   have:=(zaa.1 h2).1;simpa using this
  have hid:id=1000000:=by omega
  subst hid;have hob0:ob0 [Ob.abs T0] 1000000=some (0,.abs T0):=by simp [ob0,obs,upd]
  rw [hob0] at hx;exact ⟨rfl,(Option.some.inj hx).symm⟩
 obtain ⟨ρ',h1,h2⟩:∃ρ':Pl→Option Nat,ρ' (.o 1000000)=some w.heap.size∧∀j,ρ' (.s 1000000 j)=none:=⟨fun | .o i=>if i=1000000 then some w.heap.size else none | .s i j=>none,by simp,by simp⟩
 refine ⟨_,ρ',rfl,⟨fun id v o hx=>?_,fun id id' x x' c hx hx' _ _=>?_,hK _,fun id v o c hx hf=>?_,fun id c hp=>?_⟩,?_⟩
 ·obtain ⟨rfl,hx⟩:=hid _ id _ hx;cases hx;refine ⟨w.heap.size,h1,none,[],0,hT,?_⟩;funext j;rw [h2];cases j<;>rfl
 ·rw [(hid _ id _ hx).1,(hid _ id' _ hx').1]
 ·obtain ⟨rfl,hx⟩:=hid _ id _ hx;cases hx;rcases hf with hf | ⟨_,j,hf⟩
  ·rw [h1] at hf; cases hf; exact .inr (zah _)
  ·rw [h2] at hf; cases hf
 ·simp [io,obs] at hp
 ·exact .ptr 1000000 0 0 _ rfl ⟨0,.abs (tr []),by simp [ob0,obs,upd],zah _,fun _=>⟨w.heap.size,h1,rfl⟩⟩

structure Pt where
 k:Int
 x:Int
 y:Int
 v:Int
deriving DecidableEq
def Pt.rv (p:Pt):RV:=.agg [.v (.int .i64 p.k),.v (.int .i64 p.x),.v (.int .i64 p.y),.v (.int .i64 p.v)]
def Pt.av (p:Pt):AV:=.r p.rv
def Pt.val (p:Pt):Value:=.agg #[.int .i64 p.k,.int .i64 p.x,.int .i64 p.y,.int .i64 p.v]
def Pt.ok (p:Pt):Prop:=(1≤p.k∧p.k≤2147483648)∧inW p.x p.y∧(-2147483648≤p.v∧p.v≤2147483647)
instance (p:Pt):Decidable p.ok:=inferInstanceAs (Decidable (_∧_∧_))
def Pt.w (p:Pt) (r:Nat):Nat:=a6m p.x p.y r
structure MapL (l:List (Value×Value)) (es:List MapEntry) (c:Nat):Prop where
 kv:es.map (fun e=>(e.key,e.val))=l
 nd:(es.map (·.born)).Nodup
 lt:∀e∈es,e.born<c
theorem MapL.len {l:List (Value×Value)} {es:List MapEntry} {c:Nat} (h:MapL l es c):es.length=l.length:=by rw [← h.kv]; simp
theorem ar4:MapL [] [] 0:=⟨rfl,by simp,by simp⟩
section
variable {α:Type} (kd:IntKind) (kf:α→Int) (vf:α→Value)
def ent (a:α):Value×Value:=(.int kd (kf a),vf a)
theorem ar1 {l:List α} {k:Int}:∀{es:List MapEntry} (i:Nat),es.map (fun e=>(e.key,e.val))=l.map (ent kd kf vf) →
  ec (.int kd k) es i=some ((l.findIdx? fun a=>k == kf a).bind fun j=>(l[j]?).map fun a=>(i+j,vf a)):=by
 induction l with
 | nil=>
  intro es i h;have:es=[]:=by simpa using h
  subst this
  rfl
 | cons a l ih=>
  intro es i h;cases es with
  | nil=>simp at h
  | cons e es=>
   simp only [zak,List.cons.injEq,ent,Prod.mk.injEq] at h;obtain ⟨⟨h1,h2⟩,h3⟩:=h;simp only [ec,h1,xy,if_true];by_cases hka:k=kf a
   ·simp [hka,zaq,h2]
   ·have hb:(k == kf a)=false:=by simp [hka]
    rw [hb];simp only;rw [ih (i+1) h3,zaq];simp only [hb,Bool.false_eq_true,if_false];congr 1;cases hf:l.findIdx? fun a=>k == kf a with
    | none=>rfl
    | some j=>
     simp only [Option.map_some,Option.bind_some,List.getElem?_cons_succ];congr 1;funext b;congr 1;omega
variable {kd kf vf}
theorem afd {l:List α} {es:List MapEntry} {c:Nat} {k:Int} {v:Value} (h:MapL (l.map (ent kd kf vf)) es c) (hn:∀a∈l,k≠kf a) :
  okK es (.int kd k)=true∧lkB es (.int kd k)=false∧(∀z,lkR es (.int kd k) z=z)∧MapL (l.map (ent kd kf vf)++[(.int kd k,v)]) (ea es c (.int kd k) v) (fo es c (.int kd k))∧ya es (.int kd k)=es:=by
 have hf:ec (.int kd k) es 0=some none:=by
  rw [ar1 kd kf vf 0 h.kv,show (l.findIdx? fun a=>k == kf a)=none from List.findIdx?_eq_none_iff.2 fun a ha=>by simp [hn a ha]]
  rfl
 refine ⟨by simp [okK,hf],by simp [lkB,hf],fun z=>by simp [lkR,hf],?_,by simp [ya,hf]⟩;simp only [ea,fo,hf];refine ⟨by simp [h.kv],?_,?_⟩
 ·rw [zar,List.nodup_append];refine ⟨h.nd,by simp,fun b hb b' hb'=>?_⟩;simp at hb';obtain ⟨e,he,rfl⟩:=zag.1 hb;have:=h.lt e he;omega
 ·intro e he;rcases zab.1 he with he | he
  ·have:=h.lt e he; omega
  ·simp at he; subst he; simp
theorem ane {β γ:Type} (f:β→γ) (g:β→β) (g':γ→γ) (hg:∀b,f (g b)=g' (f b)) (l:List β) (i:Nat):(l.modify i g).map f=(l.map f).modify i g':=by
 induction l generalizing i with
 | nil=>simp
 | cons a l ih=>cases i with
  | zero=>simp [hg]
  | succ i=>simp [ih]
theorem zo {β γ:Type} (f:β→γ) (l:List β) (i:Nat):(l.eraseIdx i).map f=(l.map f).eraseIdx i:=by
 induction l generalizing i with
 | nil=>simp
 | cons a l ih=>cases i with
  | zero=>simp
  | succ i=>simp [ih]
theorem ary {l:List α} {es:List MapEntry} {c:Nat} {k:Int} {v:Value} {i:Nat} {a:α} (h:MapL (l.map (ent kd kf vf)) es c) (hi:(l.findIdx? fun a=>k == kf a)=some i) (ha:l[i]?=some a) :
  okK es (.int kd k)=true∧lkB es (.int kd k)=true∧(∀z,lkR es (.int kd k) z=gr (vf a))∧MapL ((l.map (ent kd kf vf)).set i (.int kd k,v)) (ea es c (.int kd k) v) (fo es c (.int kd k))∧MapL ((l.eraseIdx i).map (ent kd kf vf)) (ya es (.int kd k)) c:=by
 have hf:ec (.int kd k) es 0=some (some (i,vf a)):=by
  rw [ar1 kd kf vf 0 h.kv,hi];simp [ha]
 have hlt:=(zaa.1 ha).1;simp only [ea,fo,ya,hf];refine ⟨by simp [okK,hf],by simp [lkB,hf],fun z=>by simp [lkR,hf],⟨?_,?_,?_⟩,⟨?_,?_,?_⟩⟩
 ·rw [ane (fun e:MapEntry=>(e.key,e.val)) _ (fun _=>(.int kd k,v)) (fun b=>rfl),h.kv];apply List.ext_getElem?;intro j;rw [zaw,zas];by_cases hij:i=j
  ·subst hij;simp [hlt]
  ·simp [hij]
 ·have:(es.modify i fun e=>{ e with key:=.int kd k,val:=v }).map (·.born)=es.map (·.born):=by
   rw [ane (fun e:MapEntry=>e.born) (fun e=>{ e with key:=Value.int kd k,val:=v }) id (fun b=>rfl)];apply List.ext_getElem?;intro j;rw [zaw];split<;>simp
  rw [this];exact h.nd
 ·intro e he;obtain ⟨j,hj⟩:=zaf.1 he;rw [zaw] at hj;obtain ⟨e0,he0,he1⟩:=Option.map_eq_some_iff.1 hj;have:=h.lt e0 (zae he0);rw [← he1];split<;>exact this
 ·rw [zo,h.kv,zo]
 ·rw [zo];exact h.nd.sublist (List.eraseIdx_sublist _ _)
 ·intro e he;exact h.lt e ((List.eraseIdx_sublist _ _).mem he)
end

abbrev ptE:Pt→Value×Value:=ent .i64 (·.k) Pt.val
structure PM (L:List Pt) (es:List MapEntry) (c:Nat):Prop where
 m:MapL (L.map ptE) es c
 nd:(L.map (·.k)).Nodup
def a3g (k:Int) (L:List Pt):List Pt:=L.filter fun q=>q.k != k
theorem a2y {L:List Pt} {es:List MapEntry} {c:Nat} (h:PM L es c) {k:Int} (hn:∀q∈L,q.k≠k):okK es (.int .i64 k)=true∧lkB es (.int .i64 k)=false∧(∀z,lkR es (.int .i64 k) z=z)∧ya es (.int .i64 k)=es:=by
 obtain ⟨h1,h2,h3,h4,h5⟩:=afd (v:=.int .i64 0) h.m (fun a ha e=>hn a ha e.symm);exact ⟨h1,h2,h3,h5⟩
theorem ax5 {L:List Pt} {es:List MapEntry} {c:Nat} (h:PM L es c) {p:Pt} (hn:∀q∈L,q.k≠p.k):okK es (.int .i64 p.k)=true∧PM (L++[p]) (ea es c (.int .i64 p.k) p.val) (fo es c (.int .i64 p.k)):=by
 obtain ⟨h1,h2,h3,h4,h5⟩:=afd (v:=p.val) h.m (fun a ha e=>hn a ha e.symm);refine ⟨h1,by rw [zar]; exact h4,?_⟩;rw [zar,List.nodup_append];refine ⟨h.nd,by simp,fun a ha b hb=>?_⟩;simp at hb;subst hb;obtain ⟨q,hq,rfl⟩:=zag.1 ha;exact hn q hq
theorem a7h {L:List Pt} {es:List MapEntry} {c:Nat} (h:PM L es c):es.length=L.length:=by rw [h.m.len]; simp
abbrev cnE:Nat×Int→Value×Value:=ent .u64 (fun q=>(q.1:Int)) (fun q=>.int .i64 q.2)
structure CM (f:Nat→Nat) (es:List MapEntry) (c:Nat):Prop where
 ex:∃ws:List (Nat×Int),MapL (ws.map cnE) es c∧(ws.map (·.1)).Nodup∧∀w n,(w,n)∈ws↔n=(f w:Int)∧0<f w
theorem a8s:CM (fun _=>0) [] 0:=⟨[],ar4,by simp,by simp⟩
theorem aun {ws:List (Nat×Int)} (hnd:(ws.map (·.1)).Nodup) {w:Nat} {n:Int} (h:(w,n)∈ws):∃i,(ws.findIdx? fun a=>((w:Int)) == ((a.1:Nat):Int))=some i∧ws[i]?=some (w,n):=by
 induction ws with
 | nil=>simp at h
 | cons a ws ih=>
  rw [zak,List.nodup_cons] at hnd;by_cases ha:a=(w,n)
  ·subst ha;exact ⟨0,by simp [zaq],rfl⟩
  ·have h':(w,n)∈ws:=by
    rcases zad.1 h with h | h
    ·exact absurd h.symm ha
    ·exact h
   obtain ⟨i,h1,h2⟩:=ih hnd.2 h';have hk:a.1≠w:=fun e=>hnd.1 (zag.2 ⟨_,h',e.symm⟩);refine ⟨i+1,?_,by simpa using h2⟩;rw [zaq,h1];have:(((w:Int)) == ((a.1:Nat):Int))=false:=by simp; omega
   simp [this]
theorem awa {f:Nat→Nat} {ws:List (Nat×Int)} (h:∀w n,(w,n)∈ws↔n=(f w:Int)∧0<f w) {w:Nat} (h0:f w=0):∀a∈ws,(w:Int)≠((a.1:Nat):Int):=fun a ha e=>by
 have e':w=a.1:=by omega
 subst e';have:=((h a.1 a.2).1 ha).2;omega
theorem a8u {f:Nat→Nat} {es:List MapEntry} {c:Nat} (h:CM f es c) (w:Nat):okK es (.int .u64 w)=true∧lkR es (.int .u64 w) (.v (.int .i64 0))=.v (.int .i64 (f w)):=by
 obtain ⟨ws,h1,h2,h3⟩:=h.ex;by_cases h0:f w=0
 ·obtain ⟨g1,g2,g3,_⟩:=afd (v:=.int .i64 0) h1 (awa h3 h0);exact ⟨g1,by rw [g3,h0]; rfl⟩
 ·obtain ⟨i,hi,ha⟩:=aun h2 ((h3 w (f w)).2 ⟨rfl,by omega⟩);obtain ⟨g1,g2,g3,_⟩:=ary (v:=.int .i64 0) h1 hi ha;exact ⟨g1,by rw [g3]; rfl⟩
theorem ayh {ws:List (Nat×Int)} (h:(ws.map (·.1)).Nodup) {i:Nat} {w:Nat} {n m:Int} (hi:ws[i]?=some (w,n)):((ws.set i (w,m)).map (·.1)).Nodup∧∀u k,(u,k)∈ws.set i (w,m)↔(u=w∧k=m)∨(u≠w∧(u,k)∈ws):=by
 have e:(ws.set i (w,m)).map (·.1)=ws.map (·.1):=by
  apply List.ext_getElem?;intro j;rw [List.getElem?_map,zas,List.getElem?_map];by_cases hij:i=j
  ·subst hij;have:=(zaa.1 hi).1;rw [if_pos rfl,if_pos this,hi]
   rfl
  ·simp [hij]
 refine ⟨by rw [e]; exact h,fun u k=>?_⟩;have hlt:=(zaa.1 hi).1;constructor
 ·intro hm;obtain ⟨j,hj⟩:=zaf.1 hm;rw [zas] at hj;by_cases hij:i=j
  ·subst hij;simp [hlt] at hj;exact .inl ⟨hj.1.symm,hj.2.symm⟩
  ·simp [hij] at hj;refine .inr ⟨fun e=>?_,zae hj⟩;subst e;have a1:(ws.map (·.1))[i]?=some u:=by simp [hi]
   have a2:(ws.map (·.1))[j]?=some u:=by simp [hj]
   exact hij (ahr h a1 a2)
 ·rintro (⟨rfl,rfl⟩ | ⟨hne,hm⟩)
  ·exact zaf.2 ⟨i,by simp [hlt]⟩
  ·obtain ⟨j,hj⟩:=zaf.1 hm;refine zaf.2 ⟨j,?_⟩;rw [zas];by_cases hij:i=j
   ·subst hij;rw [hi] at hj;cases hj;exact absurd rfl hne
   ·simp [hij,hj]
def upw (f:Nat→Nat) (w n:Nat):Nat→Nat:=fun u=>if u=w then n else f u
theorem a8r {f:Nat→Nat} {es:List MapEntry} {c:Nat} (h:CM f es c) (w n:Nat) (hn:0<n):CM (upw f w n) (ea es c (.int .u64 w) (.int .i64 n)) (fo es c (.int .u64 w)):=by
 obtain ⟨ws,h1,h2,h3⟩:=h.ex;by_cases h0:f w=0
 ·obtain ⟨g1,g2,g3,g4,_⟩:=afd (v:=.int .i64 n) h1 (awa h3 h0);refine ⟨ws++[(w,(n:Int))],by simpa [ent] using g4,?_,fun u k=>?_⟩
  ·rw [zar,List.nodup_append];refine ⟨h2,by simp,fun a ha b hb=>?_⟩;simp at hb;subst hb;obtain ⟨q,hq,rfl⟩:=zag.1 ha;have:=awa h3 h0 q hq;omega
  ·simp only [zab,zat,Prod.mk.injEq,h3,upw];by_cases hu:u=w
   ·subst hu; simp [h0]; omega
   ·simp [hu]
 ·obtain ⟨i,hi,ha⟩:=aun h2 ((h3 w (f w)).2 ⟨rfl,by omega⟩);obtain ⟨g1,g2,g3,g4,_⟩:=ary (v:=.int .i64 n) h1 hi ha;obtain ⟨k1,k2⟩:=ayh (m:=(n:Int)) h2 ha;refine ⟨ws.set i (w,(n:Int)),?_,k1,fun u k=>?_⟩
  ·rw [List.map_set]; exact g4
  ·rw [k2];simp only [h3,upw];by_cases hu:u=w
   ·subst hu; simp; omega
   ·simp [hu]

theorem anb {α:Type} {l:List α} (h:l.Nodup) {i j:Nat} {x:α} (hi:l[i]?=some x) (hj:l[j]?=some x):i=j:=by
 obtain ⟨a1,b1⟩:=zaa.1 hi;obtain ⟨a2,b2⟩:=zaa.1 hj;rcases Nat.lt_trichotomy i j with hlt | rfl | hlt
 ·exact absurd (by rw [b1,b2]) (zan.1 h i j a1 a2 hlt)
 ·rfl
 ·exact absurd (by rw [b1,b2]) (zan.1 h j i a2 a1 hlt)
def cnt (L:List Pt) (r:Nat):Nat→Nat:=fun w=>L.countP fun p=>p.w r == w
theorem a5r (L:List Pt) (p:Pt) (r:Nat):cnt (L++[p]) r=upw (cnt L r) (p.w r) (cnt L r (p.w r)+1):=by
 funext w;simp only [cnt,upw,List.countP_append,List.countP_cons,List.countP_nil,Nat.zero_add];by_cases h:p.w r=w
 ·subst h; simp
 ·have:¬w=p.w r:=fun e=>h e.symm;simp [h,this]
def Pt.ky (p:Pt) (r:Nat):Ky:=⟨p.w r,p.v,p.k⟩
theorem Pt.w_res {p:Pt} (h:p.ok) {r:Nat} (hr:r<13):aou (p.w r)=true∧bi (p.w r)=r∧p.w r<18446744073709551616:=by
 have hk:=xe p.x p.y r h.2.1.1 h.2.1.2 (by omega);exact ⟨ap8 hk,(akg r _ hk).2,aoa r _ hk⟩
theorem Pt.ky_inj {p q:Pt} (hp:p.ok) (hq:q.ok) {r s:Nat} (hr:r<13) (hs:s<13) (h:p.ky r=q.ky s):r=s∧p.k=q.k:=by
 simp only [Pt.ky,Ky.mk.injEq] at h;obtain ⟨h1,h2,h3⟩:=h;have e:p.w r=q.w s:=by omega
 have a:=(Pt.w_res hp hr).2.1;have b:=(Pt.w_res hq hs).2.1;rw [e,b] at a;exact ⟨a.symm,h3⟩
structure TK (K:Ky→Prop) (n:Nat) (ns:List (List Ky)):Prop where
 g:Good ns
 m:∀x,x∈ns.flatten↔K x
 l:ns.flatten.length=n
theorem TK.put {K:Ky→Prop} {n:Nat} {ns:List (List Ky)} (h:TK K n ns) (hn:n≤100000) {k:Ky} (hk:¬K k):TK (fun x=>x=k∨K x) (n+1) (ja ns k).1∧(ja ns k).2=true:=by
 have hp:=atx h.g (by rw [h.l]; omega) k;have hf:(ja ns k).2=true:=by rw [hp.flag]; simp [h.m,hk]
 refine ⟨⟨hp.good,fun x=>by rw [hp.mem,h.m],?_⟩,hf⟩;rw [hp.len,h.l,hf]
 rfl
theorem TK.congr {K K':Ky→Prop} {n:Nat} {ns:List (List Ky)} (h:TK K n ns) (hk:∀x,K x↔K' x):TK K' n ns:=⟨h.g,fun x=>(h.m x).trans (hk x),h.l⟩
def KL (L:List Pt) (x:Ky):Prop:=∃p,p∈L∧∃r,r<13∧x=p.ky r
def nsP (ns:List (List Ky)) (p:Pt):Nat→List (List Ky)
 | 0=>ns
 | r+1=>(ja (nsP ns p r) (p.ky r)).1
def nsD (ns:List (List Ky)) (p:Pt):Nat→List (List Ky)
 | 0=>ns
 | r+1=>(ba6 (nsD ns p r) (p.ky r)).1
theorem ana {L:List Pt} {p:Pt} {n:Nat} {ns:List (List Ky)} (hp:p.ok) (hL:∀q∈L,q.ok∧q.k≠p.k) (h:TK (KL L) n ns) (hn:n≤50000):∀r,r≤13→TK (fun x=>KL L x∨∃s,s<r∧x=p.ky s) (n+r) (nsP ns p r)
 | 0,_=>h.congr fun x=>by simp
 | r+1,hr=>by
  have ih:=ana hp hL h hn r (by omega)
  have hno:¬(KL L (p.ky r)∨∃s,s<r∧p.ky r=p.ky s):=by
   rintro (⟨q,hq,s,hs,e⟩ | ⟨s,hs,e⟩)
   ·exact (hL q hq).2 (Pt.ky_inj hp (hL q hq).1 (by omega) hs e).2.symm
   ·have:=(Pt.ky_inj hp hp (by omega) (by omega) e).1; omega
  refine ((ih.put (by omega) hno).1).congr fun x=>?_;constructor
  ·rintro (rfl | h | ⟨s,hs,rfl⟩)
   ·exact .inr ⟨r,by omega,rfl⟩
   ·exact .inl h
   ·exact .inr ⟨s,by omega,rfl⟩
  ·rintro (h | ⟨s,hs,rfl⟩)
   ·exact .inr (.inl h)
   ·by_cases hsr:s=r
    ·subst hsr; exact .inl rfl
    ·exact .inr (.inr ⟨s,by omega,rfl⟩)

noncomputable def af6:PC:=
  (.seq (.reg [p_a 2 (.box (.t 0)),p_s 4 (.mov (.c (.r (.v (.int .u64 0)))))])
 (.seq (.reg [p_s 10 (.fa 1 (.t 2)),p_s 11 (.ld none (.t 10)),p_s 12 (.fa 2 (.t 2)),p_s 13 (.ld none (.t 12)),p_m 14 1,p_c 15 1 114 [.t 11,.t 13,.t 14],p_m 9 15,p_s 16 (.ext (.t 9) 0),
 p_s 17 (.ext (.t 9) 1),p_a 5 (.new [(.r (.v (.int .i64 0))),(.r (.v (.int .i64 0))),(.r (.v (.int .i64 0)))]),⟨none,none,0,.act (.st 3 (.t 5) (.t 16))⟩,p_m 6 17])
 (.seq (.reg [p_s 19 (.ld (some 3) (.t 5)),p_c 20 2 115 [.t 19],p_m 18 20,p_s 21 (.ext (.t 18) 0),p_s 22 (.ext (.t 18) 1),p_m 7 21,p_m 8 22])
 (.seq (.reg [p_m 23 7,p_m 4 23])
 .ret))))
theorem ajb:Fun P0 65 2 [(4,false,none)] af6:=b5 Go.Proofs.Tryz.func65 rfl (by decide) (by kernel_rfl) (by decide) rfl (by kernel_rfl) (by kernel_rfl) (by decide)
noncomputable def yl:PC:=
  (.seq (.reg [p_s 4 (.mov (.c (.r (.v (.bool false)))))])
 (.seq (.reg [p_m 10 0,p_s 11 (.nck (.t 10)),p_s 12 (.fa 0 (.t 11)),p_s 13 (.ld none (.t 12)),p_m 14 1,p_s 15 (.lkp false (.agg [(.v (.int .i64 0)),(.v (.int .i64 0)),(.v (.int .i64 0)),(.v (.int .i64 0))]) true (.t 13) (.t 14)),
 p_m 9 15,p_s 16 (.ext (.t 9) 0),p_s 17 (.ext (.t 9) 1),p_a 5 (.new [(.r (.v (.int .i64 0))),(.r (.v (.int .i64 0))),(.r (.v (.int .i64 0))),(.r (.v (.int .i64 0)))]),
 ⟨none,none,0,.act (.st 4 (.t 5) (.t 16))⟩,p_m 6 17])
 (.seq (.seq (.reg [p_m 18 6,p_s 19 (.un .not (.t 18))])
 (.cond (.t 19)
 (.seq (.reg [p_s 4 (.mov (.c (.r (.v (.bool false)))))])
 .ret)
 .skip))
 (.seq (.reg [p_m 20 0,p_s 21 (.nck (.t 20)),p_s 22 (.fa 0 (.t 21)),p_s 23 (.ld none (.t 22)),p_m 24 1,⟨none,none,0,.act (.mdel false (.t 23) (.t 24))⟩])
 (.seq (.seq (.reg [p_s 25 (.mov (o_i 0))])
 (.block 0 (.loop (.seq (.reg [p_s 26 (.bin .lss (.t 25) (o_i 13))])
 (.seq (.cond (.t 26)
 .skip
 (.exit 0))
 (.seq (.block 1 (.seq (.reg [p_m 27 25,p_m 7 27])
 (.seq (.reg [p_s 28 (.ld (some 4) (.t 5)),p_m 29 7,p_c 30 1 65 [.t 28,.t 29],p_m 8 30])
 (.seq (.drw [p_m 31 0,p_s 32 (.nck (.t 31)),p_s 33 (.fa 1 (.t 32)),p_s 34 (.ld none (.t 33)),p_m 35 8,p_s 36 (.fa 3 (.t 5)),p_s 37 (.ld none (.t 36)),p_m 38 1,p_s 39 (.build [(.r (.v (.int .u64 0))),(.r (.v (.int .i64 0))),(.r (.v (.int .i64 0)))] [(0,1,(.t 35)),(1,1,(.t 37)),(2,1,(.t 38))]),
 p_c 40 2 110 [.t 34,.t 39]]
 [[],[0],[0,1],[0,1,2],[],[],[5],[],[4,5,6,7],[0,1,2,3,4,5,6,7,8]])
 (.seq (.reg [p_m 41 0,p_m 42 7,p_s 43 (.nck (.t 41)),p_s 44 (.fa 2 (.t 43)),p_s 45 (.iaa 13 1 (.t 44) (.t 42)),p_s 46 (.ld none (.t 45)),p_m 47 8,p_s 48 (.lkp false (.v (.int .i64 0)) false (.t 46) (.t 47)),
 p_s 49 (.bin .sub (.t 48) (o_i 1)),⟨none,none,0,.act (.mset false (.t 46) (.t 47) (.t 49))⟩])
 (.seq (.reg [p_m 50 0,p_m 51 7,p_s 52 (.nck (.t 50)),p_s 53 (.fa 2 (.t 52)),p_s 54 (.iaa 13 1 (.t 53) (.t 51)),p_s 55 (.ld none (.t 54)),p_m 56 8,p_s 57 (.lkp false (.v (.int .i64 0)) false (.t 55) (.t 56)),
 p_s 58 (.bin .eql (.t 57) (o_i 0))])
 (.cond (.t 58)
 (.reg [p_m 59 0,p_m 60 7,p_s 61 (.nck (.t 59)),p_s 62 (.fa 2 (.t 61)),p_s 63 (.iaa 13 1 (.t 62) (.t 60)),p_s 64 (.ld none (.t 63)),p_m 65 8,⟨none,none,0,.act (.mdel false (.t 64) (.t 65))⟩])
 .skip)))))))
 (.reg [p_s 66 (.bin .add (.t 25) (o_i 1)),p_m 25 66])))))))
 (.seq (.reg [p_s 4 (.mov (.c (.r (.v (.bool true)))))])
 .ret))))))
theorem adf:Fun P0 63 2 [(4,false,none)] yl:=b5 Go.Proofs.Tryz.func63 rfl (by decide) (by kernel_rfl) (by decide) rfl (by kernel_rfl) (by kernel_rfl) (by decide)
theorem a3f (p:Pt) (r:Int) (h:p.ok) (hr:0≤r∧r≤12):a7 P0 65 [p.av,int .i64 r] [] (uw (p.w r.toNat)) []:=by
 refine ajb rfl (by decide) ?_;simp only [af6,Pt.av,Pt.rv,push_cast,↓reduceIte,reduceCtorEq,zB,zE,zA,zS,zL,zD,zM];refine a5 (bas p.x p.y r h.2.1 hr) rfl trivial ?_;simp only [cel,push_cast,↓reduceIte,reduceCtorEq,zB,zE,zA,zS,zL,zD,zM];refine a9 (as':=[cel r (c9 p.x p.y r.toNat)]) rfl ?_;refine a5 (a6l r (c9 p.x p.y r.toNat) hr.1 (xe p.x p.y r.toNat h.2.1.1 h.2.1.2 (by omega))) rfl trivial ?_;simp only [uw,push_cast,↓reduceIte,reduceCtorEq,zB,zE,zA,zS,zL,zD,zM]
 rfl
def stOs (es:List MapEntry) (c:Nat) (ns:List (List Ky)) (ce:Nat→List MapEntry) (cc:Nat→Nat):List Ob:=
 [.box [.mp 1000001 0,.ptr 1000002 0 0,.mp 1000003 0,.mp 1000004 0,.mp 1000005 0,.mp 1000006 0,.mp 1000007 0,.mp 1000008 0,.mp 1000009 0,.mp 1000010 0,.mp 1000011 0,.mp 1000012 0,.mp 1000013 0,.mp 1000014 0,.mp 1000015 0],.map es c,.abs (tr ns),.map (ce 0) (cc 0),.map (ce 1) (cc 1),.map (ce 2) (cc 2),.map (ce 3) (cc 3),.map (ce 4) (cc 4),.map (ce 5) (cc 5),.map (ce 6) (cc 6),.map (ce 7) (cc 7),.map (ce 8) (cc 8),.map (ce 9) (cc 9),.map (ce 10) (cc 10),.map (ce 11) (cc 11),.map (ce 12) (cc 12)]
theorem atr (a b:List (List Ky)):(tr a).size=(tr b).size:=rfl
def stg {α:Type} (new old:Nat→α) (r j:Nat):α:=if j<r then new j else old j
theorem a9u {α:Type} (new old:Nat→α):stg new old 0=old:=by funext j; simp [stg]
structure StL (L:List Pt) (es:List MapEntry) (c:Nat) (ns:List (List Ky)) (ce:Nat→List MapEntry) (cc:Nat→Nat):Prop where
 ok:∀q∈L,q.ok
 le:L.length≤2000
 pm:PM L es c
 tk:TK (KL L) (13*L.length) ns
 cm:∀r,r<13→CM (cnt L r) (ce r) (cc r)
def bbk (L:List Pt) (p:Pt) (ce:Nat→List MapEntry) (cc:Nat→Nat) (r:Nat):List MapEntry:=
 if cnt L r (p.w r)=1 then ya (ea (ce r) (cc r) (.int .u64 (p.w r)) (.int .i64 0)) (.int .u64 (p.w r)) else ea (ce r) (cc r) (.int .u64 (p.w r)) (.int .i64 ((cnt L r (p.w r)-1:Nat):Int))
def bbl (p:Pt) (ce:Nat→List MapEntry) (cc:Nat→Nat) (r:Nat):Nat:=fo (ce r) (cc r) (.int .u64 (p.w r))
section
variable {L:List Pt} {es:List MapEntry} {c:Nat} {ns:List (List Ky)} {ce:Nat→List MapEntry} {cc:Nat→Nat}
theorem a8l (h:StL L es c ns ce cc) (k:Int) (hn:∀q∈L,q.k≠k):a7 P0 63 [.ptr 1000000 0 0,int .i64 k] (stOs es c ns ce cc) (bl false) (stOs es c ns ce cc):=by
 obtain ⟨g1,g2,g3,g4⟩:=a2y h.pm hn;refine adf rfl (by simp [stOs]) ?_;simp only [yl,stOs,g1,g2,g3,push_cast,↓reduceIte,reduceCtorEq,zB,zE,zA,zS,zL,zD,zM]
 repeat refine And.intro (by first | decide | omega | exact fun _=>by decide | (simp +contextual; done) | kernel_rfl) ?_
end

noncomputable def ajv:PC:=
  (.seq (.reg [p_s 2 (.mov (.c (.r (.v (.bool false)))))])
 (.seq (.reg [p_m 3 0,p_s 4 (.bin .geq (.t 3) (o_i 0)),p_m 5 4,p_g 6 5 true (.mov (.t 0)),p_g 7 5 true (.bin .lss (.t 6) (o_i 1073741824)),p_s 8 (.pick (.t 5) (.t 7) (.c (.r (.v (.bool false))))),
 p_m 2 8])
 .ret))
theorem amm:Fun P0 108 1 [(2,false,none)] ajv:=b5 Go.Proofs.Tryz.func108 rfl (by decide) (by kernel_rfl) (by decide) rfl (by kernel_rfl) (by kernel_rfl) (by decide)
noncomputable def ahf:PC:=
  (.seq (.reg [p_s 2 (.mov (.c (.r (.v (.bool false)))))])
 (.seq (.reg [p_m 3 0,p_s 4 (.bin .geq (.t 3) (o_i 1)),p_m 5 4,p_g 6 5 true (.mov (.t 0)),p_g 7 5 true (.bin .leq (.t 6) (o_i 2147483648)),p_s 8 (.pick (.t 5) (.t 7) (.c (.r (.v (.bool false))))),
 p_m 2 8])
 .ret))
theorem akz:Fun P0 109 1 [(2,false,none)] ahf:=b5 Go.Proofs.Tryz.func109 rfl (by decide) (by kernel_rfl) (by decide) rfl (by kernel_rfl) (by kernel_rfl) (by decide)
noncomputable def apq:PC:=
  (.seq (.reg [p_a 1 (.box (.t 0)),p_s 2 (.mov (.c (.r (.v (.bool false)))))])
 (.seq (.reg [p_s 3 (.mov (.c (.fn (.func 108) [])))])
 (.seq (.reg [p_s 4 (.fa 0 (.t 1)),p_s 5 (.ld none (.t 4)),p_c 6 1 109 [.t 5],p_m 7 6,p_g 8 7 true (.mov (.t 3)),p_g 9 7 true (.fa 1 (.t 1)),p_g 10 7 true (.ld none (.t 9)),
 ⟨(some 11),(some (7,true)),2,.callv (.t 8) [(.t 10)]⟩,p_s 12 (.pick (.t 7) (.t 11) (.c (.r (.v (.bool false))))),p_m 13 12,p_g 14 13 true (.mov (.t 3)),p_g 15 13 true (.fa 2 (.t 1)),
 p_g 16 13 true (.ld none (.t 15)),⟨(some 17),(some (13,true)),3,.callv (.t 14) [(.t 16)]⟩,p_s 18 (.pick (.t 13) (.t 17) (.c (.r (.v (.bool false))))),p_m 19 18,
 p_g 20 19 true (.fa 3 (.t 1)),p_g 21 19 true (.ld none (.t 20)),p_g 22 19 true (.bin .geq (.t 21) (o_i (-2147483648))),p_s 23 (.pick (.t 19) (.t 22) (.c (.r (.v (.bool false))))),
 p_m 24 23,p_g 25 24 true (.fa 3 (.t 1)),p_g 26 24 true (.ld none (.t 25)),p_g 27 24 true (.bin .leq (.t 26) (o_i 2147483647)),p_s 28 (.pick (.t 24) (.t 27) (.c (.r (.v (.bool false))))),
 p_m 2 28])
 .ret)))
theorem aqo:Fun P0 62 1 [(2,false,none)] apq:=b5 Go.Proofs.Tryz.func62 rfl (by decide) (by kernel_rfl) (by decide) rfl (by kernel_rfl) (by kernel_rfl) (by decide)
theorem ayd (n:Int):a7 P0 108 [int .i64 n] [] (bl (decide (0≤n∧n<1073741824))) []:=by
 refine amm rfl (by decide) ?_;simp only [ajv,push_cast,↓reduceIte,reduceCtorEq,zB,zE,zA,zS,zL,zD,zM];by_cases h:0≤n<;>by_cases h':n<1073741824<;>simp [h,h',push_cast,↓reduceIte,reduceCtorEq,zB,zE,zA,zS,zL,zD,zM]
theorem a45 (n:Int):a7 P0 109 [int .i64 n] [] (bl (decide (1≤n∧n≤2147483648))) []:=by
 refine akz rfl (by decide) ?_;simp only [ahf,push_cast,↓reduceIte,reduceCtorEq,zB,zE,zA,zS,zL,zD,zM];by_cases h:1≤n<;>by_cases h':n≤2147483648<;>simp [h,h',push_cast,↓reduceIte,reduceCtorEq,zB,zE,zA,zS,zL,zD,zM]
theorem a4v (p:Pt):a7 P0 62 [p.av] [] (bl (decide p.ok)) []:=by
 refine aqo rfl (by decide) ?_;simp only [apq,Pt.av,Pt.rv,push_cast,↓reduceIte,reduceCtorEq,zB,zE,zA,zS,zL,zD,zM];refine a5 (a45 p.k) rfl trivial ?_;simp only [push_cast,↓reduceIte,reduceCtorEq,zB,zE,zA,zS,zL,zD,zM];by_cases h:1≤p.k∧p.k≤2147483648
 ·rw [decide_eq_true h];simp only [push_cast,↓reduceIte,reduceCtorEq,zB,zE,zA,zS,zL,zD,zM];refine ⟨by kernel_rfl,?_⟩;refine a5 (ayd p.x) rfl trivial ?_;simp only [push_cast,↓reduceIte,reduceCtorEq,zB,zE,zA,zS,zL,zD,zM];by_cases hx:0≤p.x∧p.x<1073741824
  ·rw [decide_eq_true hx];simp only [push_cast,↓reduceIte,reduceCtorEq,zB,zE,zA,zS,zL,zD,zM];refine ⟨by kernel_rfl,?_⟩;refine a5 (ayd p.y) rfl trivial ?_;simp only [push_cast,↓reduceIte,reduceCtorEq,zB,zE,zA,zS,zL,zD,zM];by_cases hy:0≤p.y∧p.y<1073741824
   ·rw [decide_eq_true hy];by_cases h1:-2147483648≤p.v<;>by_cases h2:p.v≤2147483647<;>simp [h1,h2,h,hx,hy,Pt.ok,inW,push_cast,↓reduceIte,reduceCtorEq,zB,zE,zA,zS,zL,zD,zM]
   ·rw [decide_eq_false hy,decide_eq_false (p:=p.ok) (fun h'=>hy h'.2.1.2)];simp only [push_cast,↓reduceIte,reduceCtorEq,zB,zE,zA,zS,zL,zD,zM]
  ·rw [decide_eq_false hx,decide_eq_false (p:=p.ok) (fun h'=>hx h'.2.1.1)];simp only [push_cast,↓reduceIte,reduceCtorEq,zB,zE,zA,zS,zL,zD,zM]
 ·rw [decide_eq_false h,decide_eq_false (p:=p.ok) (fun h'=>h h'.1)];simp only [push_cast,↓reduceIte,reduceCtorEq,zB,zE,zA,zS,zL,zD,zM]

noncomputable def yk:PC:=
  (.seq (.reg [p_a 3 (.box (.t 1)),p_s 4 (.mov (.c (.r (.v (.bool false)))))])
 (.seq (.drw [p_m 11 0,p_s 12 (.nck (.t 11)),p_s 13 (.fa 0 (.t 12)),p_s 14 (.ld none (.t 13)),p_s 15 (.fa 0 (.t 3)),p_s 16 (.ld none (.t 15)),p_s 17 (.lkp false (.agg [(.v (.int .i64 0)),(.v (.int .i64 0)),(.v (.int .i64 0)),(.v (.int .i64 0))]) true (.t 14) (.t 16)),
 p_m 10 17,p_s 18 (.ext (.t 10) 0),p_s 19 (.ext (.t 10) 1),p_a 5 (.new [(.r (.v (.int .i64 0))),(.r (.v (.int .i64 0))),(.r (.v (.int .i64 0))),(.r (.v (.int .i64 0)))]),
 ⟨none,none,0,.act (.st 4 (.t 5) (.t 18))⟩,p_m 6 19]
 [[],[0],[0,1],[0,1,2],[],[4],[0,1,2,3,4,5],[0,1,2,3,4,5,6],[0,1,2,3,4,5,6,7],[0,1,2,3,4,5,6,7],[],[0,1,2,3,4,5,6,7,8,10],[0,1,2,3,4,5,6,7,8,9,10,11]])
 (.seq (.seq (.reg [p_s 20 (.ld (some 4) (.t 3)),p_c 21 1 62 [.t 20],p_s 22 (.un .not (.t 21)),p_m 23 22,p_g 24 23 false (.mov (.t 6)),p_g 25 23 false (.un .not (.t 24)),p_g 26 23 false (.mov (.t 25)),
 p_g 27 26 true (.mov (.t 0)),p_g 28 26 true (.nck (.t 27)),p_g 29 26 true (.fa 0 (.t 28)),p_g 30 26 true (.ld none (.t 29)),p_g 31 26 true (.lenm (.t 30)),p_g 32 26 true (.bin .geq (.t 31) (o_i 2000)),
 p_g 33 23 false (.pick (.t 26) (.t 32) (.c (.r (.v (.bool false))))),p_s 34 (.pick (.t 23) (.c (.r (.v (.bool true)))) (.t 33))])
 (.cond (.t 34)
 (.seq (.reg [p_s 4 (.mov (.c (.r (.v (.bool false)))))])
 .ret)
 .skip))
 (.seq (.reg [p_m 35 0,p_s 36 (.fa 0 (.t 3)),p_s 37 (.ld none (.t 36)),p_c 38 2 63 [.t 35,.t 37]])
 (.seq (.drw [p_m 39 0,p_s 40 (.nck (.t 39)),p_s 41 (.fa 0 (.t 40)),p_s 42 (.ld none (.t 41)),p_s 43 (.fa 0 (.t 3)),p_s 44 (.ld none (.t 43)),p_s 45 (.ld (some 4) (.t 3)),
 ⟨none,none,0,.act (.mset false (.t 42) (.t 44) (.t 45))⟩]
 [[],[0],[0,1],[0,1,2],[],[4],[],[0,1,2,3,4,5,6]])
 (.seq (.reg [p_m 46 0,p_s 47 (.nck (.t 46)),p_s 48 (.fa 1 (.t 47)),p_s 49 (.ld none (.t 48)),p_s 50 (.mkf (.func 64) [(.t 49)] 1),p_m 7 50])
 (.seq (.seq (.reg [p_s 51 (.mov (o_i 0))])
 (.block 0 (.loop (.seq (.reg [p_s 52 (.bin .lss (.t 51) (o_i 13))])
 (.seq (.cond (.t 52)
 .skip
 (.exit 0))
 (.seq (.block 1 (.seq (.reg [p_m 53 51,p_m 8 53])
 (.seq (.reg [p_s 54 (.ld (some 4) (.t 3)),p_m 55 8,p_c 56 3 65 [.t 54,.t 55],p_m 9 56])
 (.seq (.reg [p_m 57 7,p_m 58 9,p_s 59 (.fa 3 (.t 3)),p_s 60 (.ld none (.t 59)),p_s 61 (.fa 0 (.t 3)),p_s 62 (.ld none (.t 61)),p_s 63 (.build [(.r (.v (.int .u64 0))),(.r (.v (.int .i64 0))),(.r (.v (.int .i64 0)))] [(0,1,(.t 58)),(1,1,(.t 60)),(2,1,(.t 62))]),
 ⟨(some 64),none,4,.callv (.t 57) [(.t 63)]⟩])
 (.reg [p_m 65 0,p_m 66 8,p_s 67 (.nck (.t 65)),p_s 68 (.fa 2 (.t 67)),p_s 69 (.iaa 13 1 (.t 68) (.t 66)),p_s 70 (.ld none (.t 69)),p_m 71 9,p_s 72 (.lkp false (.v (.int .i64 0)) false (.t 70) (.t 71)),
 p_s 73 (.bin .add (.t 72) (o_i 1)),⟨none,none,0,.act (.mset false (.t 70) (.t 71) (.t 73))⟩])))))
 (.reg [p_s 74 (.bin .add (.t 51) (o_i 1)),p_m 51 74])))))))
 (.seq (.reg [p_s 4 (.mov (.c (.r (.v (.bool true)))))])
 .ret))))))))
theorem ade:Fun P0 36 2 [(4,false,none)] yk:=b5 Go.Proofs.Tryz.func36 rfl (by decide) (by kernel_rfl) (by decide) rfl (by kernel_rfl) (by kernel_rfl) (by decide)
def asd (L:List Pt) (p:Pt) (ce:Nat→List MapEntry) (cc:Nat→Nat) (r:Nat):List MapEntry:=ea (ce r) (cc r) (.int .u64 (p.w r)) (.int .i64 ((cnt L r (p.w r):Int)+1))
def ase (p:Pt) (ce:Nat→List MapEntry) (cc:Nat→Nat) (r:Nat):Nat:=fo (ce r) (cc r) (.int .u64 (p.w r))
theorem StL.put {L:List Pt} {es:List MapEntry} {c:Nat} {ns:List (List Ky)} {ce:Nat→List MapEntry} {cc:Nat→Nat} (h:StL L es c ns ce cc) {p:Pt} (hp:p.ok) (hn:∀q∈L,q.k≠p.k) (hl:L.length<2000) :
  StL (L++[p]) (ea es c (.int .i64 p.k) p.val) (fo es c (.int .i64 p.k)) (nsP ns p 13) (asd L p ce cc) (ase p ce cc):=by
 refine ⟨fun q hq=>?_,by simp; omega,(ax5 h.pm hn).2,?_,fun r hr=>?_⟩
 ·rcases zab.1 hq with hq | hq
  ·exact h.ok q hq
  ·rw [zat.1 hq]; exact hp
 ·have:=ana hp (fun q hq=>⟨h.ok q hq,hn q hq⟩) h.tk (by omega) 13 (zah _);rw [zam,List.length_singleton,Nat.mul_add];refine this.congr fun x=>?_;unfold KL;constructor
  ·rintro (⟨q,hq,r,hr,rfl⟩ | ⟨s,hs,rfl⟩)
   ·exact ⟨q,List.mem_append_left _ hq,r,hr,rfl⟩
   ·exact ⟨p,by simp,s,hs,rfl⟩
  ·rintro ⟨q,hq,r,hr,rfl⟩;rcases zab.1 hq with hq | hq
   ·exact .inl ⟨q,hq,r,hr,rfl⟩
   ·rw [zat.1 hq]; exact .inr ⟨r,hr,rfl⟩
 ·rw [a5r];have:=a8r (h.cm r hr) (p.w r) (cnt L r (p.w r)+1) (by omega);exact this
theorem a47 {L:List Pt} {p:Pt} {n:Nat} {ns:List (List Ky)} (hp:p.ok) (hL:∀q∈L,q.ok∧q.k≠p.k) (h:TK (KL L) n ns) (hn:n≤50000) {r:Nat} (hr:r<13):(ja (nsP ns p r) (p.ky r)).2=true:=by
 have:=ana hp hL h hn r (by omega);refine (this.put (by omega) ?_).2;rintro (⟨q,hq,s,hs,e⟩ | ⟨s,hs,e⟩)
 ·exact (hL q hq).2 (Pt.ky_inj hp (hL q hq).1 hr hs e).2.symm
 ·have:=(Pt.ky_inj hp hp hr (by omega) e).1;omega
section
variable {L:List Pt} {es es1:List MapEntry} {c c1:Nat} {ns ns1:List (List Ky)} {ce ce1:Nat→List MapEntry} {cc cc1:Nat→Nat}
set_option maxHeartbeats 4000000 in
theorem a0x {b:Bool} (h:StL L es1 c1 ns1 ce1 cc1) {p:Pt} (hpo:p.ok) (hn:∀q∈L,q.k≠p.k) (hlt:L.length<2)
  (hdel:a7 P0 63 [.ptr 1000000 0 0,int .i64 p.k] (stOs es c ns ce cc) (bl b) (stOs es1 c1 ns1 ce1 cc1))
  (g1:okK es (.int .i64 p.k)=true) (g2:∃v,lkR es (.int .i64 p.k) (.agg [.v (.int .i64 0),.v (.int .i64 0),.v (.int .i64 0),.v (.int .i64 0)])=Pt.rv v) (g3:lkB es (.int .i64 p.k)=true∨(lkB es (.int .i64 p.k)=false∧es.length<2000)) :
  a7 P0 36 [.ptr 1000000 0 0,p.av] (stOs es c ns ce cc) (bl true) (stOs (ea es1 c1 (.int .i64 p.k) p.val) (fo es1 c1 (.int .i64 p.k)) (nsP ns1 p 13) (asd L p ce1 cc1) (ase p ce1 cc1)):=by
 obtain ⟨f1,_⟩:=ax5 h.pm hn;have hP:=ana hpo (fun q hq=>⟨h.ok q hq,hn q hq⟩) h.tk (by omega);obtain ⟨v,g2⟩:=g2;refine ade rfl (by simp [stOs]) ?_;simp only [yk,stOs,Pt.av,Pt.rv,g1,g2,push_cast,↓reduceIte,reduceCtorEq,zB,zE,zA,zS,zL,zD,zM]
 repeat refine And.intro (by first | decide | omega | exact fun _=>by decide | (simp +contextual; done) | kernel_rfl) ?_
 refine a9 (as':=[p.av]) rfl ?_;refine a5 (a4v p) rfl trivial ?_;rw [decide_eq_true hpo];simp only [push_cast,↓reduceIte,reduceCtorEq,zB,zE,zA,zS,zL,zD,zM];refine b6 (fun hc=>?_) (fun hc=>?_)
 ·exfalso;rcases g3 with g3 | ⟨g3,g4⟩<;>simp [g3] at hc;omega
 simp only [stOs] at hdel;simp only [push_cast,↓reduceIte,reduceCtorEq,zB,zE,zA,zS,zL,zD,zM];refine a5 hdel rfl ⟨rfl,trivial,atr _ _,trivial,trivial,trivial,trivial,trivial,trivial,trivial,trivial,trivial,trivial,trivial,trivial,trivial,trivial⟩ ?_;have tv:∀a b c d:Int,toV (.r (.agg [.v (.int .i64 a),.v (.int .i64 b),.v (.int .i64 c),.v (.int .i64 d)]))=some (Pt.val ⟨a,b,c,d⟩):=fun _ _ _ _=>rfl;simp only [f1,tv,push_cast,↓reduceIte,reduceCtorEq,zB,zE,zA,zS,zL,zD,zM]
 repeat refine And.intro (by first | decide | omega | exact fun _=>by decide | (simp +contextual; done) | kernel_rfl) ?_
 refine run_loop [(51,false),(0,false),(3,false),(7,false)] (fun vs pos los=>∃r:Nat,r≤13∧vs=[int .i64 r,.ptr 1000000 0 0,.ptr 2000000 0 0,.fn (.func 64) [.ptr 1000002 0 0] 1]∧pos=stOs (ea es1 c1 (.int .i64 p.k) p.val) (fo es1 c1 (.int .i64 p.k)) (nsP ns1 p r) (stg (asd L p ce1 cc1) ce1 r) (stg (ase p ce1 cc1) cc1 r)∧los=[.box [int .i64 p.k,int .i64 p.x,int .i64 p.y,int .i64 p.v]])
  (fun vs _ _=>match vs with | .r (.v (.int _ j))::_=>(13-j).toNat | _=>0) rfl ?_ ?_
 ·simp only [push_cast,↓reduceIte,reduceCtorEq,zB,zE,zA,zS,zL,zD,zM];refine ⟨0,by omega,?_⟩;simp only [a9u,nsP,stOs];exact ⟨rfl,rfl⟩
 ·rintro vs pos los ⟨r,hr,rfl,hpos,rfl⟩;by_cases h13:r=13
  ·subst h13;have hlit:stOs (ea es1 c1 (.int .i64 p.k) p.val) (fo es1 c1 (.int .i64 p.k)) (nsP ns1 p 13) (stg (asd L p ce1 cc1) ce1 13) (stg (ase p ce1 cc1) cc1 13)=stOs (ea es1 c1 (.int .i64 p.k) p.val) (fo es1 c1 (.int .i64 p.k)) (nsP ns1 p 13) (asd L p ce1 cc1) (ase p ce1 cc1):=rfl;rw [hlit] at hpos;subst hpos;simp only [stOs,show decide ((13:Int)<13)=false from rfl,push_cast,↓reduceIte,reduceCtorEq,zB,zE,zA,zS,zL,zD,zM]
  have hr3:r<13:=by omega
  have hcm:=h.cm r hr3;obtain ⟨q1,q2⟩:=a8u hcm (p.w r);have hw:=(Pt.w_res hpo hr3).2.2;have hk:=hP r (by omega);have hf:(ja (nsP ns1 p r) (p.ky r)).2=true:=(a47 hpo (fun q hq=>⟨h.ok q hq,hn q hq⟩) h.tk (by omega) hr3)
  have cle:cnt L r (p.w r)≤2000:=Nat.le_trans List.countP_le_length (by omega);have z4:IntKind.i64.wrap ((cnt L r (p.w r):Int)+1)=(cnt L r (p.w r):Int)+1:=a6 (by omega);have hpt:=a9y hk.g (by rw [hk.l]; omega) (p.ky r)
  rcases (show r=0∨r=1∨r=2∨r=3∨r=4∨r=5∨r=6∨r=7∨r=8∨r=9∨r=10∨r=11∨r=12 by omega) with rfl | rfl | rfl | rfl | rfl | rfl | rfl | rfl | rfl | rfl | rfl | rfl | rfl<;>(
   simp only [stOs,stg,Nat.reduceLT,↓reduceIte] at hpos;subst hpos;simp only [Int.reduceLT,push_cast,↓reduceIte,reduceCtorEq,zB,zE,zA,zS,zL,zD,zM];refine a9 (as':=[p.av,int .i64 _]) rfl ?_;refine a5 (a3f p _ hpo (by decide)) rfl trivial ?_;simp only [zac,uw,push_cast,↓reduceIte,reduceCtorEq,zB,zE,zA,zS,zL,zD,zM]
   repeat refine And.intro (by first | decide | omega | exact fun _=>by decide | (simp +contextual; done) | kernel_rfl) ?_
   refine a9 (as':=[.ptr 1000000 0 0,(p.ky _).av]) rfl ?_;refine a5 hpt rfl ⟨atr _ _,trivial⟩ ?_;simp only [q1,q2,z4,zac,push_cast,↓reduceIte,reduceCtorEq,zB,zE,zA,zS,zL,zD,zM]
   repeat refine And.intro (by first | decide | omega | exact fun _=>by decide | (simp +contextual; done) | kernel_rfl) ?_
   refine ⟨⟨_+1,by decide,rfl,?_⟩,by decide⟩;simp only [stOs,stg,Nat.reduceLT,Nat.reduceAdd,↓reduceIte]
   rfl)
end

section
variable {L:List Pt} {es:List MapEntry} {c:Nat} {ns:List (List Ky)} {ce:Nat→List MapEntry} {cc:Nat→Nat}
end
def SS (L:List Pt) (os:List Ob):Prop:=∃es c ns ce cc,StL L es c ns ce cc∧os=stOs es c ns ce cc
def has (L:List Pt) (k:Int):Bool:=L.any fun q=>q.k == k
def a9z (L:List Pt) (p:Pt):List Pt:=a3g p.k L++[p]
def a88 (L:List Pt) (p:Pt):Bool:=decide p.ok&&(has L p.k||decide (L.length<2000))
theorem auk {L:List Pt} {k:Int}:has L k=false↔∀p∈L,p.k≠k:=by simp [has]
def SF (L:List Pt):Fam where
 S:=SS L
 N:=16
 n:=15
 pos:=by decide
 len:=by rintro os ⟨es,c,ns,ce,cc,h,rfl⟩; rfl
 flat:=by
  rintro os ⟨es,c,ns,ce,cc,h,rfl⟩ o ho;simp only [stOs,zad,List.not_mem_nil,or_false] at ho;rcases ho with rfl | rfl | rfl | rfl | rfl | rfl | rfl | rfl | rfl | rfl | rfl | rfl | rfl | rfl | rfl | rfl
  ·exact ⟨by simp [iv,gj,v8],rfl⟩
  all_goals exact ⟨trivial,rfl⟩
 shut:=by
  rintro os ⟨es,c,ns,ce,cc,h,rfl⟩ o ho;simp only [stOs,zad,List.not_mem_nil,or_false] at ho;rcases ho with rfl | rfl | rfl | rfl | rfl | rfl | rfl | rfl | rfl | rfl | rfl | rfl | rfl | rfl | rfl | rfl
  ·simp [imO,imL,imV,md]
  all_goals rfl
 root:=by
  rintro os ⟨es,c,ns,ce,cc,h,rfl⟩;exact ⟨_,rfl,rfl⟩
def sT (L:List Pt):AbsT:=(SF L).T

noncomputable def ag8:PC:=
  (.seq (.reg [p_s 0 (.mov (.c (.r (.v (.pointer none)))))])
 (.seq (.reg [p_a 3 (.mkm),p_c 4 1 61 [],p_s 5 (.build [(.r (.v (.map none))),(.r (.v (.pointer none))),(.r (.v (.map none))),(.r (.v (.map none))),(.r (.v (.map none))),(.r (.v (.map none))),(.r (.v (.map none))),(.r (.v (.map none))),(.r (.v (.map none))),(.r (.v (.map none))),(.r (.v (.map none))),(.r (.v (.map none))),(.r (.v (.map none))),(.r (.v (.map none))),(.r (.v (.map none)))] [(0,1,(.t 3)),(1,1,(.t 4))]),
 p_a 6 (.box (.t 5)),p_m 1 6])
 (.seq (.seq (.reg [p_s 7 (.mov (o_i 0))])
 (.block 0 (.loop (.seq (.reg [p_s 8 (.bin .lss (.t 7) (o_i 13))])
 (.seq (.cond (.t 8)
 .skip
 (.exit 0))
 (.seq (.block 1 (.seq (.reg [p_m 9 7,p_m 2 9])
 (.reg [p_m 10 1,p_m 11 2,p_a 12 (.mkm),p_s 13 (.nck (.t 10)),p_s 14 (.fa 2 (.t 13)),p_s 15 (.iaa 13 1 (.t 14) (.t 11)),⟨none,none,0,.act (.st 1 (.t 15) (.t 12))⟩])))
 (.reg [p_s 16 (.bin .add (.t 7) (o_i 1)),p_m 7 16])))))))
 (.seq (.reg [p_m 17 1,p_m 0 17])
 .ret))))
theorem aku:Fun P0 32 0 [(0,false,none)] ag8:=b5 Go.Proofs.Tryz.func32 rfl (by decide) (by kernel_rfl) (by decide) rfl (by kernel_rfl) (by kernel_rfl) (by decide)
def iq:Nat→List Ob
 | 0=>[.box [.mp 2000001 0,.ptr 2000002 0 0,.r (.v (.map none)),.r (.v (.map none)),.r (.v (.map none)),.r (.v (.map none)),.r (.v (.map none)),.r (.v (.map none)),.r (.v (.map none)),.r (.v (.map none)),.r (.v (.map none)),.r (.v (.map none)),.r (.v (.map none)),.r (.v (.map none)),.r (.v (.map none))],.map [] 0,.abs (tr [])]
 | 1=>[.box [.mp 2000001 0,.ptr 2000002 0 0,.mp 2000003 0,.r (.v (.map none)),.r (.v (.map none)),.r (.v (.map none)),.r (.v (.map none)),.r (.v (.map none)),.r (.v (.map none)),.r (.v (.map none)),.r (.v (.map none)),.r (.v (.map none)),.r (.v (.map none)),.r (.v (.map none)),.r (.v (.map none))],.map [] 0,.abs (tr []),.map [] 0]
 | 2=>[.box [.mp 2000001 0,.ptr 2000002 0 0,.mp 2000003 0,.mp 2000004 0,.r (.v (.map none)),.r (.v (.map none)),.r (.v (.map none)),.r (.v (.map none)),.r (.v (.map none)),.r (.v (.map none)),.r (.v (.map none)),.r (.v (.map none)),.r (.v (.map none)),.r (.v (.map none)),.r (.v (.map none))],.map [] 0,.abs (tr []),.map [] 0,.map [] 0]
 | 3=>[.box [.mp 2000001 0,.ptr 2000002 0 0,.mp 2000003 0,.mp 2000004 0,.mp 2000005 0,.r (.v (.map none)),.r (.v (.map none)),.r (.v (.map none)),.r (.v (.map none)),.r (.v (.map none)),.r (.v (.map none)),.r (.v (.map none)),.r (.v (.map none)),.r (.v (.map none)),.r (.v (.map none))],.map [] 0,.abs (tr []),.map [] 0,.map [] 0,.map [] 0]
 | 4=>[.box [.mp 2000001 0,.ptr 2000002 0 0,.mp 2000003 0,.mp 2000004 0,.mp 2000005 0,.mp 2000006 0,.r (.v (.map none)),.r (.v (.map none)),.r (.v (.map none)),.r (.v (.map none)),.r (.v (.map none)),.r (.v (.map none)),.r (.v (.map none)),.r (.v (.map none)),.r (.v (.map none))],.map [] 0,.abs (tr []),.map [] 0,.map [] 0,.map [] 0,.map [] 0]
 | 5=>[.box [.mp 2000001 0,.ptr 2000002 0 0,.mp 2000003 0,.mp 2000004 0,.mp 2000005 0,.mp 2000006 0,.mp 2000007 0,.r (.v (.map none)),.r (.v (.map none)),.r (.v (.map none)),.r (.v (.map none)),.r (.v (.map none)),.r (.v (.map none)),.r (.v (.map none)),.r (.v (.map none))],.map [] 0,.abs (tr []),.map [] 0,.map [] 0,.map [] 0,.map [] 0,.map [] 0]
 | 6=>[.box [.mp 2000001 0,.ptr 2000002 0 0,.mp 2000003 0,.mp 2000004 0,.mp 2000005 0,.mp 2000006 0,.mp 2000007 0,.mp 2000008 0,.r (.v (.map none)),.r (.v (.map none)),.r (.v (.map none)),.r (.v (.map none)),.r (.v (.map none)),.r (.v (.map none)),.r (.v (.map none))],.map [] 0,.abs (tr []),.map [] 0,.map [] 0,.map [] 0,.map [] 0,.map [] 0,.map [] 0]
 | 7=>[.box [.mp 2000001 0,.ptr 2000002 0 0,.mp 2000003 0,.mp 2000004 0,.mp 2000005 0,.mp 2000006 0,.mp 2000007 0,.mp 2000008 0,.mp 2000009 0,.r (.v (.map none)),.r (.v (.map none)),.r (.v (.map none)),.r (.v (.map none)),.r (.v (.map none)),.r (.v (.map none))],.map [] 0,.abs (tr []),.map [] 0,.map [] 0,.map [] 0,.map [] 0,.map [] 0,.map [] 0,.map [] 0]
 | 8=>[.box [.mp 2000001 0,.ptr 2000002 0 0,.mp 2000003 0,.mp 2000004 0,.mp 2000005 0,.mp 2000006 0,.mp 2000007 0,.mp 2000008 0,.mp 2000009 0,.mp 2000010 0,.r (.v (.map none)),.r (.v (.map none)),.r (.v (.map none)),.r (.v (.map none)),.r (.v (.map none))],.map [] 0,.abs (tr []),.map [] 0,.map [] 0,.map [] 0,.map [] 0,.map [] 0,.map [] 0,.map [] 0,.map [] 0]
 | 9=>[.box [.mp 2000001 0,.ptr 2000002 0 0,.mp 2000003 0,.mp 2000004 0,.mp 2000005 0,.mp 2000006 0,.mp 2000007 0,.mp 2000008 0,.mp 2000009 0,.mp 2000010 0,.mp 2000011 0,.r (.v (.map none)),.r (.v (.map none)),.r (.v (.map none)),.r (.v (.map none))],.map [] 0,.abs (tr []),.map [] 0,.map [] 0,.map [] 0,.map [] 0,.map [] 0,.map [] 0,.map [] 0,.map [] 0,.map [] 0]
 | 10=>[.box [.mp 2000001 0,.ptr 2000002 0 0,.mp 2000003 0,.mp 2000004 0,.mp 2000005 0,.mp 2000006 0,.mp 2000007 0,.mp 2000008 0,.mp 2000009 0,.mp 2000010 0,.mp 2000011 0,.mp 2000012 0,.r (.v (.map none)),.r (.v (.map none)),.r (.v (.map none))],.map [] 0,.abs (tr []),.map [] 0,.map [] 0,.map [] 0,.map [] 0,.map [] 0,.map [] 0,.map [] 0,.map [] 0,.map [] 0,.map [] 0]
 | 11=>[.box [.mp 2000001 0,.ptr 2000002 0 0,.mp 2000003 0,.mp 2000004 0,.mp 2000005 0,.mp 2000006 0,.mp 2000007 0,.mp 2000008 0,.mp 2000009 0,.mp 2000010 0,.mp 2000011 0,.mp 2000012 0,.mp 2000013 0,.r (.v (.map none)),.r (.v (.map none))],.map [] 0,.abs (tr []),.map [] 0,.map [] 0,.map [] 0,.map [] 0,.map [] 0,.map [] 0,.map [] 0,.map [] 0,.map [] 0,.map [] 0,.map [] 0]
 | 12=>[.box [.mp 2000001 0,.ptr 2000002 0 0,.mp 2000003 0,.mp 2000004 0,.mp 2000005 0,.mp 2000006 0,.mp 2000007 0,.mp 2000008 0,.mp 2000009 0,.mp 2000010 0,.mp 2000011 0,.mp 2000012 0,.mp 2000013 0,.mp 2000014 0,.r (.v (.map none))],.map [] 0,.abs (tr []),.map [] 0,.map [] 0,.map [] 0,.map [] 0,.map [] 0,.map [] 0,.map [] 0,.map [] 0,.map [] 0,.map [] 0,.map [] 0,.map [] 0]
 | _=>[.box [.mp 2000001 0,.ptr 2000002 0 0,.mp 2000003 0,.mp 2000004 0,.mp 2000005 0,.mp 2000006 0,.mp 2000007 0,.mp 2000008 0,.mp 2000009 0,.mp 2000010 0,.mp 2000011 0,.mp 2000012 0,.mp 2000013 0,.mp 2000014 0,.mp 2000015 0],.map [] 0,.abs (tr []),.map [] 0,.map [] 0,.map [] 0,.map [] 0,.map [] 0,.map [] 0,.map [] 0,.map [] 0,.map [] 0,.map [] 0,.map [] 0,.map [] 0,.map [] 0]
theorem a7g:PM [] [] 0:=⟨ar4,by simp⟩
theorem a6t:TK (KL []) 0 []:=⟨⟨by simp,by simp [Srt]⟩,fun x=>by simp [KL],rfl⟩
theorem a3w:StL [] [] 0 [] (fun _=>[]) (fun _=>0):=
 ⟨by simp,by simp,a7g,a6t,fun r hr=>by
  have:cnt [] r=fun _=>0:=by funext w; simp [cnt]
  rw [this]; exact a8s⟩
set_option maxHeartbeats 4000000 in
theorem a7s:a7 P0 32 [] [] (.ptr 1000000 0 0) (stOs [] 0 [] (fun _=>[]) (fun _=>0)):=by
 refine aku rfl (by decide) ?_;simp only [ag8,push_cast,↓reduceIte,reduceCtorEq,zB,zE,zA,zS,zL,zD,zM]
 repeat refine And.intro (by first | decide | omega | exact fun _=>by decide | (simp +contextual; done) | kernel_rfl) ?_
 refine a5 a95 rfl trivial ?_;simp only [push_cast,↓reduceIte,reduceCtorEq,zB,zE,zA,zS,zL,zD,zM]
 repeat refine And.intro (by first | decide | omega | exact fun _=>by decide | (simp +contextual; done) | kernel_rfl) ?_
 refine run_loop [(7,false),(1,false)] (fun vs pos los=>∃r:Nat,r≤13∧vs=[int .i64 r,.ptr 2000000 0 0]∧pos=[]∧los=iq r)
  (fun vs _ _=>match vs with | .r (.v (.int _ j))::_=>(13-j).toNat | _=>0) rfl ?_ ?_
 ·simp only [push_cast,↓reduceIte,reduceCtorEq,zB,zE,zA,zS,zL,zD,zM];refine ⟨0,by omega,?_⟩;simp only [iq];exact ⟨rfl,trivial⟩
 ·rintro vs pos los ⟨r,hr,rfl,rfl,hlos⟩;rcases (show r=0∨r=1∨r=2∨r=3∨r=4∨r=5∨r=6∨r=7∨r=8∨r=9∨r=10∨r=11∨r=12∨r=13 by omega) with rfl | rfl | rfl | rfl | rfl | rfl | rfl | rfl | rfl | rfl | rfl | rfl | rfl | rfl
  ·simp only [iq] at hlos;subst hlos;simp only [show decide ((0:Int)<13)=true from rfl,zac,push_cast,↓reduceIte,reduceCtorEq,zB,zE,zA,zS,zL,zD,zM]
   repeat refine And.intro (by first | decide | omega | exact fun _=>by decide | (simp +contextual; done) | kernel_rfl) ?_
   refine ⟨⟨0+1,by omega,rfl,rfl⟩,by decide⟩
  ·simp only [iq] at hlos;subst hlos;simp only [show decide ((1:Int)<13)=true from rfl,zac,push_cast,↓reduceIte,reduceCtorEq,zB,zE,zA,zS,zL,zD,zM]
   repeat refine And.intro (by first | decide | omega | exact fun _=>by decide | (simp +contextual; done) | kernel_rfl) ?_
   refine ⟨⟨1+1,by omega,rfl,rfl⟩,by decide⟩
  ·simp only [iq] at hlos;subst hlos;simp only [show decide ((2:Int)<13)=true from rfl,zac,push_cast,↓reduceIte,reduceCtorEq,zB,zE,zA,zS,zL,zD,zM]
   repeat refine And.intro (by first | decide | omega | exact fun _=>by decide | (simp +contextual; done) | kernel_rfl) ?_
   refine ⟨⟨2+1,by omega,rfl,rfl⟩,by decide⟩
  ·simp only [iq] at hlos;subst hlos;simp only [show decide ((3:Int)<13)=true from rfl,zac,push_cast,↓reduceIte,reduceCtorEq,zB,zE,zA,zS,zL,zD,zM]
   repeat refine And.intro (by first | decide | omega | exact fun _=>by decide | (simp +contextual; done) | kernel_rfl) ?_
   refine ⟨⟨3+1,by omega,rfl,rfl⟩,by decide⟩
  ·simp only [iq] at hlos;subst hlos;simp only [show decide ((4:Int)<13)=true from rfl,zac,push_cast,↓reduceIte,reduceCtorEq,zB,zE,zA,zS,zL,zD,zM]
   repeat refine And.intro (by first | decide | omega | exact fun _=>by decide | (simp +contextual; done) | kernel_rfl) ?_
   refine ⟨⟨4+1,by omega,rfl,rfl⟩,by decide⟩
  ·simp only [iq] at hlos;subst hlos;simp only [show decide ((5:Int)<13)=true from rfl,zac,push_cast,↓reduceIte,reduceCtorEq,zB,zE,zA,zS,zL,zD,zM]
   repeat refine And.intro (by first | decide | omega | exact fun _=>by decide | (simp +contextual; done) | kernel_rfl) ?_
   refine ⟨⟨5+1,by omega,rfl,rfl⟩,by decide⟩
  ·simp only [iq] at hlos;subst hlos;simp only [show decide ((6:Int)<13)=true from rfl,zac,push_cast,↓reduceIte,reduceCtorEq,zB,zE,zA,zS,zL,zD,zM]
   repeat refine And.intro (by first | decide | omega | exact fun _=>by decide | (simp +contextual; done) | kernel_rfl) ?_
   refine ⟨⟨6+1,by omega,rfl,rfl⟩,by decide⟩
  ·simp only [iq] at hlos;subst hlos;simp only [show decide ((7:Int)<13)=true from rfl,zac,push_cast,↓reduceIte,reduceCtorEq,zB,zE,zA,zS,zL,zD,zM]
   repeat refine And.intro (by first | decide | omega | exact fun _=>by decide | (simp +contextual; done) | kernel_rfl) ?_
   refine ⟨⟨7+1,by omega,rfl,rfl⟩,by decide⟩
  ·simp only [iq] at hlos;subst hlos;simp only [show decide ((8:Int)<13)=true from rfl,zac,push_cast,↓reduceIte,reduceCtorEq,zB,zE,zA,zS,zL,zD,zM]
   repeat refine And.intro (by first | decide | omega | exact fun _=>by decide | (simp +contextual; done) | kernel_rfl) ?_
   refine ⟨⟨8+1,by omega,rfl,rfl⟩,by decide⟩
  ·simp only [iq] at hlos;subst hlos;simp only [show decide ((9:Int)<13)=true from rfl,zac,push_cast,↓reduceIte,reduceCtorEq,zB,zE,zA,zS,zL,zD,zM]
   repeat refine And.intro (by first | decide | omega | exact fun _=>by decide | (simp +contextual; done) | kernel_rfl) ?_
   refine ⟨⟨9+1,by omega,rfl,rfl⟩,by decide⟩
  ·simp only [iq] at hlos;subst hlos;simp only [show decide ((10:Int)<13)=true from rfl,zac,push_cast,↓reduceIte,reduceCtorEq,zB,zE,zA,zS,zL,zD,zM]
   repeat refine And.intro (by first | decide | omega | exact fun _=>by decide | (simp +contextual; done) | kernel_rfl) ?_
   refine ⟨⟨10+1,by omega,rfl,rfl⟩,by decide⟩
  ·simp only [iq] at hlos;subst hlos;simp only [show decide ((11:Int)<13)=true from rfl,zac,push_cast,↓reduceIte,reduceCtorEq,zB,zE,zA,zS,zL,zD,zM]
   repeat refine And.intro (by first | decide | omega | exact fun _=>by decide | (simp +contextual; done) | kernel_rfl) ?_
   refine ⟨⟨11+1,by omega,rfl,rfl⟩,by decide⟩
  ·simp only [iq] at hlos;subst hlos;simp only [show decide ((12:Int)<13)=true from rfl,zac,push_cast,↓reduceIte,reduceCtorEq,zB,zE,zA,zS,zL,zD,zM]
   repeat refine And.intro (by first | decide | omega | exact fun _=>by decide | (simp +contextual; done) | kernel_rfl) ?_
   refine ⟨⟨12+1,by omega,rfl,rfl⟩,by decide⟩
  ·simp only [iq] at hlos;subst hlos;simp only [show decide ((13:Int)<13)=false from rfl,push_cast,↓reduceIte,reduceCtorEq,zB,zE,zA,zS,zL,zD,zM]
   rfl
theorem a22:a7 P0 32 [] [] (.ptr 1000000 0 0) [.abs (sT [])]:=
 a43 (F:=SF []) ⟨_,_,_,_,_,a3w,rfl⟩ a7s

noncomputable def sk:PC:=
  (.seq (.reg [p_a 2 (.box (.t 0))])
 (.seq (.seq (.reg [p_s 3 (.fa 1 (.t 1)),p_s 4 (.ld none (.t 3)),p_s 5 (.bin .eql (.t 4) (o_i 0))])
 (.cond (.t 5)
 (.reg [p_s 6 (.fa 1 (.t 2)),p_s 7 (.ld none (.t 6)),p_s 8 (.fa 3 (.t 1)),⟨none,none,0,.act (.st 1 (.t 8) (.t 7))⟩])
 .skip))
 (.seq (.reg [p_s 9 (.fa 1 (.t 1)),p_s 10 (.ld none (.t 9)),p_s 11 (.bin .add (.t 10) (o_i 1)),p_s 12 (.fa 1 (.t 1)),⟨none,none,0,.act (.st 1 (.t 12) (.t 11))⟩])
 (.seq (.reg [p_s 13 (.fa 2 (.t 1)),p_s 14 (.ld none (.t 13)),p_s 15 (.fa 1 (.t 2)),p_s 16 (.ld none (.t 15)),p_s 17 (.bin .add (.t 14) (.t 16)),p_s 18 (.fa 2 (.t 1)),⟨none,none,0,.act (.st 1 (.t 18) (.t 17))⟩])
 (.reg [p_s 19 (.fa 1 (.t 2)),p_s 20 (.ld none (.t 19)),p_s 21 (.fa 4 (.t 1)),⟨none,none,0,.act (.st 1 (.t 21) (.t 20))⟩])))))
theorem aan:Fun P0 71 2 [] sk:=b5 Go.Proofs.Tryz.func71 rfl (by decide) (by kernel_rfl) (by decide) rfl (by kernel_rfl) (by kernel_rfl) (by decide)
noncomputable def vt:PC:=
  (.seq (.reg [p_a 3 (.box (.t 0)),p_s 4 (.mov (.c (.r (.v (.bool false)))))])
 (.seq (.seq (.reg [p_s 5 (.fa 0 (.t 3)),p_s 6 (.ld none (.t 5)),p_s 7 (.ld none (.t 1)),p_s 8 (.bin .neq (.t 6) (.t 7))])
 (.cond (.t 8)
 (.seq (.reg [p_s 4 (.mov (.c (.r (.v (.bool false)))))])
 .ret)
 .skip))
 (.seq (.reg [p_s 9 (.ld none (.t 2)),p_s 10 (.ld (some 3) (.t 3)),⟨(some 11),none,1,.callv (.t 9) [(.t 10)]⟩])
 (.seq (.reg [p_s 4 (.mov (.c (.r (.v (.bool true)))))])
 .ret))))
theorem acd:Fun P0 107 3 [(4,false,none)] vt:=b5 Go.Proofs.Tryz.func107 rfl (by decide) (by kernel_rfl) (by decide) rfl (by kernel_rfl) (by kernel_rfl) (by decide)
structure Sa where
 w:Int
 n:Int
 s:Int
 lo:Int
 hi:Int
deriving DecidableEq
def Sa.cs (s:Sa):List AV:=[int .u64 s.w,int .i64 s.n,int .i64 s.s,int .i64 s.lo,int .i64 s.hi]
def Sa.rv (s:Sa):RV:=.agg [.v (.int .u64 s.w),.v (.int .i64 s.n),.v (.int .i64 s.s),.v (.int .i64 s.lo),.v (.int .i64 s.hi)]
def Sa.add (s:Sa) (v:Int):Sa:=⟨s.w,IntKind.i64.wrap (s.n+1),IntKind.i64.wrap (s.s+v),if s.n=0 then v else s.lo,v⟩
theorem a5z (k:Ky) (s:Sa):a7 P0 71 [k.av,.ptr 1000000 0 0] [.box s.cs] (.tup []) [.box (s.add k.v).cs]:=by
 refine aan rfl (by simp) ?_;simp only [sk,Ky.av,Ky.rv,Sa.cs,Sa.add,push_cast,↓reduceIte,reduceCtorEq,zB,zE,zA,zS,zL,zD,zM];refine b6 (fun h=>?_) (fun h=>?_)
 ·have h':s.n=0:=by simpa using h
  simp only [h',push_cast,↓reduceIte,reduceCtorEq,zB,zE,zA,zS,zL,zD,zM]
 ·have h':s.n≠0:=by simpa using h
  simp only [h',push_cast,↓reduceIte,reduceCtorEq,zB,zE,zA,zS,zL,zD,zM]
theorem a3j (k:Ky) (w:Int) (s:Sa):a7 P0 107 [k.av,.ptr 1000000 0 0,.ptr 1000001 0 0] [.box [int .u64 w],.box [.fn (.func 71) [.ptr 1000002 0 0] 0],.box s.cs] (bl (k.c == w)) [.box [int .u64 w],.box [.fn (.func 71) [.ptr 1000002 0 0] 0],.box (if k.c == w then s.add k.v else s).cs]:=by
 refine acd rfl (by simp) ?_;simp only [vt,Ky.av,Ky.rv,Sa.cs,push_cast,↓reduceIte,reduceCtorEq,zB,zE,zA,zS,zL,zD,zM];have hne:(k.c != w)=!(k.c == w):=rfl;cases hk:(k.c == w) with
 | false=>
  simp only [hne,hk,push_cast,↓reduceIte,reduceCtorEq,zB,zE,zA,zS,zL,zD,zM]
 | true=>
  simp only [hne,hk,push_cast,↓reduceIte,reduceCtorEq,zB,zE,zA,zS,zL,zD,zM];refine ⟨by kernel_rfl,?_⟩;refine a9 (as':=[k.av,.ptr 1000000 0 0]) rfl ?_;refine a5 (a5z k s) rfl ⟨rfl,trivial⟩ ?_;simp only [Sa.cs,push_cast,↓reduceIte,reduceCtorEq,zB,zE,zA,zS,zL,zD,zM]

noncomputable def pi:PC:=
  (.seq (.reg [p_a 4 (.box (.t 1))])
 (.seq (.seq (.reg [p_m 9 0,p_s 10 (.nck (.t 9)),p_s 11 (.fa 0 (.t 10)),p_s 12 (.ld none (.t 11)),p_s 13 (.len false (.t 12)),p_s 14 (.bin .eql (.t 13) (o_i 0))])
 (.cond (.t 14)
 .ret
 .skip))
 (.seq (.reg [p_m 15 0,p_s 16 (.ld (some 3) (.t 4)),p_c 17 1 111 [.t 15,.t 16],p_m 6 17])
 (.block 0 (.loop (.seq (.seq (.reg [p_m 18 6,p_m 19 0,p_s 20 (.nck (.t 19)),p_s 21 (.fa 0 (.t 20)),p_s 22 (.ld none (.t 21)),p_s 23 (.len false (.t 22)),p_s 24 (.bin .lss (.t 18) (.t 23))])
 (.cond (.t 24)
 .skip
 (.exit 0)))
 (.seq (.block 1 (.seq (.reg [p_m 27 0,p_s 28 (.nck (.t 27)),p_s 29 (.fa 0 (.t 28)),p_s 30 (.ld none (.t 29)),p_m 31 6,p_s 32 (.ia 1 (.sl 3 []) (.t 30) (.t 31)),p_s 33 (.ld none (.t 32)),
 p_s 34 (.len false (.t 33)),p_s 35 (.mov (o_i 0))])
 (.block 2 (.loop (.seq (.reg [p_s 36 (.bin .lss (.t 35) (.t 34))])
 (.seq (.cond (.t 36)
 .skip
 (.exit 2))
 (.seq (.block 3 (.seq (.reg [p_s 37 (.ia 3 (.agg [(.v (.int .u64 0)),(.v (.int .i64 0)),(.v (.int .i64 0))]) (.t 33) (.t 35)),p_s 38 (.ld (some 3) (.t 37)),p_a 8 (.new [(.r (.v (.int .u64 0))),(.r (.v (.int .i64 0))),(.r (.v (.int .i64 0)))]),
 ⟨none,none,0,.act (.st 3 (.t 8) (.t 38))⟩])
 (.seq (.reg [p_s 39 (.ld (some 3) (.t 8)),p_s 40 (.ld (some 3) (.t 4)),p_c 41 2 156 [.t 39,.t 40],p_s 42 (.un .not (.t 41)),p_m 43 42,p_g 44 43 true (.mov (.t 2)),p_g 45 43 true (.ld (some 3) (.t 8)),
 ⟨(some 46),(some (43,true)),3,.callv (.t 44) [(.t 45)]⟩,p_g 47 43 true (.un .not (.t 46)),p_s 48 (.pick (.t 43) (.t 47) (.c (.r (.v (.bool false)))))])
 (.cond (.t 48)
 .ret
 .skip))))
 (.reg [p_s 49 (.bin .add (.t 35) (o_i 1)),p_m 35 49]))))))))
 (.reg [p_m 25 6,p_s 26 (.bin .add (.t 25) (o_i 1)),p_m 6 26]))))))))
theorem si:Fun P0 106 3 [] pi:=b5 Go.Proofs.Tryz.func106 rfl (by decide) (by kernel_rfl) (by decide) rfl (by kernel_rfl) (by kernel_rfl) (by decide)
noncomputable def aae:PC:=
  (.seq (.reg [p_a 4 (.box (.t 1)),p_a 5 (.box (.t 2))])
 (.seq (.reg [p_m 7 0,p_s 8 (.mkf (.func 106) [(.t 7)] 1),p_m 6 8])
 (.reg [p_m 9 6,p_s 10 (.ld none (.t 4)),p_s 11 (.build [(.r (.v (.int .u64 0))),(.r (.v (.int .i64 0))),(.r (.v (.int .i64 0)))] [(0,1,(.t 10)),(1,1,(o_i (-9223372036854775808))),(2,1,(o_i (-9223372036854775808)))]),
 p_s 12 (.mkf (.func 107) [(.t 4),(.t 5)]),⟨(some 13),none,1,.callv (.t 9) [(.t 11),(.t 12)]⟩])))
theorem aeb:Fun P0 59 3 [] aae:=b5 Go.Proofs.Tryz.func59 rfl (by decide) (by kernel_rfl) (by decide) rfl (by kernel_rfl) (by kernel_rfl) (by decide)
noncomputable def vw:PC:=
  (.seq (.reg [p_a 4 (.new [(.r (.v (.int .u64 0))),(.r (.v (.int .i64 0))),(.r (.v (.int .i64 0))),(.r (.v (.int .i64 0))),(.r (.v (.int .i64 0)))]),p_s 5 (.mov (.c (.r (.v (.bool false)))))])
 (.seq (.reg [p_m 7 1,p_s 8 (.build [(.r (.v (.int .u64 0))),(.r (.v (.int .i64 0))),(.r (.v (.int .i64 0))),(.r (.v (.int .i64 0))),(.r (.v (.int .i64 0)))] [(0,1,(.t 7))]),
 p_a 6 (.new [(.r (.v (.int .u64 0))),(.r (.v (.int .i64 0))),(.r (.v (.int .i64 0))),(.r (.v (.int .i64 0))),(.r (.v (.int .i64 0)))]),⟨none,none,0,.act (.st 5 (.t 6) (.t 8))⟩])
 (.seq (.reg [p_m 9 0,p_s 10 (.nck (.t 9)),p_s 11 (.fa 1 (.t 10)),p_s 12 (.ld none (.t 11)),p_m 13 1,p_s 14 (.mkf (.func 71) [(.t 6)]),p_c 15 1 59 [.t 12,.t 13,.t 14]])
 (.seq (.seq (.reg [p_s 16 (.fa 1 (.t 6)),p_s 17 (.ld none (.t 16)),p_s 18 (.bin .eql (.t 17) (o_i 0))])
 (.cond (.t 18)
 (.seq (.reg [p_s 19 (.build [(.r (.v (.int .u64 0))),(.r (.v (.int .i64 0))),(.r (.v (.int .i64 0))),(.r (.v (.int .i64 0))),(.r (.v (.int .i64 0)))] []),⟨none,none,0,.act (.st 5 (.t 4) (.t 19))⟩,
 p_s 5 (.mov (.c (.r (.v (.bool false)))))])
 .ret)
 .skip))
 (.seq (.reg [p_s 20 (.ld (some 5) (.t 6)),⟨none,none,0,.act (.st 5 (.t 4) (.t 20))⟩,p_s 5 (.mov (.c (.r (.v (.bool true)))))])
 .ret)))))
theorem ace:Fun P0 38 2 [(4,false,some (66,(some 5))),(5,false,none)] vw:=b5 Go.Proofs.Tryz.func38 rfl (by decide) (by kernel_rfl) (by decide) rfl (by kernel_rfl) (by kernel_rfl) (by decide)
def kz:RV:=.agg [.v (.int .u64 0),.v (.int .i64 0),.v (.int .i64 0)]
theorem ar7 {l:List Ky} {i:Nat} {k:Ky} (hk:l[i]?=some k):(l.map Ky.rv).getD ((i:Int)).toNat (.agg [.v (.int .u64 0),.v (.int .i64 0),.v (.int .i64 0)])=.agg [.v (.int .u64 k.c),.v (.int .i64 k.v),.v (.int .i64 k.d)]:=by
 simp [List.getD,hk,Ky.rv]
def tc (lo:Ky) (w:Int) (r:List Ky):List Ky:=(r.filter fun k=>!kl k lo).takeWhile fun k=>k.c == w
theorem a3t {lo k:Ky} {w:Int} {r:List Ky} (h:kl k lo=true):tc lo w (k::r)=tc lo w r:=by simp [tc,h]
theorem a3r {lo k:Ky} {w:Int} {r:List Ky} (h:kl k lo=false) (h2:(k.c == w)=true):tc lo w (k::r)=k::tc lo w r:=by simp [tc,h,h2]
theorem a3s {lo k:Ky} {w:Int} {r:List Ky} (h:kl k lo=false) (h2:(k.c == w)=false):tc lo w (k::r)=[]:=by simp [tc,h,h2]
def xr (s:Sa) (l:List Ky):Sa:=l.foldl (fun s k=>s.add k.v) s
def ccO (w:Int) (s:Sa):List Ob:=[.box [int .u64 w],.box [.fn (.func 71) [.ptr 1000002 0 0] 0],.box s.cs]
def ccF:AV:=.fn (.func 107) [.ptr 1000000 0 0,.ptr 1000001 0 0] 0
set_option maxHeartbeats 1000000 in
theorem a5i (ns:List (List Ky)) (n:Int) (lo:Ky) (r:Nat) (h:Nod ns lo r) (h0:ns≠[]) (hn:ns.flatten.length≤100000) (w:Int) (s:Sa) :
  a7 P0 106 [.rp (p5 ns n),lo.av,ccF] (ccO w s) (.tup []) (ccO w (xr s (tc lo w (ns.drop (r-1)).flatten))):=by
 refine si rfl (by simp [ccO]) ?_;have hne:((ns.length:Int) == 0)=false:=by simp [h0]
 have hfn:uu P0 107=true:=rfl;simp only [pi,ccO,ccF,Sa.cs,p5,Ky.av,Ky.rv,Ky.cs,kz,hne,push_cast,↓reduceIte,reduceCtorEq,zB,zE,zA,zS,zL,zD,zM];refine a5 (ayj ns n lo r h) rfl trivial ?_;simp only [push_cast,↓reduceIte,reduceCtorEq,zB,zE,zA,zS,zL,zD,zM];generalize hR:xr s (tc lo w (ns.drop (r-1)).flatten)=R
 refine run_loop [(0,false),(2,false),(4,false),(6,false)] (fun vs pos los=>∃(a:Nat) (s':Sa),a≤ns.length∧R=xr s' (tc lo w (ns.drop a).flatten) ∧
   vs=[.rp (p5 ns n),ccF,.ptr 2000000 0 0,int .i64 a]∧pos=ccO w s'∧los=[.box lo.cs])
  (fun vs _ _=>match vs with | [_,_,_,.r (.v (.int _ a))]=>(ns.length-a).toNat | _=>0) rfl ?_ ?_
 ·simp only [p5,ccO,ccF,Ky.cs,Sa.cs,kz,push_cast,↓reduceIte,reduceCtorEq,zB,zE,zA,zS,zL,zD,zM];have:=h.le;exact ⟨r-1,s,by omega,hR.symm,by simp⟩
 ·rintro vs pos los ⟨a,s1,ha,hf,rfl,rfl,rfl⟩;simp only [p5,ccO,ccF,Sa.cs,Ky.cs,push_cast,↓reduceIte,reduceCtorEq,zB,zE,zA,zS,zL,zD,zM];refine b6 (fun h1=>?_) (fun h1=>?_)
  ·have h1':a<ns.length:=by simpa using h1
   obtain ⟨l,hl⟩:∃l,ns[a]?=some l:=⟨ns[a],by simp [h1']⟩
   have hll:=(h.ne a l hl).2
   have hd:ns.drop a=l::ns.drop (a+1):=by
    rw [zax h1',(zaa.1 hl).2]
   rw [hd,zai] at hf;have hg:(ns.map u4).getD ((a:Int)).toNat (.sl 3 [])=.sl 3 (l.map Ky.rv):=by simp [List.getD,hl,u4]
   have ha1:IntKind.i64.wrap ((a:Int)+1)=(a:Int)+1:=a6 ⟨by omega,by have:=h.len; simp only [maxLen] at this; omega⟩;simp only [p5,hg,push_cast,↓reduceIte,reduceCtorEq,zB,zE,zA,zS,zL,zD,zM];refine And.intro ⟨by omega,by omega⟩ ?_
   refine run_loop [(0,false),(2,false),(4,false),(6,false),(33,false),(34,false),(35,false)] (fun vs pos los=>∃(j:Nat) (s':Sa),j≤l.length∧R=xr s' (tc lo w (l.drop j++(ns.drop (a+1)).flatten)) ∧
     vs=[.rp (p5 ns n),ccF,.ptr 2000000 0 0,int .i64 a,.r (u4 l),int .i64 l.length,int .i64 j]∧pos=ccO w s'∧los=[.box lo.cs])
    (fun vs _ _=>match vs with | [_,_,_,_,_,_,.r (.v (.int _ a))]=>(l.length-a).toNat | _=>0) rfl ?_ ?_
   ·simp only [p5,u4,ccO,ccF,Ky.cs,Sa.cs,push_cast,↓reduceIte,reduceCtorEq,zB,zE,zA,zS,zL,zD,zM];exact ⟨0,s1,by omega,hf,by simp⟩
   ·rintro vs pos los ⟨j,s2,hj,hf2,rfl,rfl,rfl⟩;simp only [p5,u4,ccO,ccF,Ky.cs,Sa.cs,push_cast,↓reduceIte,reduceCtorEq,zB,zE,zA,zS,zL,zD,zM];refine b6 (fun h2=>?_) (fun h2=>?_)
    ·have h2':j<l.length:=by simpa using h2
     have hj1:IntKind.i64.wrap ((j:Int)+1)=(j:Int)+1:=a6 ⟨by omega,by simp only [maxLen] at hll; omega⟩;obtain ⟨k,hk⟩:∃k,l[j]?=some k:=⟨l[j],by simp [h2']⟩
     have hkd:l.drop j=k::l.drop (j+1):=by
      rw [zax h2',(zaa.1 hk).2]
     rw [hkd,List.cons_append] at hf2;simp only [p5,u4,List.length_map,ar7 hk,push_cast,↓reduceIte,reduceCtorEq,zB,zE,zA,zS,zL,zD,zM];refine And.intro ⟨by omega,by omega⟩ (a5 (ar6 k lo) rfl trivial ?_);rcases hkl:kl k lo with _ | _
     ·simp only [p5,Ky.cs,Sa.cs,u4,List.length_map,ar7 hk,hfn,Bool.not_false,push_cast,↓reduceIte,reduceCtorEq,zB,zE,zA,zS,zL,zD,zM];refine a9 (as':=[k.av,.ptr 1000000 0 0,.ptr 1000001 0 0]) rfl ?_;refine a5 (a3j k w s2) rfl ⟨rfl,rfl,rfl,trivial⟩ ?_;rcases hkw:(k.c == w) with _ | _
      ·rw [a3s hkl hkw] at hf2;simp only [p5,Ky.cs,Sa.cs,u4,kz,push_cast,↓reduceIte,reduceCtorEq,zB,zE,zA,zS,zL,zD,zM];rw [hf2]
       rfl
      ·rw [a3r hkl hkw] at hf2;simp only [p5,Ky.cs,Sa.cs,u4,kz,hj1,push_cast,↓reduceIte,reduceCtorEq,zB,zE,zA,zS,zL,zD,zM];exact ⟨⟨j+1,s2.add k.v,by omega,hf2,by simp⟩,by omega⟩
     ·rw [a3t hkl] at hf2;simp only [p5,Ky.cs,Sa.cs,u4,hj1,push_cast,↓reduceIte,reduceCtorEq,zB,zE,zA,zS,zL,zD,zM];exact ⟨⟨j+1,s2,by omega,hf2,by simp⟩,by omega⟩
    ·have h2':¬j<l.length:=by simpa using h2
     rw [List.drop_eq_nil_of_le (by omega),List.nil_append] at hf2;simp only [p5,u4,ha1,push_cast,↓reduceIte,reduceCtorEq,zB,zE,zA,zS,zL,zD,zM];exact ⟨⟨a+1,s2,by omega,hf2,by simp⟩,by omega⟩
  ·have h1':¬a<ns.length:=by simpa using h1
   rw [List.drop_eq_nil_of_le (by omega)] at hf;simp only [p5,push_cast,↓reduceIte,reduceCtorEq,zB,zE,zA,zS,zL,zD,zM];rw [hf]
   rfl

theorem ay0 {ns:List (List Ky)} (h:Good ns) (hn:ns.flatten.length≤100000) (n:Int) (lo:Ky) (w:Int) (s:Sa) :
  a7 P0 106 [.rp (p5 ns n),lo.av,ccF] (ccO w s) (.tup []) (ccO w (xr s (tc lo w ns.flatten))):=by
 by_cases h0:ns=[]
 ·subst h0;refine si rfl (by simp [ccO]) ?_;simp only [pi,ccO,ccF,Sa.cs,p5,Ky.av,Ky.rv,Ky.cs,kz,push_cast,↓reduceIte,reduceCtorEq,zB,zE,zA,zS,zL,zD,zM]
  rfl
 ·have:=a5i ns n lo _ (ap4 h (by omega) _) h0 hn w s;obtain ⟨i,q,l,hs⟩:=spt h (by omega) lo h0;rw [hs.nx] at this
  have hd:ns.drop i=l::ns.drop (i+1):=by
   rw [zax hs.lt,(zaa.1 hs.at_).2]
  have e:tc lo w ns.flatten=tc lo w (ns.drop i).flatten:=by
   rw [hs.all,hd,zai];unfold tc
   conv=>lhs; rw [List.filter_append]
   have:List.filter (fun k=>!kl k lo) (List.take i ns).flatten=[]:=by
    rw [List.filter_eq_nil_iff];intro x hx;simp [hs.ahead x hx]
   rw [this,List.nil_append]
  rw [e];exact this
def a86:AV:=.fn (.func 107) [.ptr 1000001 0 0,.ptr 1000002 0 0] 0
def awe (w:Int) (s:Sa):List Ob:=[.box [int .u64 w],.box [.fn (.func 71) [.ptr 1000003 0 0] 0],.box s.cs]
theorem a5j {ns:List (List Ky)} (h:Good ns) (hn:ns.flatten.length≤100000) (lo:Ky) (w:Int) (s:Sa) :
  a7 P0 106 [.ptr 1000000 0 0,lo.av,a86] (.abs (tr ns)::awe w s) (.tup []) (.abs (tr ns)::awe w (xr s (tc lo w ns.flatten))):=
 a9i (T:=tr ns) (po:=ccO w s) (ay0 h hn ns.flatten.length lo w s) rfl rfl rfl rfl
  (by simp [awe,iv,Sa.cs,gj,v8,eh]) (by simp [ccO,iv,Sa.cs,gj,v8,eh]) (by simp [v8,gj])
theorem a3i {ns:List (List Ky)} (h:Good ns) (hn:ns.flatten.length≤100000) (w:Int) (s:Sa) :
  a7 P0 59 [.ptr 1000000 0 0,int .u64 w,.fn (.func 71) [.ptr 1000001 0 0] 0] [.abs (tr ns),.box s.cs] (.tup []) [.abs (tr ns),.box (xr s (tc ⟨w,-9223372036854775808,-9223372036854775808⟩ w ns.flatten)).cs]:=by
 refine aeb rfl (by simp) ?_;simp only [aae,Sa.cs,push_cast,↓reduceIte,reduceCtorEq,zB,zE,zA,zS,zL,zD,zM];refine ⟨by kernel_rfl,?_⟩;refine a9 (as':=[.ptr 1000000 0 0,Ky.av ⟨w,-9223372036854775808,-9223372036854775808⟩,a86]) rfl ?_;refine a5 (a5j h hn _ w s) rfl ⟨rfl,rfl,rfl,rfl,trivial⟩ ?_;simp only [awe,Sa.cs,push_cast,↓reduceIte,reduceCtorEq,zB,zE,zA,zS,zL,zD,zM]

def an3 (s:Sa):AV:=if s.n=0 then .tup [.r (Sa.rv ⟨0,0,0,0,0⟩),bl false] else .tup [.r s.rv,bl true]
section
variable {L:List Pt} {es:List MapEntry} {c:Nat} {ns:List (List Ky)} {ce:Nat→List MapEntry} {cc:Nat→Nat}
def ard (ns:List (List Ky)) (w:Int):Sa:=xr ⟨w,0,0,0,0⟩ (tc ⟨w,-9223372036854775808,-9223372036854775808⟩ w ns.flatten)
theorem a5y (h:StL L es c ns ce cc) (w:Int):a7 P0 38 [.ptr 1000000 0 0,int .u64 w] (stOs es c ns ce cc) (an3 (ard ns w)) (stOs es c ns ce cc):=by
 have hT:=a3i h.tk.g (by rw [h.tk.l]; have:=h.le; omega) w ⟨w,0,0,0,0⟩;refine ace rfl (by simp [stOs]) ?_;simp only [vw,stOs,push_cast,↓reduceIte,reduceCtorEq,zB,zE,zA,zS,zL,zD,zM]
 repeat refine And.intro (by first | decide | omega | exact fun _=>by decide | (simp +contextual; done) | kernel_rfl) ?_
 refine a5 hT rfl ⟨rfl,rfl,trivial⟩ ?_;unfold ard;generalize xr ⟨w,0,0,0,0⟩ (tc ⟨w,-9223372036854775808,-9223372036854775808⟩ w ns.flatten)=q;simp only [Sa.cs,push_cast,↓reduceIte,reduceCtorEq,zB,zE,zA,zS,zL,zD,zM];refine b6 (fun h0=>?_) (fun h0=>?_)
 ·have h0':q.n=0:=by simpa using h0
  simp only [an3,h0',Sa.rv,push_cast,↓reduceIte,reduceCtorEq,zB,zE,zA,zS,zL,zD,zM]
 ·have h0':q.n≠0:=by simpa using h0
  simp only [an3,h0',Sa.rv,push_cast,↓reduceIte,reduceCtorEq,zB,zE,zA,zS,zL,zD,zM]
def ba8 (L:List Pt) (w:Int) (s:Sa):Prop:=∃ns,TK (KL L) (13*L.length) ns∧s=ard ns w
end

def inC (w:Nat) (p:Pt):Bool:=(List.range 13).any fun r=>p.w r == w
def mem (L:List Pt) (w:Nat):List Pt:=L.filter (inC w)
def abi (M:List Pt):Int:=(M.map (·.v)).sum
def loV:List Pt→Int
 | []=>0
 | p::l=>l.foldl (fun a q=>min a q.v) p.v
def hiV:List Pt→Int
 | []=>0
 | p::l=>l.foldl (fun a q=>max a q.v) p.v
theorem aoy {w:Nat} {p:Pt}:inC w p=true↔∃r,r<13∧p.w r=w:=by simp [inC]
theorem ar0:∀(l:List Pt) (a:Int),(l.foldl (fun a q=>min a q.v) a≤a∧∀q∈l,l.foldl (fun a q=>min a q.v) a≤q.v)∧(l.foldl (fun a q=>min a q.v) a=a∨∃q∈l,l.foldl (fun a q=>min a q.v) a=q.v)
 | [],a=>by simp
 | p::l,a=>by
  obtain ⟨⟨h1,h2⟩,h3⟩:=ar0 l (min a p.v);simp only [List.foldl_cons];refine ⟨⟨by omega,fun q hq=>?_⟩,?_⟩
  ·rcases zad.1 hq with rfl | hq
   ·omega
   ·exact h2 q hq
  ·rcases h3 with h3 | ⟨q,hq,h3⟩
   ·rcases (show min a p.v=a∨min a p.v=p.v by omega) with e | e
    ·exact .inl (h3.trans e)
    ·exact .inr ⟨p,by simp,h3.trans e⟩
   ·exact .inr ⟨q,by simp [hq],h3⟩
theorem ar2:∀(l:List Pt) (a:Int),(a≤l.foldl (fun a q=>max a q.v) a∧∀q∈l,q.v≤l.foldl (fun a q=>max a q.v) a)∧(l.foldl (fun a q=>max a q.v) a=a∨∃q∈l,l.foldl (fun a q=>max a q.v) a=q.v)
 | [],a=>by simp
 | p::l,a=>by
  obtain ⟨⟨h1,h2⟩,h3⟩:=ar2 l (max a p.v);simp only [List.foldl_cons];refine ⟨⟨by omega,fun q hq=>?_⟩,?_⟩
  ·rcases zad.1 hq with rfl | hq
   ·omega
   ·exact h2 q hq
  ·rcases h3 with h3 | ⟨q,hq,h3⟩
   ·rcases (show max a p.v=a∨max a p.v=p.v by omega) with e | e
    ·exact .inl (h3.trans e)
    ·exact .inr ⟨p,by simp,h3.trans e⟩
   ·exact .inr ⟨q,by simp [hq],h3⟩
theorem ayp {M:List Pt} (h:M≠[]):(∃q∈M,q.v=loV M)∧∀q∈M,loV M≤q.v:=by
 rcases M with _ | ⟨p,l⟩
 ·exact absurd rfl h
 obtain ⟨⟨h1,h2⟩,h3⟩:=ar0 l p.v;refine ⟨?_,fun q hq=>?_⟩
 ·rcases h3 with h3 | ⟨q,hq,h3⟩
  ·exact ⟨p,by simp,h3.symm⟩
  ·exact ⟨q,by simp [hq],h3.symm⟩
 ·rcases zad.1 hq with rfl | hq
  ·exact h1
  ·exact h2 q hq
theorem ayv {M:List Pt} (h:M≠[]):(∃q∈M,q.v=hiV M)∧∀q∈M,q.v≤hiV M:=by
 rcases M with _ | ⟨p,l⟩
 ·exact absurd rfl h
 obtain ⟨⟨h1,h2⟩,h3⟩:=ar2 l p.v;refine ⟨?_,fun q hq=>?_⟩
 ·rcases h3 with h3 | ⟨q,hq,h3⟩
  ·exact ⟨p,by simp,h3.symm⟩
  ·exact ⟨q,by simp [hq],h3.symm⟩
 ·rcases zad.1 hq with rfl | hq
  ·exact h1
  ·exact h2 q hq
theorem anh {a b:Ky}:kl a b=true↔a.c<b.c∨(a.c=b.c∧(a.v<b.v∨(a.v=b.v∧a.d<b.d))):=by
 unfold kl;split
 ·rw [decide_eq_true_iff]; omega
 ·split
  ·rw [decide_eq_true_iff]; omega
  ·rw [decide_eq_true_iff]; omega
theorem a23 {a b:Ky}:kl a b=false↔¬(a.c<b.c∨(a.c=b.c∧(a.v<b.v∨(a.v=b.v∧a.d<b.d)))):=by
 rw [← anh]; simp
theorem a6p {w:Int}:∀{M:List Ky},Srt M→(∀k∈M,w≤k.c)→M.takeWhile (fun k=>k.c == w)=M.filter fun k=>k.c == w
 | [],_,_=>rfl
 | x::M,h,hw=>by
  have h1:=List.pairwise_cons.1 h;rw [List.takeWhile_cons,List.filter_cons];rcases hx:(x.c == w) with _ | _
  ·simp only [Bool.false_eq_true,if_false];rw [eq_comm,List.filter_eq_nil_iff];intro y hy hc;have:=anh.1 (h1.1 y hy);have hxw:=hw x (by simp);simp at hx hc;omega
  ·simp only [if_true];rw [a6p h1.2 fun k hk=>hw k (by simp [hk])]
theorem a9s {K:List Ky} (h:Srt K) (w:Int) (hb:∀k∈K,-9223372036854775808≤k.v∧-9223372036854775808≤k.d):tc ⟨w,-9223372036854775808,-9223372036854775808⟩ w K=K.filter fun k=>k.c == w:=by
 unfold tc;rw [a6p (h.sublist zay),List.filter_filter]
 ·apply List.filter_congr;intro k hk;have:=hb k hk;rcases hc:(k.c == w) with _ | _
  ·rfl
  ·simp at hc;rw [Bool.true_and,Bool.not_eq_true',a23];simp only;omega
 ·intro k hk;obtain ⟨h1,h2⟩:=zal.1 hk;have:=hb k h1;rw [Bool.not_eq_true',a23] at h2;simp only at h2;omega
def adb (F:List Ky):Int:=(F.map (·.v)).sum
theorem au0:∀(F:List Ky) (s:Sa),0≤s.n→s.n+F.length≤100000→-2147483648*s.n≤s.s→s.s≤2147483648*s.n→(∀k∈F,-2147483648≤k.v∧k.v≤2147483648) →
  xr s F=⟨s.w,s.n+F.length,s.s+adb F,if s.n=0 then ((F.head?).map (·.v)).getD s.lo else s.lo,((F.getLast?).map (·.v)).getD s.hi⟩
 | [],s,_,_,_,_,_=>by simp [xr,adb]
 | k::F,s,h1,h2,h3,h4,h5=>by
  have hk:=h5 k (by simp);simp only [zap] at h2;have e1:IntKind.i64.wrap (s.n+1)=s.n+1:=a6 (by omega);have e2:IntKind.i64.wrap (s.s+k.v)=s.s+k.v:=a6 (by omega);have ih:=au0 F (s.add k.v) (by simp only [Sa.add,e1]; omega) (by simp only [Sa.add,e1]; omega) (by simp only [Sa.add,e1,e2]; omega) (by simp only [Sa.add,e1,e2]; omega) fun q hq=>h5 q (by simp [hq]);have e3:xr s (k::F)=xr (s.add k.v) F:=rfl;rw [e3,ih];simp only [Sa.add,e1,e2,Sa.mk.injEq,zap,adb,zak,List.sum_cons,List.head?_cons,Option.map_some,Option.getD_some,true_and];refine ⟨by omega,by omega,?_,?_⟩
  ·rw [if_neg (by omega)]
  ·rw [List.getLast?_cons];cases hF:F.getLast? <;> simp
theorem aw2 {F G:List Ky} (h:F.Perm G):adb F=adb G:=by
 induction h with
 | nil=>rfl
 | cons x _ ih=>simp only [adb,zak,List.sum_cons] at ih ⊢; omega
 | swap x y l=>simp only [adb,zak,List.sum_cons]; omega
 | trans _ _ h1 h2=>exact h1.trans h2
def ai1 (L:List Pt) (w:Nat):Sa:=if mem L w=[] then ⟨w,0,0,0,0⟩ else ⟨w,(mem L w).length,abi (mem L w),loV (mem L w),hiV (mem L w)⟩
theorem atd {M:List Pt} {w:Int} (h:(M.map (·.k)).Nodup):(M.map fun p=>(⟨w,p.v,p.k⟩:Ky)).Nodup:=by
 have:(M.map (·.k))=(M.map fun p=>(⟨w,p.v,p.k⟩:Ky)).map (·.d):=by simp
 rw [this] at h;exact (List.pairwise_map.1 h).imp fun {a b} hab e=>hab (by rw [e])
theorem a4q {L:List Pt} {es:List MapEntry} {c:Nat} {ns:List (List Ky)} {ce:Nat→List MapEntry} {cc:Nat→Nat} (h:StL L es c ns ce cc) (w:Nat):ard ns w=ai1 L w:=by
 have hK:∀k∈ns.flatten,∃p∈L,∃r,r<13∧k=p.ky r:=fun k hk=>(h.tk.m k).1 hk
 have hb:∀k∈ns.flatten,-2147483648≤k.v∧k.v≤2147483647∧1≤k.d:=fun k hk=>by
  obtain ⟨p,hp,r,hr,rfl⟩:=hK k hk;have:=h.ok p hp;exact ⟨this.2.2.1,this.2.2.2,this.1.1⟩
 unfold ard;rw [a9s h.tk.g.so w fun k hk=>by have:=hb k hk; omega];generalize hF:(ns.flatten.filter fun k=>k.c == (w:Int))=F;have hsF:Srt F:=by rw [← hF]; exact h.tk.g.so.sublist zay
 have hmF:∀k,k∈F↔k∈(mem L w).map fun p=>(⟨w,p.v,p.k⟩:Ky):=fun k=>by
  rw [← hF,zal,h.tk.m,zag];constructor
  ·rintro ⟨⟨p,hp,r,hr,rfl⟩,hc⟩;have hc':p.w r=w:=Int.ofNat.inj (by simpa [Pt.ky] using hc);exact ⟨p,zal.2 ⟨hp,aoy.2 ⟨r,hr,hc'⟩⟩,by simp [Pt.ky,hc']⟩
  ·rintro ⟨p,hp,rfl⟩;obtain ⟨hp,hi⟩:=zal.1 hp;obtain ⟨r,hr,e⟩:=aoy.1 hi;exact ⟨⟨p,hp,r,hr,by simp [Pt.ky,e]⟩,by simp⟩
 have hndM:((mem L w).map (·.k)).Nodup:=by
  have:((mem L w).map (·.k)).Sublist (L.map (·.k)):=zay.map _;exact this.nodup h.pm.nd
 have hndF:F.Nodup:=hsF.imp fun {a b} hab e=>by subst e; rw [ang] at hab; cases hab
 have hP:F.Perm ((mem L w).map fun p=>(⟨w,p.v,p.k⟩:Ky)):=(List.perm_ext_iff_of_nodup hndF (atd hndM)).2 hmF;have hlen:=hP.length_eq;rw [List.length_map] at hlen;have hle:(mem L w).length≤L.length:=List.length_filter_le ..;have:=h.le
 have hbF:∀k∈F,-2147483648≤k.v∧k.v≤2147483648:=fun k hk=>by
  rw [← hF] at hk;have:=hb k (zal.1 hk).1;omega
 rw [au0 F ⟨w,0,0,0,0⟩ (by simp) (by simp only; omega) (by simp) (by simp) hbF]
 have hsum:adb F=abi (mem L w):=by
  rw [aw2 hP];simp [adb,abi,List.map_map,Function.comp_def]
 unfold ai1;by_cases hM:mem L w=[]
 ·have hF0:F=[]:=zaz.1 (by rw [hlen,hM]; rfl);rw [if_pos hM];subst hF0;simp [adb]
 ·rw [if_neg hM];have hF0:F≠[]:=fun e=>hM (zaz.1 (by rw [← hlen,e]; rfl));obtain ⟨x,F',rfl⟩:=zav hF0;obtain ⟨l1,l2⟩:=ayp hM;obtain ⟨u1,u2⟩:=ayv hM
  have hv:∀k∈x::F',∃p∈mem L w,k.v=p.v:=fun k hk=>by
   obtain ⟨p,hp,rfl⟩:=zag.1 ((hmF k).1 hk);exact ⟨p,hp,rfl⟩
  have hv':∀p∈mem L w,∃k∈x::F',k.v=p.v:=fun p hp=>⟨_,(hmF _).2 (zag.2 ⟨p,hp,rfl⟩),rfl⟩
  have hc:∀k∈x::F',k.c=w:=fun k hk=>by
   obtain ⟨p,hp,rfl⟩:=zag.1 ((hmF k).1 hk)
   rfl
  have hs:=List.pairwise_cons.1 hsF
  have hlo:x.v=loV (mem L w):=by
   obtain ⟨p,hp,e⟩:=hv x (by simp);obtain ⟨q,hq,e2⟩:=l1;obtain ⟨k,hk,e3⟩:=hv' q hq;have g1:=l2 p hp;rcases zad.1 hk with rfl | hk'
   ·omega
   ·have:=anh.1 (hs.1 k hk');have c1:=hc x (by simp);have c2:=hc k hk;omega
  obtain ⟨y,hy⟩:∃y,(x::F').getLast?=some y:=⟨(x::F').getLast (by simp),List.getLast?_eq_some_getLast (by simp)⟩
  have hym:y∈x::F':=List.mem_of_getLast? hy
  have hhi:y.v=hiV (mem L w):=by
   obtain ⟨p,hp,e⟩:=hv y hym;obtain ⟨q,hq,e2⟩:=u1;obtain ⟨k,hk,e3⟩:=hv' q hq;have g1:=u2 p hp
   obtain ⟨G,hG⟩:∃G,x::F'=G++[y]:=⟨(x::F').dropLast,by
    have e:=List.getLast?_eq_some_getLast (l:=x::F') (by simp);rw [hy] at e;rw [Option.some.inj e]
    exact (List.dropLast_concat_getLast (by simp)).symm⟩
   have hsG:=hsF;rw [hG] at hsG hk;rcases zab.1 hk with hk' | hk'
   ·have:=anh.1 ((List.pairwise_append.1 hsG).2.2 k hk' y (by simp));have c1:=hc y hym;have c2:=hc k (by rw [hG]; simp [hk']);omega
   ·rw [zat.1 hk'] at e3;omega
  rw [hy];simp only [Sa.mk.injEq,if_true,List.head?_cons,Option.map_some,Option.getD_some,hlo,hhi,hsum,hlen,true_and,Int.zero_add,and_true]
def aa3 (L:List Pt) (w:Nat):AV:=if mem L w=[] then .tup [.r (Sa.rv ⟨0,0,0,0,0⟩),bl false] else .tup [.r (ai1 L w).rv,bl true]
theorem a17 (L:List Pt) (w:Nat):an3 (ai1 L w)=aa3 L w:=by
 unfold an3 aa3 ai1;by_cases hM:mem L w=[]
 ·simp [hM]
 ·have:(mem L w).length≠0:=fun e=>hM (zaz.1 e);rw [if_neg hM,if_neg (by simp only; omega),if_neg hM]
theorem a85 (L:List Pt) (w:Nat):a7 P0 38 [.ptr 1000000 0 0,int .u64 w] [.abs (sT L)] (aa3 L w) [.abs (sT L)]:=by
 have:=a03 (P:=P0) (f:=38) (F:=SF L) (F':=SF L) rfl («as»:=[int .u64 w]) (res:=aa3 L w) (ex:=[]) (fun os h=>by
  obtain ⟨es,c,ns,ce,cc,h,rfl⟩:=h;refine ⟨_,⟨_,_,_,_,_,h,rfl⟩,?_⟩;rw [List.append_nil,← a17,← a4q h]
  exact a5y h w) rfl (by simp) (by unfold aa3; split<;>simp [v8,gj,eh,kw,Sa.rv])
 have e:∀F,imV F (aa3 L w)=aa3 L w:=fun F=>by unfold aa3; split<;>rfl
 rw [e] at this;exact this

noncomputable def ajt:PC:=
  (.seq (.reg [p_s 2 (.mov (.c (.r (.v (.pointer none)))))])
 (.seq (.reg [p_c 6 1 32 [],p_m 3 6])
 (.seq (.seq (.reg [p_m 7 0,p_s 8 (.len false (.t 7)),p_s 9 (.mov (o_i 0))])
 (.block 0 (.loop (.seq (.reg [p_s 10 (.bin .lss (.t 9) (.t 8))])
 (.seq (.cond (.t 10)
 .skip
 (.exit 0))
 (.seq (.block 1 (.seq (.reg [p_s 11 (.ia 4 (.agg [(.v (.int .i64 0)),(.v (.int .i64 0)),(.v (.int .i64 0)),(.v (.int .i64 0))]) (.t 7) (.t 9)),p_s 12 (.ld (some 4) (.t 11)),p_a 5 (.new [(.r (.v (.int .i64 0))),(.r (.v (.int .i64 0))),(.r (.v (.int .i64 0))),(.r (.v (.int .i64 0)))]),
 ⟨none,none,0,.act (.st 4 (.t 5) (.t 12))⟩])
 (.reg [p_m 13 3,p_s 14 (.ld (some 4) (.t 5)),p_c 15 2 36 [.t 13,.t 14]])))
 (.reg [p_s 16 (.bin .add (.t 9) (o_i 1)),p_m 9 16])))))))
 (.seq (.reg [p_m 17 3,p_m 2 17])
 .ret))))
theorem ame:Fun P0 18 1 [(2,false,none)] ajt:=b5 Go.Proofs.Tryz.func18 rfl (by decide) (by kernel_rfl) (by decide) rfl (by kernel_rfl) (by kernel_rfl) (by decide)
def a9v (L:List Pt) (p:Pt):List Pt:=if a88 L p then a9z L p else L
def ofL (l:List Pt):List Pt:=l.foldl a9v []
def pts (l:List Pt):RV:=.sl 4 (l.map Pt.rv)
theorem a4x {l:List Pt} {i:Nat} {p:Pt} (h:l[i]?=some p) (z:RV):(l.map Pt.rv).getD ((i:Int)).toNat z=.agg [.v (.int .i64 p.k),.v (.int .i64 p.x),.v (.int .i64 p.y),.v (.int .i64 p.v)]:=by
 simp [List.getD,h,Pt.rv]

def bbj (xs:List Int):RV:=.sl 1 (xs.map fun x=>.v (.int .i64 x))
def gPt (a b:Int) (l:List Pt):Pt:=match l.getLast? with
 | some p=>if a/1099511627776%4≠0 then ⟨l.length+1,min (p.x+a%1024) 1073741823,min (p.y+b%1024) 1073741823,b/1073741824%256-99⟩ else ⟨l.length+1,a%1073741824,b%1073741824,b/1073741824%256-99⟩
 | none=>⟨l.length+1,a%1073741824,b%1073741824,b/1073741824%256-99⟩
def ba4:List Int→List Pt→List Pt
 | a::b::r,l=>if l.length<40 then ba4 r (l++[gPt a b l]) else l
 | _,l=>l
def GP (l:List Pt):Prop:=∀(j:Nat) (p:Pt),l[j]?=some p→p.k=(j:Int)+1∧p.ok
theorem m8 (a:Int):IntKind.i64.wrap ((BitVec.ofInt IntKind.i64.bits a &&& BitVec.ofInt IntKind.i64.bits 255).toNat)=a%256:=alw a 255 8 (by decide) (by decide)
theorem m2 (a:Int):IntKind.i64.wrap ((BitVec.ofInt IntKind.i64.bits a &&& BitVec.ofInt IntKind.i64.bits 3).toNat)=a%4:=alw a 3 2 (by decide) (by decide)

theorem asw (L:List Pt) (w:Nat) (h:mem L w≠[]):a7 P0 38 [.ptr 1000000 0 0,int .u64 w] [.abs (sT L)] (.tup [.r (.agg [.v (.int .u64 w),.v (.int .i64 (mem L w).length),.v (.int .i64 (abi (mem L w))),.v (.int .i64 (loV (mem L w))),.v (.int .i64 (hiV (mem L w)))]),bl true]) [.abs (sT L)]:=by
 have:=a85 L w;unfold aa3 ai1 at this;rw [if_neg h,if_neg h] at this;exact this



end Go.Ev

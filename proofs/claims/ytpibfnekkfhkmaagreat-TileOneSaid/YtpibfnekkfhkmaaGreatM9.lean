import Derived.Deep.RegionLaw
import Derived.Deep.RegionHeld3
import Derived.Test.YtpibfnekkfhkmaaGreatM8
open Nat renaming reduceBEq → zB, reduceEqDiff → zE, reduceAdd → zA, reduceSub → zS, reduceLT → zL, reduceLeDiff → zD, reduceMul → zM
open Go.Proofs.Tryz renaming prog → P0
open Go.Proofs.Tryz
open List renaming getElem?_eq_some_iff → zaa, mem_append → zab, mem_cons → zac, mem_of_getElem? → zad, length_nil → zah, length_map → zai, mem_iff_getElem? → zaj, length_cons → zak, mem_map → zal, nodup_cons → zan, drop_eq_getElem_cons → zao, nil_append → zaq, getElem?_append_left → zar, getElem?_take → zas, take_append_drop → zat, length_append → zau, cons_append → zav, setIfInBounds_toArray → zaw, getElem?_toArray → zax, getElem?_inj → zay, mem_or_eq_of_mem_set → zaz, length_drop → zba, getElem?_set → zbb, getElem?_eq_getElem → zbc, flatten_cons → zbd, map_cons → zbe, mem_filter → zbf, getElem?_drop → zbh, append_assoc → zbi, pairwise_iff_getElem → zbj, findIdx?_cons → zbk, map_append → zbm, mem_singleton → zbn, mem_of_mem_take → zbo, mem_of_mem_drop → zbp, length_pos_iff → zbq, exists_cons_of_ne_nil → zbr, getElem?_modify → zbs, filter_sublist → zbt, length_eq_zero_iff → zbu, getLast?_eq_some_getLast → zbv
open Int renaming reduceToNat → zae
open Nat renaming le_refl → zaf
open BitVec renaming ofInt → zam
open Array renaming getElem?_eq_some_iff → zap
open Option renaming toList_some → zbg
open Bool renaming false_eq_true → zbl
namespace Go.Ev
set_option maxRecDepth 100000
noncomputable section
open Go Go.RowKit
set_option linter.unusedSectionVars false
set_option linter.unnecessarySimpa false
set_option linter.unusedSimpArgs false
set_option linter.unusedVariables false
theorem apa:(Go.Proofs.Tryz.prog.info? 120).map (fun i=>(i.zero,i.size,i.bytes))=some (some (.agg #[.int .u64 0,.int .i64 0,.int .i64 0]),3,24):=by kernel_rfl
theorem a8x:(Go.Proofs.Tryz.prog.info? 176).map (fun i=>(i.zero,i.size,i.bytes))=some (some (.slice none 0 0),1,24):=by kernel_rfl
theorem amm {P:Program} {t:TypeId} {z:Option Value} {s b:Nat} (h:(P.info? t).map (fun i=>(i.zero,i.size,i.bytes))=some (z,s,b)):∃i,P.info? t=some i∧i.zero=z∧i.size=s∧i.bytes=b:=by
 rcases hi:P.info? t with _ | i
 ·rw [hi] at h; simp at h
 ·rw [hi] at h;simp at h;exact ⟨i,rfl,h.1,h.2.1,h.2.2⟩
theorem asg {P:Program} {ops:Array Oper} {o:Oper} {a:Act} {w:World} {K:Act→World→Prop} {Q:Exit→Act→World→Prop} {E:Prop} (hgd:o.guard=none) (h:Oper.wp P o a w K Q):if Region.wanted o (yielded ops a.tmps)=true then Oper.wp P o a w K Q else E:=by
 rw [if_pos (by simp [Region.wanted,hgd])];exact h
theorem au6 {p:Prop} (h:Unit→p):p:=h ()
set_option maxHeartbeats 2000000 in
theorem put2_w {w : World} {b cap : Nat} {og : Option Nat} {gs : List Nat} {ns : List (List Ky)} {n : Int} (h : TL w b og gs cap ns n) (k : Ky) (r s : Nat) (l : List Ky) (hN : Nod ns k r) (hl : ns[r - 1]? = some l) (hP : Plc l k s) (hs : l[s]? ≠ some k) (hlen : l.length < 32) (hn0 : 0 ≤ n) (hn1 : n < 9223372036854775807) :
    Calls P0 64 #[.pointer (some ⟨b,0,none⟩),k.val] w fun e w'=>e=.returned (.bool true) ∧
    ∃gs',TL w' b og gs' cap (ns.set (r-1) (l.take s++k::l.drop s)) (n+1)∧Keeps (Ft b og gs) w w'∧∀x,Ft b og gs' x→Ft b og gs x∨w.heap.size≤x:=by
  obtain ⟨g,rfl⟩:=h.some_ hl;have hat:r-1<ns.length:=(zaa.1 hl).1;generalize hr:r-1=i at *;obtain ⟨c0,c1,f0,f1,hlt⟩:=h.root;have hne:((ns.length:Int) == 0)=false:=by rw [beq_eq_false_iff_ne]; omega
  have hk0:∀x,Keeps (fun _=>False) w (w.alloc x):=fun x=>z9;have i0:(0:Int)≤(i:Int):=by omega
  have i1:(i:Int)<(ns.length:Int):=by omega
  obtain ⟨iK,hiK,hzK,hsK,hbK⟩:=amm apa;simp only [Ky.val]
  go_enter func64,Go.Proofs.Tryz.ntmps64
  go_wp2_with fail
  have h1:=h.keeps (hk0 (.cells #[.int .u64 k.c,.int .i64 k.v,.int .i64 k.d] 120)) (fun _ _ q=>q);have b1:KB (w.alloc (.cells #[.int .u64 k.c,.int .i64 k.v,.int .i64 k.d] 120)) w.heap.size k:=aar rfl;refine (awj h1 k r hN).mono ?_;rintro e w2 ⟨rfl,hK2⟩;rw [hr];have h2:=h1.keeps (hK2 fun _=>False) (fun _ _ q=>q);have b2:=b1.keeps (hK2 fun _=>False) (fun q=>q);obtain ⟨d0,d1,f2,f3,_⟩:=h2.root;obtain ⟨g',c,hg',hrow,d2,f4⟩:=h2.node hl;obtain ⟨k0,k1,k2⟩:=b2.cells
  go_wp2_with fail
  refine (axf hrow k s hP).mono ?_;rintro e w3 ⟨rfl,hK3⟩;rw [decide_eq_false hs];have h3:=h2.keeps (hK3 fun _=>False) (fun _ _ q=>q);have b3:=b2.keeps (hK3 fun _=>False) (fun q=>q);have hrow3:xx w3 g' l c:=hrow.loc ((hK3 fun _=>False).block g' hrow.lt fun q=>q);clear d0 d1 f2 f3 d2 f4 k0 k1 k2;obtain ⟨k0,k1,k2⟩:=b3.cells
  go_wp2_with (at_builtin; refine au6 ?_)
  intro _;obtain ⟨cs,e',hg3,hsz,hf,hlc,hc,hcm⟩:=hrow3;have hl3:g'<w3.heap.size:=(zap.1 hg3).1
  refine wpList_plain rfl fun K hK=>wp_app (.tmp 41) (.tmp 43) _ _ rfl Go.Proofs.Tryz.underlying176 Go.Proofs.Tryz.underlying176 hiK hzK (by rw [hsK]; rfl) hsK hbK g' l.length c rfl hc (by rw [sj hl3]; exact hg3) hsz hlc rfl (kc k)
    (abo (aar rfl) rfl fun j u hj=>by simpa [kc] using hj) rfl (by simp [kc,Value.oneCell']) (by simp only [maxLen]; omega) hcm (by omega) ?_
  intro g2 cap2 cs2 e2 w4 hor hc2 hlc2 hcm2 hg4 hsz2 hf2 hK4;refine hK _ _ ?_;have hsl:s≤l.length:=hP.le;have w1:IntKind.i64.wrap ((s:Int)+1)=(s:Int)+1:=a7 ⟨by omega,by omega⟩;have j0:(0:Int)≤(s:Int):=by omega
  have j1:(s:Int)≤(l.length:Int)+1:=by omega
  have j2:(0:Int)≤(s:Int)+1:=by omega
  have j3:(s:Int)+1≤(l.length:Int)+1:=by omega
  go_wp2_with fail
  have hpre:(flat l++kc k) <+: cs2.toList:=by
    exact aze (cp l) hf (fun j hj=>hf2 j (by rw [show (kc k).length=3 from rfl] at hj; omega)) (by rw [show (kc k).length=3 from rfl]; omega)
  have hone:∀u∈(cs2.toList.drop (s*3)).take ((l.length-s)*3),u.oneCell'=true:=ay5 hpre (fun u hu=>by
    rcases zab.1 hu with hu | hu
    · exact apg u hu
    · simp [kc] at hu; rcases hu with rfl | rfl | rfl<;>rfl) (by rw [zau,cp,show (kc k).length=3 from rfl]; omega)
  go_region_held3 (fun _=>True) (trivial) ((refine asg rfl (wp_cpy (.tmp 48) (.tmp 51) _ _ rfl Go.Proofs.Tryz.underlying176 hiK hsK g2 ((s+1)*3) (s*3) (l.length-s) hg4 rfl rfl (by simp only [Nat.min_def]; split<;>omega) (fun hm=>⟨if_neg (by omega),if_neg (by omega)⟩) (by omega) (by omega) hone ?_); intro w5 hg5 hK5))
  have hnd:=h.nb;have hgm:g'∈gs:=zad hg';simp only [zbg,zav,zaq,zan,zac,not_or] at hnd;obtain ⟨⟨n1,n2⟩,n3,n4⟩:=hnd;have l1:=h.lt g (.inr (.inl rfl));have l2:=h.lt g' (.inr (.inr hgm))
  have z2:w.heap.size+1≤w3.heap.size:=by
    have a1:=(hK2 fun _=>False).size;have a2:=(hK3 fun _=>False).size;have a3:(w.alloc (.cells #[.int .u64 k.c,.int .i64 k.v,.int .i64 k.d] 120)).heap.size=w.heap.size+1:=amd;omega
  have z3:(w3.alloc (.cells #[.int .u64 k.c,.int .i64 k.v,.int .i64 k.d] 120)).heap.size=w3.heap.size+1:=amd;rw [z3] at hor;have hg2b:∀x,x<w3.heap.size→x≠g'→x≠g2:=fun x h1 h2 h3=>by rcases hor with q | q<;>omega
  have hsame:∀x,x<w3.heap.size→x≠g'→w5.heap[x]?=w3.heap[x]?:=fun x h1 h2=>by
    rw [hK5.block x (Nat.lt_of_lt_of_le (by rw [z3]; omega) hK4.size) (hg2b x h1 h2),show w4.drew.heap=w4.heap from rfl,hK4.block x (by rw [z3]; omega) h2,sj h1]
  have m1:b≠g':=fun q=>n2 (q▸hgm);have m2:g≠g':=fun q=>n3 (q▸hgm);have hgb:¬b=g2:=hg2b b (by omega) m1;have hgg:¬g=g2:=hg2b g (by omega) m2;have hgh:¬w.heap.size=g2:=hg2b _ (by omega) (by omega);have hgb':¬g2=b:=fun q=>hgb q.symm;have hgg':¬g2=g:=fun q=>hgg q.symm;have hgh':¬g2=w.heap.size:=fun q=>hgh q.symm;have hbg:¬b=g:=n1;have hbg':¬g=b:=fun q=>n1 q.symm;obtain ⟨p0,p1,q0,q1,_⟩:=h3.root;obtain ⟨_,_,_,_,p2,q2⟩:=h3.node hl;have e0:=(bg (hsame b (by omega) m1) 0).trans p0;have e1:=(bg (hsame b (by omega) m1) 1).trans p1;have r0:=(qc (hsame b (by omega) m1) 0).trans q0;have r1:=(qc (hsame b (by omega) m1) 1).trans q1;have e3:=(bg (hsame g (by omega) m2) i).trans p2
  have r2:=(qc (hsame g (by omega) m2) i).trans q2;have e4:=(bg (hsame w.heap.size (by omega) (by omega)) 0).trans k0;have e5:=(bg (hsame w.heap.size (by omega) (by omega)) 1).trans k1;have e6:=(bg (hsame w.heap.size (by omega) (by omega)) 2).trans k2
  have hz5:(d7 cs2.toList ((s+1)*3) ((cs2.toList.drop (s*3)).take ((l.length-s)*3))).toArray.size=cs2.size:=by
    rw [List.size_toArray,k7 (by simp; omega)]; simp
  obtain ⟨v0,e7⟩:=uq hg5 (o:=s*3) (by omega);obtain ⟨v1,e8⟩:=uq hg5 (o:=s*3+1) (by omega);obtain ⟨v2,e9⟩:=uq hg5 (o:=s*3+2) (by omega);have r3:=kn (o:=s*3) hg5;have r4:=kn (o:=s*3+1) hg5;have r5:=kn (o:=s*3+2) hg5;have wn:IntKind.i64.wrap (n+1)=n+1:=a7 ⟨by omega,by omega⟩;have j4:(s:Int)<(l.length:Int)+1:=by omega
  have j5:¬((32:Int)<(l.length:Int)+1):=by omega
  clear k0 k1 k2 p0 p1 q0 q1 p2 q2
  go_wp2_with fail
  · go_ret
    obtain ⟨ho0,ho⟩:=h3.out g rfl;obtain ⟨co,eo,hco1,hco2,hco4⟩:=ho;obtain ⟨eb,heb⟩:=h3.hd;have G0:=(hsame g (by omega) m2).trans hco1;have B0:=(hsame b (by omega) m1).trans heb;have G1:=v7 (o:=s*3) (v:=.int .u64 k.c) hg5;have G2:=v7 (o:=s*3+1) (v:=.int .i64 k.v) G1;have G3:=v7 (o:=s*3+2) (v:=.int .i64 k.d) G2
    have O1:∀x,x≠g2→(((w5.setCell ⟨g2,s*3,none⟩ (.int .u64 k.c)).setCell ⟨g2,s*3+1,none⟩ (.int .i64 k.v)).setCell ⟨g2,s*3+2,none⟩ (.int .i64 k.d)).heap[x]?=w5.heap[x]?:=fun x hx=>by
      rw [s8 G2 hx,s8 G1 hx,s8 hg5 hx]
    have K1:Keeps (· = g2) w5 (((w5.setCell ⟨g2,s*3,none⟩ (.int .u64 k.c)).setCell ⟨g2,s*3+1,none⟩ (.int .i64 k.v)).setCell ⟨g2,s*3+2,none⟩ (.int .i64 k.d)):=((s9 (I:=(· = g2)) hg5 rfl).trans (s9 (I:=(· = g2)) G1 rfl)).trans (s9 (I:=(· = g2)) G2 rfl);generalize ((w5.setCell ⟨g2,s*3,none⟩ (.int .u64 k.c)).setCell ⟨g2,s*3+1,none⟩ (.int .i64 k.v)).setCell ⟨g2,s*3+2,none⟩ (.int .i64 k.d)=w6 at *;have C0:=(O1 g hgg).trans G0;have C1:=(O1 b hgb).trans B0;have hll:(l.take s++k::l.drop s).length=l.length+1:=by simp; omega
    have F1:=v7 (o:=i) (v:=.slice (some ⟨g2,0,none⟩) (l.length+1) (s+1)) C0;have O2:∀x,x≠g→(w6.setCell ⟨g,i,none⟩ (.slice (some ⟨g2,0,none⟩) (l.length+1) (s+1))).heap[x]?=w6.heap[x]?:=fun x hx=>s8 C0 hx;have K2:=s9 (o:=i) (v:=.slice (some ⟨g2,0,none⟩) (l.length+1) (s+1)) (I:=fun x=>Ft b (some g) gs x∨w.heap.size≤x) C0 (.inl (.inr (.inl rfl)));generalize w6.setCell ⟨g,i,none⟩ (.slice (some ⟨g2,0,none⟩) (l.length+1) (s+1))=w7 at *;have D1:=(O2 b hbg).trans C1;have F2:=v7 (o:=1) (v:=.int .i64 (n+1)) D1;have O3:∀x,x≠b→(w7.setCell ⟨b,1,none⟩ (.int .i64 (n+1))).heap[x]?=w7.heap[x]?:=fun x hx=>s8 D1 hx
    have K3:=s9 (o:=1) (v:=.int .i64 (n+1)) (I:=fun x=>Ft b (some g) gs x∨w.heap.size≤x) D1 (.inl (.inl rfl));generalize w7.setCell ⟨b,1,none⟩ (.int .i64 (n+1))=w8 at *
    have hI2:Ft b (some g) gs g2∨w.heap.size≤g2:=by
      rcases hor with q | q
      · exact .inl (.inr (.inr (q▸hgm)))
      · exact .inr (by omega)
    refine ⟨rfl,gs.set i g2,h3.put hat ⟨eb,F2⟩ ⟨co,eo,hco1,?_⟩ (c2:=(s+1)) ?_ (fun j x hj hx=>?_) ?_,rm ?_,fun x hx=>?_⟩
    · rw [O3 g hbg',F1,hll]
    · refine ⟨_,e2,by rw [O3 g2 hgb',O2 g2 hgg']; exact G3,by simp; simp at hz5; omega,?_,by rw [hll]; omega,by omega,by omega⟩;intro j u hj;have hpi:_ <+: d7 _ _ [Value.int .u64 k.c,Value.int .i64 k.v,Value.int .i64 k.d]:=af8 hsl hpre;rw [← a06 _ _ _ _ _ (by rw [k7 (by simp; omega)]; simp; omega)] at hpi;obtain ⟨t,ht⟩:=hpi;have:j<(flat (l.take s++k::l.drop s)).length:=(zaa.1 hj).1;simp only [zaw,zax];rw [← ht,zar this];exact hj
    · have hxm:x∈gs:=zad hx;have x1:x≠b:=fun q=>n2 (q▸hxm);have x2:x≠g:=fun q=>n3 (q▸hxm)
      have x3:x≠g':=fun q=>by
        subst q;have:=(zay (zaa.1 hx).1 n4).1 (hx.trans hg'.symm);exact hj this
      have x4:=h3.lt x (.inr (.inr hxm));rw [O3 x x1,O2 x x2,O1 x (hg2b x x4 x3),hsame x x4 x3]
    · rcases hor with q | q
      · exact .inl (q▸hg')
      · refine .inr ⟨hgb',hgg',fun hm=>?_⟩;have:=h3.lt g2 (.inr (.inr hm));omega
    · have kd:Keeps (fun x=>Ft b (some g) gs x∨w.heap.size≤x) w4 w4.drew:=⟨rfl,rfl,rfl,zaf _,fun _ _ _=>rfl⟩
      have k4:=hK4.mono (J:=fun x=>Ft b (some g) gs x∨w.heap.size≤x) fun x hx=>.inl (.inr (.inr (hx▸hgm)));have k5:=hK5.mono (J:=fun x=>Ft b (some g) gs x∨w.heap.size≤x) fun x hx=>hx▸hI2;have k6:=K1.mono (J:=fun x=>Ft b (some g) gs x∨w.heap.size≤x) fun x hx=>hx▸hI2;exact (((((((((z9.trans (hK2 _)).trans (hK3 _)).trans z9).trans k4).trans kd).trans k5).trans k6).trans K2).trans K3)
    · rcases hx with q | q | q
      · exact .inl (.inl q)
      · exact .inl (.inr (.inl q))
      · rcases zaz q with q | q
        · exact .inl (.inr (.inr q))
        · exact q▸hI2
  · go_ret
    obtain ⟨ho0,ho⟩:=h3.out g rfl;obtain ⟨co,eo,hco1,hco2,hco4⟩:=ho;obtain ⟨eb,heb⟩:=h3.hd;have G0:=(hsame g (by omega) m2).trans hco1;have B0:=(hsame b (by omega) m1).trans heb;have G1:=v7 (o:=s*3) (v:=.int .u64 k.c) hg5;have G2:=v7 (o:=s*3+1) (v:=.int .i64 k.v) G1;have G3:=v7 (o:=s*3+2) (v:=.int .i64 k.d) G2
    have O1:∀x,x≠g2→(((w5.setCell ⟨g2,s*3,none⟩ (.int .u64 k.c)).setCell ⟨g2,s*3+1,none⟩ (.int .i64 k.v)).setCell ⟨g2,s*3+2,none⟩ (.int .i64 k.d)).heap[x]?=w5.heap[x]?:=fun x hx=>by
      rw [s8 G2 hx,s8 G1 hx,s8 hg5 hx]
    have K1:Keeps (· = g2) w5 (((w5.setCell ⟨g2,s*3,none⟩ (.int .u64 k.c)).setCell ⟨g2,s*3+1,none⟩ (.int .i64 k.v)).setCell ⟨g2,s*3+2,none⟩ (.int .i64 k.d)):=((s9 (I:=(· = g2)) hg5 rfl).trans (s9 (I:=(· = g2)) G1 rfl)).trans (s9 (I:=(· = g2)) G2 rfl);generalize ((w5.setCell ⟨g2,s*3,none⟩ (.int .u64 k.c)).setCell ⟨g2,s*3+1,none⟩ (.int .i64 k.v)).setCell ⟨g2,s*3+2,none⟩ (.int .i64 k.d)=w6 at *;have C0:=(O1 g hgg).trans G0;have C1:=(O1 b hgb).trans B0;have hll:(l.take s++k::l.drop s).length=l.length+1:=by simp; omega
    have F1:=v7 (o:=i) (v:=.slice (some ⟨g2,0,none⟩) (l.length+1) cap2) C0;have O2:∀x,x≠g→(w6.setCell ⟨g,i,none⟩ (.slice (some ⟨g2,0,none⟩) (l.length+1) cap2)).heap[x]?=w6.heap[x]?:=fun x hx=>s8 C0 hx;have K2:=s9 (o:=i) (v:=.slice (some ⟨g2,0,none⟩) (l.length+1) cap2) (I:=fun x=>Ft b (some g) gs x∨w.heap.size≤x) C0 (.inl (.inr (.inl rfl)));generalize w6.setCell ⟨g,i,none⟩ (.slice (some ⟨g2,0,none⟩) (l.length+1) cap2)=w7 at *;have D1:=(O2 b hbg).trans C1;have F2:=v7 (o:=1) (v:=.int .i64 (n+1)) D1;have O3:∀x,x≠b→(w7.setCell ⟨b,1,none⟩ (.int .i64 (n+1))).heap[x]?=w7.heap[x]?:=fun x hx=>s8 D1 hx
    have K3:=s9 (o:=1) (v:=.int .i64 (n+1)) (I:=fun x=>Ft b (some g) gs x∨w.heap.size≤x) D1 (.inl (.inl rfl));generalize w7.setCell ⟨b,1,none⟩ (.int .i64 (n+1))=w8 at *
    have hI2:Ft b (some g) gs g2∨w.heap.size≤g2:=by
      rcases hor with q | q
      · exact .inl (.inr (.inr (q▸hgm)))
      · exact .inr (by omega)
    refine ⟨rfl,gs.set i g2,h3.put hat ⟨eb,F2⟩ ⟨co,eo,hco1,?_⟩ (c2:=cap2) ?_ (fun j x hj hx=>?_) ?_,rm ?_,fun x hx=>?_⟩
    · rw [O3 g hbg',F1,hll]
    · refine ⟨_,e2,by rw [O3 g2 hgb',O2 g2 hgg']; exact G3,by simp; simp at hz5; omega,?_,by rw [hll]; omega,by omega,by omega⟩;intro j u hj;have hpi:_ <+: d7 _ _ [Value.int .u64 k.c,Value.int .i64 k.v,Value.int .i64 k.d]:=af8 hsl hpre;rw [← a06 _ _ _ _ _ (by rw [k7 (by simp; omega)]; simp; omega)] at hpi;obtain ⟨t,ht⟩:=hpi;have:j<(flat (l.take s++k::l.drop s)).length:=(zaa.1 hj).1;simp only [zaw,zax];rw [← ht,zar this];exact hj
    · have hxm:x∈gs:=zad hx;have x1:x≠b:=fun q=>n2 (q▸hxm);have x2:x≠g:=fun q=>n3 (q▸hxm)
      have x3:x≠g':=fun q=>by
        subst q;have:=(zay (zaa.1 hx).1 n4).1 (hx.trans hg'.symm);exact hj this
      have x4:=h3.lt x (.inr (.inr hxm));rw [O3 x x1,O2 x x2,O1 x (hg2b x x4 x3),hsame x x4 x3]
    · rcases hor with q | q
      · exact .inl (q▸hg')
      · refine .inr ⟨hgb',hgg',fun hm=>?_⟩;have:=h3.lt g2 (.inr (.inr hm));omega
    · have kd:Keeps (fun x=>Ft b (some g) gs x∨w.heap.size≤x) w4 w4.drew:=⟨rfl,rfl,rfl,zaf _,fun _ _ _=>rfl⟩
      have k4:=hK4.mono (J:=fun x=>Ft b (some g) gs x∨w.heap.size≤x) fun x hx=>.inl (.inr (.inr (hx▸hgm)));have k5:=hK5.mono (J:=fun x=>Ft b (some g) gs x∨w.heap.size≤x) fun x hx=>hx▸hI2;have k6:=K1.mono (J:=fun x=>Ft b (some g) gs x∨w.heap.size≤x) fun x hx=>hx▸hI2;exact (((((((((z9.trans (hK2 _)).trans (hK3 _)).trans z9).trans k4).trans kd).trans k5).trans k6).trans K2).trans K3)
    · rcases hx with q | q | q
      · exact .inl (.inl q)
      · exact .inl (.inr (.inl q))
      · rcases zaz q with q | q
        · exact .inl (.inr (.inr q))
        · exact q▸hI2

open Go Go.RowKit
set_option maxHeartbeats 2000000 in
theorem split_w {w : World} {b g cap : Nat} {gs : List Nat} {ns : List (List Ky)} {n : Int} (hT : TL w b (some g) gs cap ns n) (i : Nat) (l : List Ky) (hl : ns[i]? = some l) (h33 : l.length = 33) (hm : ns.length + 1 ≤ 1000000) :
    Calls P0 113 #[.pointer (some ⟨b,0,none⟩),.int .i64 (i:Int)] w fun e w'=>(∃v,e=.returned v) ∧
    ∃og' gs' cap',TL w' b og' gs' cap' (ns.take i++l.take 16::l.drop 16::ns.drop (i+1)) n∧Keeps (Ft b (some g) gs) w w'∧∀x,Ft b og' gs' x→Ft b (some g) gs x∨w.heap.size≤x:=by
  have hat:i<ns.length:=(zaa.1 hl).1;obtain ⟨c0,c1,f0,f1,hlt⟩:=hT.root;obtain ⟨g',c,hg',hrow,d2,f4⟩:=hT.node hl;have i0:(0:Int)≤(i:Int):=by omega
  have i1:(i:Int)<(ns.length:Int):=by omega
  obtain ⟨iK,hiK,hzK,hsK,hbK⟩:=amm apa;obtain ⟨iR,hiR,hzR,hsR,hbR⟩:=amm a8x;obtain ⟨cs,e',hg3,hsz,hf,hlc,hc,hcm⟩:=hrow;have h16:(16:Int)≤(l.length:Int):=by omega
  have h16':¬c=16:=by omega
  have h16c:(16:Int)≤(c:Int):=by omega
  go_enter func113,Go.Proofs.Tryz.ntmps113
  go_wp2_with (at_builtin; refine au6 ?_)
  intro _;have hnd:=hT.nb;have hgm:g'∈gs:=zad hg';simp only [zbg,zav,zaq,zan,zac,not_or] at hnd;obtain ⟨⟨n1,n2⟩,n3,n4⟩:=hnd;have l1:=hT.lt g (.inr (.inl rfl));have l2:=hT.lt g' (.inr (.inr hgm));have m1:b≠g':=fun q=>n2 (q▸hgm);have m2:g≠g':=fun q=>n3 (q▸hgm)
  refine wpList_plain rfl fun K hK=>ba1 (.tmp 13) (.tmp 15) _ _ rfl Go.Proofs.Tryz.underlying176 Go.Proofs.Tryz.underlying176 hiK hzK (by rw [hsK]; rfl) hsK hbK rfl rfl (by omega) (flat (l.drop 16))
    (abo (by rw [sj l2]; exact hg3) (by rw [cp,zba,h33]) fun j u hj=>hf (16*3+j) u (by rw [au1 (by omega)]; exact hj)) (by rw [cp,zba,h33]) apg (by simp [maxLen]) (by omega) ?_
  intro capR csR w2 hR1 hR2 hR3 hR4 hR5 hK2;refine hK _ _ ?_;rw [amd] at hR3 ⊢
  have z2:w.heap.size+1+1≤w2.heap.size:=by
    have:=(zap.1 hR3).1;omega
  have k2:∀I,Keeps I w w2:=fun I=>z9.trans (hK2 I);have h2:=hT.keeps (k2 fun _=>False) (fun _ _ q=>q);obtain ⟨p0,p1,q0,q1,_⟩:=h2.root;obtain ⟨ho0,co,eo,hco1,hco2,hco4⟩:=h2.out g rfl
  go_wp2_with (at_builtin; refine au6 ?_)
  intro _
  refine wpList_plain rfl fun K hK=>wp_app (.tmp 21) (.tmp 22) _ _ rfl Go.Proofs.Tryz.underlying173 Go.Proofs.Tryz.underlying173 hiR hzR (by rw [hsR]; rfl) hsR hbR g ns.length cap rfl ho0 (by rw [sj (by omega)]; exact hco1) (by omega) hT.le rfl [.slice none 0 0]
    (abo (aar rfl) rfl fun j u hj=>by simpa using hj) rfl (by intro u hu; simp at hu; subst hu; rfl) (by simp only [maxLen]; omega) hT.mx (by omega) ?_
  intro G cap2 cs2 e2 w4 hor hc2 hlc2 hcm2 hg4 hsz2 hf2 hK4;refine hK _ _ ?_;have z4:(w2.alloc (.cells #[.slice none 0 0] 176)).heap.size=w2.heap.size+1:=amd;rw [z4] at hor;have hGb:¬G=b:=fun q=>by rcases hor with r | r; exact n1 (q▸r); omega
  have hbG:¬b=G:=fun q=>hGb q.symm
  have hs4:∀x,x<w2.heap.size→x≠g→w4.heap[x]?=w2.heap[x]?:=fun x h1 h2=>by
    rw [hK4.block x (by omega) h2,sj h1]
  obtain ⟨eb,heb⟩:=h2.hd;have B4:=(hs4 b (by omega) n1).trans heb;obtain ⟨vb,b0⟩:=uq (o:=0) B4 (by simp);have b1:=kn (o:=0) B4
  go_wp2_with fail
  have F5:=v7 (o:=0) (v:=.slice (some ⟨G,0,none⟩) (ns.length+1) cap2) B4;have O5:∀x,x≠b→(w4.setCell ⟨b,0,none⟩ (.slice (some ⟨G,0,none⟩) (ns.length+1) cap2)).heap[x]?=w4.heap[x]?:=fun x hx=>s8 B4 hx;have K5:=s9 (o:=0) (v:=.slice (some ⟨G,0,none⟩) (ns.length+1) cap2) (I:=(· = b)) B4 rfl;generalize w4.setCell ⟨b,0,none⟩ (.slice (some ⟨G,0,none⟩) (ns.length+1) cap2)=w5 at *;have G5:=(O5 G hGb).trans hg4;have c5:w5.cell? ⟨b,0,none⟩=some (.slice (some ⟨G,0,none⟩) (ns.length+1) cap2):=by simp [World.cell?,F5]
  have w1:IntKind.i64.wrap ((i:Int)+1)=(i:Int)+1:=a7 ⟨by omega,by omega⟩;have w2':IntKind.i64.wrap ((i:Int)+2)=(i:Int)+2:=a7 ⟨by omega,by omega⟩;have j1:(0:Int)≤(i:Int)+1:=by omega
  have j2:(i:Int)+1≤(ns.length:Int)+1:=by omega
  have j3:(0:Int)≤(i:Int)+2:=by omega
  have j4:(i:Int)+2≤(ns.length:Int)+1:=by omega
  have hcs1:∀u∈(cs2.toList.drop (i+1)).take ((ns.length-i-1)*1),u.oneCell'=true:=by
    intro u hu;obtain ⟨j,hj⟩:=zaj.1 hu;rw [zas] at hj;split at hj
    · rw [zbh,Array.getElem?_toList,hf2 _ (by omega)] at hj;rcases zab.1 (zad hj) with q | q
      · obtain ⟨z,hz⟩:=zaj.1 q;rw [zas] at hz;split at hz
        · rename_i hzl;obtain ⟨_,hy,_⟩:=hco4 z (gs[z]'(by rw [hT.len]; omega)) ns[z] (by simp) (by simp);rw [Array.getElem?_toList,hy] at hz;cases hz
          rfl
        · cases hz
      · simp at q; subst q; rfl
    · cases hj
  go_region_held3 (fun w'=>w'.cell? ⟨b,0,none⟩=some (.slice (some ⟨G,0,none⟩) (ns.length+1) cap2)) (first | assumption | exact (bg (hK6.block b (zap.1 F5).1 hbG) 0).trans c5)
    ((refine asg rfl (wp_cpy (.tmp 32) (.tmp 39) _ _ rfl Go.Proofs.Tryz.underlying173 hiR hsR G (i+2) (i+1) (ns.length-i-1) G5 rfl rfl (by simp only [Nat.min_def]; split<;>omega) (fun hm=>⟨if_neg (by omega),if_neg (by omega)⟩) (by omega) (by omega) hcs1 ?_); intro w6 hg6 hK6))
  generalize Value.slice (if cap2=((i:Int)+2).toNat then some ⟨G,0,none⟩ else some ⟨G,((i:Int)+2).toNat,none⟩) (ns.length+1-((i:Int)+2).toNat) (cap2-((i:Int)+2).toNat)=V32;have nc1:¬cap2=i+1:=by omega
  have hB6:w6.heap[b]?=w5.heap[b]?:=hK6.block b (zap.1 F5).1 hbG;have c6:w6.cell? ⟨b,0,none⟩=some (.slice (some ⟨G,0,none⟩) (ns.length+1) cap2):=(bg hB6 0).trans c5
  have hz6:(d7 cs2.toList (i+2) ((cs2.toList.drop (i+1)).take ((ns.length-i-1)*1))).toArray.size=cs2.size:=by
    rw [List.size_toArray,k7 (by simp; omega)]; simp
  obtain ⟨u0,d0⟩:=uq hg6 (o:=i) (by omega);obtain ⟨u1,d1⟩:=uq hg6 (o:=i+1) (by omega);have t0:=kn (o:=i) hg6;have t1:=kn (o:=i+1) hg6;have j5:(i:Int)<(ns.length:Int)+1:=by omega
  have j6:(i:Int)+1<(ns.length:Int)+1:=by omega
  go_wp2_with fail
  go_region_held3 (fun w'=>w'.cell? ⟨b,0,none⟩=some (.slice (some ⟨G,0,none⟩) (ns.length+1) cap2)) (go_keep) (fail)
  refine bodyPost_end (results_none rfl _ _ _) rfl ?_;have G7:=v7 (o:=i) (v:=.slice (some ⟨g',0,none⟩) 16 16) hg6;have G8:=v7 (o:=i+1) (v:=.slice (some ⟨w.heap.size+1,0,none⟩) 17 capR) G7
  have O8:∀x,x≠G→((w6.setCell ⟨G,i,none⟩ (.slice (some ⟨g',0,none⟩) 16 16)).setCell ⟨G,i+1,none⟩ (.slice (some ⟨w.heap.size+1,0,none⟩) 17 capR)).heap[x]?=w6.heap[x]?:=fun x hx=>by
    rw [s8 G7 hx,s8 hg6 hx]
  have K8:Keeps (· = G) w6 ((w6.setCell ⟨G,i,none⟩ (.slice (some ⟨g',0,none⟩) 16 16)).setCell ⟨G,i+1,none⟩ (.slice (some ⟨w.heap.size+1,0,none⟩) 17 capR)):=(s9 (I:=(· = G)) hg6 rfl).trans (s9 (I:=(· = G)) G7 rfl);generalize (w6.setCell ⟨G,i,none⟩ (.slice (some ⟨g',0,none⟩) 16 16)).setCell ⟨G,i+1,none⟩ (.slice (some ⟨w.heap.size+1,0,none⟩) 17 capR)=w8 at *;have hlen:(ns.take i++l.take 16::l.drop 16::ns.drop (i+1)).length=ns.length+1:=by simp; omega
  have hs8:∀x,x<w2.heap.size→x≠g→x≠b→w8.heap[x]?=w2.heap[x]?:=fun x h1 h2 h3=>by
    have hxG:x≠G:=fun q=>by rcases hor with r | r; exact h2 (q.trans r); omega
    have s4:=hK4.size;have s5:=K5.size;rw [O8 x hxG,hK6.block x (show x<w5.heap.size by omega) hxG,show w5.drew.heap=w5.heap from rfl,O5 x h3,hs4 x h1 h2]
  have hGf:G∉gs:=fun hm=>by
    rcases hor with r | r
    · exact n3 (r▸hm)
    · have:=h2.lt G (.inr (.inr hm)); omega
  have kd:Keeps (fun x=>Ft b (some g) gs x∨w.heap.size≤x) w8 w8.drew:=⟨rfl,rfl,rfl,zaf _,fun _ _ _=>rfl⟩
  have hI2:Ft b (some g) gs G∨w.heap.size≤G:=by
    rcases hor with q | q
    · exact .inl (.inr (.inl (by rw [q])))
    · exact .inr (by omega)
  refine ⟨⟨_,rfl⟩,some G,gs.take i++g'::(w.heap.size+1)::gs.drop (i+1),cap2,⟨⟨eb,?_⟩,by rw [hlen]; exact hlc2,hcm2,by simp,fun G' hG'=>?_,?_,?_⟩,?_,fun x hx=>?_⟩
  · show w8.heap[b]? = _;rw [O8 b hbG,hB6,F5,hlen]
    rfl
  · cases hG';refine ⟨hc2,_,_,G8,by simp at hz6 ⊢; omega,fun j x l'' hx hl''=>?_⟩;have hj:j<ns.length+1:=by rw [← hlen]; exact (zaa.1 hl'').1
    rw [bgl (by rw [hT.len]; exact hat)] at hx;rw [bgl hat] at hl'';simp only [zaw,zax,zbb,List.length_set];have hspl:(d7 cs2.toList (i+2) ((cs2.toList.drop (i+1)).take ((ns.length-i-1)*1))).length=cs2.size:=by simpa using hz6
    have hmid:∀z,z<ns.length→∀x l'',gs[z]?=some x→ns[z]?=some l''→x≠g'→∃c,cs2[z]?=some (.slice (some ⟨x,0,none⟩) l''.length c)∧xx w8.drew x l'' c:=fun z hz x l'' h1' h2' hx'=>by
      obtain ⟨c',q1,q2⟩:=hco4 z x l'' h1' h2';refine ⟨c',?_,q2.loc ?_⟩
      · rw [hf2 z (by omega),zar (by simp; have:=(zap.1 q1).1; omega),zas,if_pos (by omega)];simpa using q1
      · have hxm:x∈gs:=zad h1';exact hs8 x (h2.lt x (.inr (.inr hxm))) (fun q=>n3 (q▸hxm)) (fun q=>n2 (q▸hxm))
    have hne:∀z x,gs[z]?=some x→z≠i→x≠g':=fun z x hz hzi q=>by
      subst q;exact hzi ((zay (zaa.1 hz).1 n4).1 (hz.trans hg'.symm))
    have hsa:=z5 (l:=cs2.toList) (m:=(cs2.toList.drop (i+1)).take ((ns.length-i-1)*1)) (i:=i+2) (by simp; omega);have hsl:((cs2.toList.drop (i+1)).take ((ns.length-i-1)*1)).length=ns.length-i-1:=by simp; omega
    by_cases p1:j<i
    · rw [if_pos p1] at hx hl'';rw [if_neg (by omega),if_neg (by omega),hsa,if_neg (by omega)];simpa using hmid j (by omega) x l'' hx hl'' (hne j x hx (by omega))
    · rw [if_neg p1] at hx hl'';by_cases p2:j=i
      · rw [if_pos p2] at hx hl'';cases hx; cases hl'';subst p2;rw [if_neg (by omega),if_pos rfl,if_pos (by omega)];refine ⟨16,by simp [h33],⟨cs,e',?_,by omega,fun q u hu=>hf q u (au0 hu),by simp only [List.length_take]; omega,by omega,by simp [maxLen]⟩⟩;show w8.heap[g']? = _;rw [hs8 g' (by omega) m2.symm m1.symm,(k2 fun _=>False).block g' l2 (fun q=>q)];exact hg3
      · rw [if_neg p2] at hx hl'';by_cases p3:j=i+1
        · rw [if_pos p3] at hx hl'';cases hx; cases hl'';subst p3;rw [if_pos rfl,if_pos (by omega)];refine ⟨capR,by simp [h33],⟨csR,120,?_,hR4,fun q u hu=>?_,by simp [h33]; omega,by omega,hR2⟩⟩
          · show w8.heap[w.heap.size+1]? = _;rw [hs8 (w.heap.size+1) (by omega) (by omega) (by omega)];exact hR3
          · rw [hR5 q ?_]
            · exact hu
            · have:=(zaa.1 hu).1;rw [cp,zba,h33] at this;omega
        · rw [if_neg p3] at hx hl'';rw [if_neg (by omega),if_neg (by omega),hsa,if_pos (by omega),zas,if_pos (by omega),zbh,show i+1+(j-(i+2))=j-1 by omega];simpa using hmid (j-1) (by omega) x l'' hx hl'' (hne (j-1) x hx (by omega))
  · simp [hT.len]
  · have h9:=hT.lt;have hnb:w.heap.size+1∉gs:=fun hm=>by have:=hT.lt _ (.inr (.inr hm)); omega
    simp only [zbg,zav,zaq,zan,zac,not_or]
    have hsub:∀x,x∈gs.take i++g'::(w.heap.size+1)::gs.drop (i+1)→x∈gs∨x=w.heap.size+1:=fun x hx=>by
      rcases zab.1 hx with q | q
      · exact .inl (zbo q)
      · rcases zac.1 q with q | q
        · exact .inl (q▸hgm)
        · rcases zac.1 q with q | q
          · exact .inr q
          · exact .inl (zbp q)
    refine ⟨⟨hbG,fun hm=>?_⟩,fun hm=>?_,?_⟩
    · rcases hsub b hm with q | q
      · exact n2 q
      · omega
    · rcases hsub G hm with q | q
      · exact hGf q
      · rcases hor with r | r<;>omega
    · have hperm:(gs.take i++g'::(w.heap.size+1)::gs.drop (i+1)).Perm ((w.heap.size+1)::gs):=by
        have e1:gs=gs.take i++g'::gs.drop (i+1):=by
          have hi:i<gs.length:=by rw [hT.len]; exact hat
          have:gs[i]=g':=by rw [zbc hi] at hg'; exact Option.some.inj hg'
          rw [← this,List.getElem_cons_drop,zat]
        have e2:(gs.take i++g'::(w.heap.size+1)::gs.drop (i+1))=(gs.take i++[g'])++(w.heap.size+1)::gs.drop (i+1):=by simp
        rw [e2];refine List.perm_middle.trans ?_;refine List.Perm.cons _ ?_;rw [zbi];exact e1▸List.Perm.refl _
      exact hperm.nodup_iff.2 (zan.2 ⟨hnb,n4⟩)
  · have k4:=hK4.mono (J:=fun x=>Ft b (some g) gs x∨w.heap.size≤x) fun x hx=>.inl (.inr (.inl (by rw [hx])));have k5:=K5.mono (J:=fun x=>Ft b (some g) gs x∨w.heap.size≤x) fun x hx=>.inl (.inl hx);have kd5:Keeps (fun x=>Ft b (some g) gs x∨w.heap.size≤x) w5 w5.drew:=⟨rfl,rfl,rfl,zaf _,fun _ _ _=>rfl⟩
    have k6:=hK6.mono (J:=fun x=>Ft b (some g) gs x∨w.heap.size≤x) fun x hx=>hx▸hI2;have k8:=K8.mono (J:=fun x=>Ft b (some g) gs x∨w.heap.size≤x) fun x hx=>hx▸hI2;exact rm ((((((((k2 _).trans z9).trans k4).trans k5).trans kd5).trans k6).trans k8).trans kd)
  · rcases hx with q | q | q
    · exact .inl (.inl q)
    · cases q; exact hI2
    · rcases zab.1 q with q | q
      · exact .inl (.inr (.inr (zbo q)))
      · rcases zac.1 q with q | q
        · exact .inl (.inr (.inr (q▸hgm)))
        · rcases zac.1 q with q | q
          · exact .inr (by omega)
          · exact .inl (.inr (.inr (zbp q)))

open Go Go.RowKit
set_option maxHeartbeats 2000000 in
theorem put3_w {w : World} {b cap : Nat} {og : Option Nat} {gs : List Nat} {ns : List (List Ky)} {n : Int} (h : TL w b og gs cap ns n) (k : Ky) (r s : Nat) (l : List Ky) (hN : Nod ns k r) (hl : ns[r - 1]? = some l) (hP : Plc l k s) (hs : l[s]? ≠ some k) (hlen : l.length ≤ 32) (hlen2 : 32 ≤ l.length) (hm : ns.length + 1 ≤ 1000000) (hn0 : 0 ≤ n) (hn1 : n < 9223372036854775807) :
    Calls P0 64 #[.pointer (some ⟨b,0,none⟩),k.val] w fun e w'=>e=.returned (.bool true) ∧
    ∃og' gs' cap',TL w' b og' gs' cap' (ns.take (r-1)++(l.take s++k::l.drop s).take 16::(l.take s++k::l.drop s).drop 16::ns.drop (r-1+1)) (n+1)∧Keeps (Ft b og gs) w w'∧∀x,Ft b og' gs' x→Ft b og gs x∨w.heap.size≤x:=by
  obtain ⟨g,rfl⟩:=h.some_ hl;have hat:r-1<ns.length:=(zaa.1 hl).1;generalize hr:r-1=i at *;obtain ⟨c0,c1,f0,f1,hlt⟩:=h.root;have hne:((ns.length:Int) == 0)=false:=by rw [beq_eq_false_iff_ne]; omega
  have hk0:∀x,Keeps (fun _=>False) w (w.alloc x):=fun x=>z9;have i0:(0:Int)≤(i:Int):=by omega
  have i1:(i:Int)<(ns.length:Int):=by omega
  obtain ⟨iK,hiK,hzK,hsK,hbK⟩:=amm apa;simp only [Ky.val]
  go_enter func64,Go.Proofs.Tryz.ntmps64
  go_wp2_with fail
  have h1:=h.keeps (hk0 (.cells #[.int .u64 k.c,.int .i64 k.v,.int .i64 k.d] 120)) (fun _ _ q=>q);have b1:KB (w.alloc (.cells #[.int .u64 k.c,.int .i64 k.v,.int .i64 k.d] 120)) w.heap.size k:=aar rfl;refine (awj h1 k r hN).mono ?_;rintro e w2 ⟨rfl,hK2⟩;rw [hr];have h2:=h1.keeps (hK2 fun _=>False) (fun _ _ q=>q);have b2:=b1.keeps (hK2 fun _=>False) (fun q=>q);obtain ⟨d0,d1,f2,f3,_⟩:=h2.root;obtain ⟨g',c,hg',hrow,d2,f4⟩:=h2.node hl;obtain ⟨k0,k1,k2⟩:=b2.cells
  go_wp2_with fail
  refine (axf hrow k s hP).mono ?_;rintro e w3 ⟨rfl,hK3⟩;rw [decide_eq_false hs];have h3:=h2.keeps (hK3 fun _=>False) (fun _ _ q=>q);have b3:=b2.keeps (hK3 fun _=>False) (fun q=>q);have hrow3:xx w3 g' l c:=hrow.loc ((hK3 fun _=>False).block g' hrow.lt fun q=>q);clear d0 d1 f2 f3 d2 f4 k0 k1 k2;obtain ⟨k0,k1,k2⟩:=b3.cells
  go_wp2_with (at_builtin; refine au6 ?_)
  intro _;obtain ⟨cs,e',hg3,hsz,hf,hlc,hc,hcm⟩:=hrow3;have hl3:g'<w3.heap.size:=(zap.1 hg3).1
  refine wpList_plain rfl fun K hK=>wp_app (.tmp 41) (.tmp 43) _ _ rfl Go.Proofs.Tryz.underlying176 Go.Proofs.Tryz.underlying176 hiK hzK (by rw [hsK]; rfl) hsK hbK g' l.length c rfl hc (by rw [sj hl3]; exact hg3) hsz hlc rfl (kc k)
    (abo (aar rfl) rfl fun j u hj=>by simpa [kc] using hj) rfl (by simp [kc,Value.oneCell']) (by simp only [maxLen]; omega) hcm (by omega) ?_
  intro g2 cap2 cs2 e2 w4 hor hc2 hlc2 hcm2 hg4 hsz2 hf2 hK4;refine hK _ _ ?_;have hsl:s≤l.length:=hP.le;have w1:IntKind.i64.wrap ((s:Int)+1)=(s:Int)+1:=a7 ⟨by omega,by omega⟩;have j0:(0:Int)≤(s:Int):=by omega
  have j1:(s:Int)≤(l.length:Int)+1:=by omega
  have j2:(0:Int)≤(s:Int)+1:=by omega
  have j3:(s:Int)+1≤(l.length:Int)+1:=by omega
  go_wp2_with fail
  have hpre:(flat l++kc k) <+: cs2.toList:=by
    exact aze (cp l) hf (fun j hj=>hf2 j (by rw [show (kc k).length=3 from rfl] at hj; omega)) (by rw [show (kc k).length=3 from rfl]; omega)
  have hone:∀u∈(cs2.toList.drop (s*3)).take ((l.length-s)*3),u.oneCell'=true:=ay5 hpre (fun u hu=>by
    rcases zab.1 hu with hu | hu
    · exact apg u hu
    · simp [kc] at hu; rcases hu with rfl | rfl | rfl<;>rfl) (by rw [zau,cp,show (kc k).length=3 from rfl]; omega)
  go_region_held3 (fun _=>True) (trivial) ((refine asg rfl (wp_cpy (.tmp 48) (.tmp 51) _ _ rfl Go.Proofs.Tryz.underlying176 hiK hsK g2 ((s+1)*3) (s*3) (l.length-s) hg4 rfl rfl (by simp only [Nat.min_def]; split<;>omega) (fun hm=>⟨if_neg (by omega),if_neg (by omega)⟩) (by omega) (by omega) hone ?_); intro w5 hg5 hK5))
  have hnd:=h.nb;have hgm:g'∈gs:=zad hg';simp only [zbg,zav,zaq,zan,zac,not_or] at hnd;obtain ⟨⟨n1,n2⟩,n3,n4⟩:=hnd;have l1:=h.lt g (.inr (.inl rfl));have l2:=h.lt g' (.inr (.inr hgm))
  have z2:w.heap.size+1≤w3.heap.size:=by
    have a1:=(hK2 fun _=>False).size;have a2:=(hK3 fun _=>False).size;have a3:(w.alloc (.cells #[.int .u64 k.c,.int .i64 k.v,.int .i64 k.d] 120)).heap.size=w.heap.size+1:=amd;omega
  have z3:(w3.alloc (.cells #[.int .u64 k.c,.int .i64 k.v,.int .i64 k.d] 120)).heap.size=w3.heap.size+1:=amd;rw [z3] at hor;have hg2b:∀x,x<w3.heap.size→x≠g'→x≠g2:=fun x h1 h2 h3=>by rcases hor with q | q<;>omega
  have hsame:∀x,x<w3.heap.size→x≠g'→w5.heap[x]?=w3.heap[x]?:=fun x h1 h2=>by
    rw [hK5.block x (Nat.lt_of_lt_of_le (by rw [z3]; omega) hK4.size) (hg2b x h1 h2),show w4.drew.heap=w4.heap from rfl,hK4.block x (by rw [z3]; omega) h2,sj h1]
  have m1:b≠g':=fun q=>n2 (q▸hgm);have m2:g≠g':=fun q=>n3 (q▸hgm);have hgb:¬b=g2:=hg2b b (by omega) m1;have hgg:¬g=g2:=hg2b g (by omega) m2;have hgh:¬w.heap.size=g2:=hg2b _ (by omega) (by omega);have hgb':¬g2=b:=fun q=>hgb q.symm;have hgg':¬g2=g:=fun q=>hgg q.symm;have hgh':¬g2=w.heap.size:=fun q=>hgh q.symm;have hbg:¬b=g:=n1;have hbg':¬g=b:=fun q=>n1 q.symm;obtain ⟨p0,p1,q0,q1,_⟩:=h3.root;obtain ⟨_,_,_,_,p2,q2⟩:=h3.node hl;have e0:=(bg (hsame b (by omega) m1) 0).trans p0;have e1:=(bg (hsame b (by omega) m1) 1).trans p1;have r0:=(qc (hsame b (by omega) m1) 0).trans q0;have r1:=(qc (hsame b (by omega) m1) 1).trans q1;have e3:=(bg (hsame g (by omega) m2) i).trans p2
  have r2:=(qc (hsame g (by omega) m2) i).trans q2;have e4:=(bg (hsame w.heap.size (by omega) (by omega)) 0).trans k0;have e5:=(bg (hsame w.heap.size (by omega) (by omega)) 1).trans k1;have e6:=(bg (hsame w.heap.size (by omega) (by omega)) 2).trans k2
  have hz5:(d7 cs2.toList ((s+1)*3) ((cs2.toList.drop (s*3)).take ((l.length-s)*3))).toArray.size=cs2.size:=by
    rw [List.size_toArray,k7 (by simp; omega)]; simp
  obtain ⟨v0,e7⟩:=uq hg5 (o:=s*3) (by omega);obtain ⟨v1,e8⟩:=uq hg5 (o:=s*3+1) (by omega);obtain ⟨v2,e9⟩:=uq hg5 (o:=s*3+2) (by omega);have r3:=kn (o:=s*3) hg5;have r4:=kn (o:=s*3+1) hg5;have r5:=kn (o:=s*3+2) hg5;have wn:IntKind.i64.wrap (n+1)=n+1:=a7 ⟨by omega,by omega⟩;have j4:(s:Int)<(l.length:Int)+1:=by omega
  have j5:(32:Int)<(l.length:Int)+1:=by omega
  clear k0 k1 k2 p0 p1 q0 q1 p2 q2
  go_wp2_with fail
  · obtain ⟨ho0,ho⟩:=h3.out g rfl;obtain ⟨co,eo,hco1,hco2,hco4⟩:=ho;obtain ⟨eb,heb⟩:=h3.hd;have G0:=(hsame g (by omega) m2).trans hco1;have B0:=(hsame b (by omega) m1).trans heb;have G1:=v7 (o:=s*3) (v:=.int .u64 k.c) hg5;have G2:=v7 (o:=s*3+1) (v:=.int .i64 k.v) G1;have G3:=v7 (o:=s*3+2) (v:=.int .i64 k.d) G2
    have O1:∀x,x≠g2→(((w5.setCell ⟨g2,s*3,none⟩ (.int .u64 k.c)).setCell ⟨g2,s*3+1,none⟩ (.int .i64 k.v)).setCell ⟨g2,s*3+2,none⟩ (.int .i64 k.d)).heap[x]?=w5.heap[x]?:=fun x hx=>by
      rw [s8 G2 hx,s8 G1 hx,s8 hg5 hx]
    have K1:Keeps (· = g2) w5 (((w5.setCell ⟨g2,s*3,none⟩ (.int .u64 k.c)).setCell ⟨g2,s*3+1,none⟩ (.int .i64 k.v)).setCell ⟨g2,s*3+2,none⟩ (.int .i64 k.d)):=((s9 (I:=(· = g2)) hg5 rfl).trans (s9 (I:=(· = g2)) G1 rfl)).trans (s9 (I:=(· = g2)) G2 rfl);generalize ((w5.setCell ⟨g2,s*3,none⟩ (.int .u64 k.c)).setCell ⟨g2,s*3+1,none⟩ (.int .i64 k.v)).setCell ⟨g2,s*3+2,none⟩ (.int .i64 k.d)=w6 at *;have C0:=(O1 g hgg).trans G0;have C1:=(O1 b hgb).trans B0;have hll:(l.take s++k::l.drop s).length=l.length+1:=by simp; omega
    have F1:=v7 (o:=i) (v:=.slice (some ⟨g2,0,none⟩) (l.length+1) (s+1)) C0;have O2:∀x,x≠g→(w6.setCell ⟨g,i,none⟩ (.slice (some ⟨g2,0,none⟩) (l.length+1) (s+1))).heap[x]?=w6.heap[x]?:=fun x hx=>s8 C0 hx;have K2:=s9 (o:=i) (v:=.slice (some ⟨g2,0,none⟩) (l.length+1) (s+1)) (I:=fun x=>Ft b (some g) gs x∨w.heap.size≤x) C0 (.inl (.inr (.inl rfl)));generalize w6.setCell ⟨g,i,none⟩ (.slice (some ⟨g2,0,none⟩) (l.length+1) (s+1))=w7 at *;have D1:=(O2 b hbg).trans C1;have F2:=v7 (o:=1) (v:=.int .i64 (n+1)) D1;have O3:∀x,x≠b→(w7.setCell ⟨b,1,none⟩ (.int .i64 (n+1))).heap[x]?=w7.heap[x]?:=fun x hx=>s8 D1 hx
    have K3:=s9 (o:=1) (v:=.int .i64 (n+1)) (I:=fun x=>Ft b (some g) gs x∨w.heap.size≤x) D1 (.inl (.inl rfl));generalize w7.setCell ⟨b,1,none⟩ (.int .i64 (n+1))=w8 at *
    have hI2:Ft b (some g) gs g2∨w.heap.size≤g2:=by
      rcases hor with q | q
      · exact .inl (.inr (.inr (q▸hgm)))
      · exact .inr (by omega)
    have hfin:∃gs',TL w8 b (some g) gs' cap (ns.set i (l.take s++k::l.drop s)) (n+1)∧Keeps (Ft b (some g) gs) w w8∧∀x,Ft b (some g) gs' x→Ft b (some g) gs x∨w.heap.size≤x:=by
     refine ⟨gs.set i g2,h3.put hat ⟨eb,F2⟩ ⟨co,eo,hco1,?_⟩ (c2:=(s+1)) ?_ (fun j x hj hx=>?_) ?_,rm ?_,fun x hx=>?_⟩
     · rw [O3 g hbg',F1,hll]
     · refine ⟨_,e2,by rw [O3 g2 hgb',O2 g2 hgg']; exact G3,by simp; simp at hz5; omega,?_,by rw [hll]; omega,by omega,by omega⟩;intro j u hj;have hpi:_ <+: d7 _ _ [Value.int .u64 k.c,Value.int .i64 k.v,Value.int .i64 k.d]:=af8 hsl hpre;rw [← a06 _ _ _ _ _ (by rw [k7 (by simp; omega)]; simp; omega)] at hpi;obtain ⟨t,ht⟩:=hpi;have:j<(flat (l.take s++k::l.drop s)).length:=(zaa.1 hj).1;simp only [zaw,zax];rw [← ht,zar this];exact hj
     · have hxm:x∈gs:=zad hx;have x1:x≠b:=fun q=>n2 (q▸hxm);have x2:x≠g:=fun q=>n3 (q▸hxm)
       have x3:x≠g':=fun q=>by
         subst q;have:=(zay (zaa.1 hx).1 n4).1 (hx.trans hg'.symm);exact hj this
       have x4:=h3.lt x (.inr (.inr hxm));rw [O3 x x1,O2 x x2,O1 x (hg2b x x4 x3),hsame x x4 x3]
     · rcases hor with q | q
       · exact .inl (q▸hg')
       · refine .inr ⟨hgb',hgg',fun hm=>?_⟩;have:=h3.lt g2 (.inr (.inr hm));omega
     · have kd:Keeps (fun x=>Ft b (some g) gs x∨w.heap.size≤x) w4 w4.drew:=⟨rfl,rfl,rfl,zaf _,fun _ _ _=>rfl⟩
       have k4:=hK4.mono (J:=fun x=>Ft b (some g) gs x∨w.heap.size≤x) fun x hx=>.inl (.inr (.inr (hx▸hgm)));have k5:=hK5.mono (J:=fun x=>Ft b (some g) gs x∨w.heap.size≤x) fun x hx=>hx▸hI2;have k6:=K1.mono (J:=fun x=>Ft b (some g) gs x∨w.heap.size≤x) fun x hx=>hx▸hI2;exact (((((((((z9.trans (hK2 _)).trans (hK3 _)).trans z9).trans k4).trans kd).trans k5).trans k6).trans K2).trans K3)
     · rcases hx with q | q | q
       · exact .inl (.inl q)
       · exact .inl (.inr (.inl q))
       · rcases zaz q with q | q
         · exact .inl (.inr (.inr q))
         · exact q▸hI2
    obtain ⟨gs2,T8,K8',F8⟩:=hfin;have hl8:(ns.set i (l.take s++k::l.drop s))[i]?=some (l.take s++k::l.drop s):=by simp [hat]
    refine (split_w T8 i _ hl8 (by rw [hll]; omega) (by simpa using hm)).mono ?_;rintro e w9 ⟨⟨v,rfl⟩,og',gs',cap',T9,K9,F9⟩
    go_wp2_with fail
    go_ret
    refine ⟨rfl,og',gs',cap',?_,?_,fun x hx=>?_⟩
    · have ta:(ns.set i (l.take s++k::l.drop s)).take i=ns.take i:=by rw [List.take_set_of_le (zaf _)]
      have da:(ns.set i (l.take s++k::l.drop s)).drop (i+1)=ns.drop (i+1):=by rw [List.drop_set_of_lt (by omega)]
      rw [ta,da] at T9;exact T9
    · refine rm ((K8'.mono fun x hx=>.inl hx).trans (K9.mono fun x hx=>F8 x hx))
    · rcases F9 x hx with q | q
      · exact F8 x q
      · have:=K8'.size; exact .inr (by omega)
  · obtain ⟨ho0,ho⟩:=h3.out g rfl;obtain ⟨co,eo,hco1,hco2,hco4⟩:=ho;obtain ⟨eb,heb⟩:=h3.hd;have G0:=(hsame g (by omega) m2).trans hco1;have B0:=(hsame b (by omega) m1).trans heb;have G1:=v7 (o:=s*3) (v:=.int .u64 k.c) hg5;have G2:=v7 (o:=s*3+1) (v:=.int .i64 k.v) G1;have G3:=v7 (o:=s*3+2) (v:=.int .i64 k.d) G2
    have O1:∀x,x≠g2→(((w5.setCell ⟨g2,s*3,none⟩ (.int .u64 k.c)).setCell ⟨g2,s*3+1,none⟩ (.int .i64 k.v)).setCell ⟨g2,s*3+2,none⟩ (.int .i64 k.d)).heap[x]?=w5.heap[x]?:=fun x hx=>by
      rw [s8 G2 hx,s8 G1 hx,s8 hg5 hx]
    have K1:Keeps (· = g2) w5 (((w5.setCell ⟨g2,s*3,none⟩ (.int .u64 k.c)).setCell ⟨g2,s*3+1,none⟩ (.int .i64 k.v)).setCell ⟨g2,s*3+2,none⟩ (.int .i64 k.d)):=((s9 (I:=(· = g2)) hg5 rfl).trans (s9 (I:=(· = g2)) G1 rfl)).trans (s9 (I:=(· = g2)) G2 rfl);generalize ((w5.setCell ⟨g2,s*3,none⟩ (.int .u64 k.c)).setCell ⟨g2,s*3+1,none⟩ (.int .i64 k.v)).setCell ⟨g2,s*3+2,none⟩ (.int .i64 k.d)=w6 at *;have C0:=(O1 g hgg).trans G0;have C1:=(O1 b hgb).trans B0;have hll:(l.take s++k::l.drop s).length=l.length+1:=by simp; omega
    have F1:=v7 (o:=i) (v:=.slice (some ⟨g2,0,none⟩) (l.length+1) cap2) C0;have O2:∀x,x≠g→(w6.setCell ⟨g,i,none⟩ (.slice (some ⟨g2,0,none⟩) (l.length+1) cap2)).heap[x]?=w6.heap[x]?:=fun x hx=>s8 C0 hx;have K2:=s9 (o:=i) (v:=.slice (some ⟨g2,0,none⟩) (l.length+1) cap2) (I:=fun x=>Ft b (some g) gs x∨w.heap.size≤x) C0 (.inl (.inr (.inl rfl)));generalize w6.setCell ⟨g,i,none⟩ (.slice (some ⟨g2,0,none⟩) (l.length+1) cap2)=w7 at *;have D1:=(O2 b hbg).trans C1;have F2:=v7 (o:=1) (v:=.int .i64 (n+1)) D1;have O3:∀x,x≠b→(w7.setCell ⟨b,1,none⟩ (.int .i64 (n+1))).heap[x]?=w7.heap[x]?:=fun x hx=>s8 D1 hx
    have K3:=s9 (o:=1) (v:=.int .i64 (n+1)) (I:=fun x=>Ft b (some g) gs x∨w.heap.size≤x) D1 (.inl (.inl rfl));generalize w7.setCell ⟨b,1,none⟩ (.int .i64 (n+1))=w8 at *
    have hI2:Ft b (some g) gs g2∨w.heap.size≤g2:=by
      rcases hor with q | q
      · exact .inl (.inr (.inr (q▸hgm)))
      · exact .inr (by omega)
    have hfin:∃gs',TL w8 b (some g) gs' cap (ns.set i (l.take s++k::l.drop s)) (n+1)∧Keeps (Ft b (some g) gs) w w8∧∀x,Ft b (some g) gs' x→Ft b (some g) gs x∨w.heap.size≤x:=by
     refine ⟨gs.set i g2,h3.put hat ⟨eb,F2⟩ ⟨co,eo,hco1,?_⟩ (c2:=cap2) ?_ (fun j x hj hx=>?_) ?_,rm ?_,fun x hx=>?_⟩
     · rw [O3 g hbg',F1,hll]
     · refine ⟨_,e2,by rw [O3 g2 hgb',O2 g2 hgg']; exact G3,by simp; simp at hz5; omega,?_,by rw [hll]; omega,by omega,by omega⟩;intro j u hj;have hpi:_ <+: d7 _ _ [Value.int .u64 k.c,Value.int .i64 k.v,Value.int .i64 k.d]:=af8 hsl hpre;rw [← a06 _ _ _ _ _ (by rw [k7 (by simp; omega)]; simp; omega)] at hpi;obtain ⟨t,ht⟩:=hpi;have:j<(flat (l.take s++k::l.drop s)).length:=(zaa.1 hj).1;simp only [zaw,zax];rw [← ht,zar this];exact hj
     · have hxm:x∈gs:=zad hx;have x1:x≠b:=fun q=>n2 (q▸hxm);have x2:x≠g:=fun q=>n3 (q▸hxm)
       have x3:x≠g':=fun q=>by
         subst q;have:=(zay (zaa.1 hx).1 n4).1 (hx.trans hg'.symm);exact hj this
       have x4:=h3.lt x (.inr (.inr hxm));rw [O3 x x1,O2 x x2,O1 x (hg2b x x4 x3),hsame x x4 x3]
     · rcases hor with q | q
       · exact .inl (q▸hg')
       · refine .inr ⟨hgb',hgg',fun hm=>?_⟩;have:=h3.lt g2 (.inr (.inr hm));omega
     · have kd:Keeps (fun x=>Ft b (some g) gs x∨w.heap.size≤x) w4 w4.drew:=⟨rfl,rfl,rfl,zaf _,fun _ _ _=>rfl⟩
       have k4:=hK4.mono (J:=fun x=>Ft b (some g) gs x∨w.heap.size≤x) fun x hx=>.inl (.inr (.inr (hx▸hgm)));have k5:=hK5.mono (J:=fun x=>Ft b (some g) gs x∨w.heap.size≤x) fun x hx=>hx▸hI2;have k6:=K1.mono (J:=fun x=>Ft b (some g) gs x∨w.heap.size≤x) fun x hx=>hx▸hI2;exact (((((((((z9.trans (hK2 _)).trans (hK3 _)).trans z9).trans k4).trans kd).trans k5).trans k6).trans K2).trans K3)
     · rcases hx with q | q | q
       · exact .inl (.inl q)
       · exact .inl (.inr (.inl q))
       · rcases zaz q with q | q
         · exact .inl (.inr (.inr q))
         · exact q▸hI2
    obtain ⟨gs2,T8,K8',F8⟩:=hfin;have hl8:(ns.set i (l.take s++k::l.drop s))[i]?=some (l.take s++k::l.drop s):=by simp [hat]
    refine (split_w T8 i _ hl8 (by rw [hll]; omega) (by simpa using hm)).mono ?_;rintro e w9 ⟨⟨v,rfl⟩,og',gs',cap',T9,K9,F9⟩
    go_wp2_with fail
    go_ret
    refine ⟨rfl,og',gs',cap',?_,?_,fun x hx=>?_⟩
    · have ta:(ns.set i (l.take s++k::l.drop s)).take i=ns.take i:=by rw [List.take_set_of_le (zaf _)]
      have da:(ns.set i (l.take s++k::l.drop s)).drop (i+1)=ns.drop (i+1):=by rw [List.drop_set_of_lt (by omega)]
      rw [ta,da] at T9;exact T9
    · refine rm ((K8'.mono fun x hx=>.inl hx).trans (K9.mono fun x hx=>F8 x hx))
    · rcases F9 x hx with q | q
      · exact F8 x q
      · have:=K8'.size; exact .inr (by omega)

open Go Go.RowKit

open Go Go.RowKit

open Go Go.RowKit

open Go
theorem ak8 (a:Ky):kl a a=false:=by simp [kl]
theorem aiv {a b c:Ky} (h1:kl a b=true) (h2:kl b c=true):kl a c=true:=by
 unfold kl at *;split at h1<;>split at h2<;>split<;>(try split at h1)<;>(try split at h2)<;>(try split)<;>simp at * <;> omega
theorem bgh {a b:Ky} (h1:kl a b=false) (h2:kl b a=false):a=b:=by
 rcases a with ⟨a1,a2,a3⟩
 rcases b with ⟨b1,b2,b3⟩
 unfold kl at *;simp only [Ky.mk.injEq];split at h1<;>split at h2<;>(try split at h1)<;>(try split at h2)<;>simp at * <;> omega
theorem baq {a b:Ky} (h1:kl b a=false):a=b∨kl a b=true:=by
 cases h:kl a b
 ·exact .inl (bgh h h1)
 ·exact .inr rfl
abbrev Srt (l:List Ky):Prop:=l.Pairwise fun a b=>kl a b=true
structure Good (ns:List (List Ky)):Prop where
 ne:∀l∈ns,l≠[]∧l.length≤32
 so:Srt ns.flatten
def nk (k:Ky):List Ky→Bool
 | q::_=>kl k q
 | []=>true
def m9 (ns:List (List Ky)) (k:Ky):Nat:=ns.findIdx (nk k)
def plc (l:List Ky) (k:Ky):Nat:=l.findIdx fun q=>!kl q k
theorem a3q {l:List Ky} (h:Srt l) {i j:Nat} {a b:Ky} (hij:i<j) (ha:l[i]?=some a) (hb:l[j]?=some b):kl a b=true:=by
 obtain ⟨hi,rfl⟩:=zaa.1 ha;obtain ⟨hj,rfl⟩:=zaa.1 hb;exact zbj.1 h i j hi hj hij
theorem bfn {l:List Ky} (h:Srt l) (k:Ky):Plc l k (plc l k):=by
 refine ⟨List.findIdx_le_length,fun i q hi hq=>?_,fun i q hi hq=>?_⟩
 ·obtain ⟨hl,rfl⟩:=zaa.1 hq;have:=List.not_of_lt_findIdx hi;simpa using this
 ·obtain ⟨hl,rfl⟩:=zaa.1 hq;have hs:plc l k<l.length:=by omega
  have h0:kl l[plc l k] k=false:=by
   have:=List.findIdx_getElem (w:=hs);simp only [Bool.not_eq_true'] at this;exact this
  by_cases he:plc l k=i
  ·subst he; exact h0
  ·have h1:=a3q h (show plc l k<i by omega) (zbc hs) (zbc hl);cases h2:kl l[i] k
   ·rfl
   ·rw [aiv h1 h2] at h0; cases h0
theorem Good.node {ns:List (List Ky)} (h:Good ns) {i:Nat} {l:List Ky} (hl:ns[i]?=some l):Srt l:=(List.pairwise_flatten.1 h.so).1 l (zad hl)
theorem Good.apart {ns:List (List Ky)} (h:Good ns) {i j:Nat} {l m:List Ky} (hij:i<j) (hl:ns[i]?=some l) (hm:ns[j]?=some m):∀x∈l,∀y∈m,kl x y=true:=by
 obtain ⟨hi,rfl⟩:=zaa.1 hl;obtain ⟨hj,rfl⟩:=zaa.1 hm;exact zbj.1 (List.pairwise_flatten.1 h.so).2 i j hi hj hij
theorem Good.len {ns:List (List Ky)} (h:∀l∈ns,l≠[]):ns.length≤ns.flatten.length:=by
 induction ns with
 | nil=>simp
 | cons l ns ih=>
  have h1:l≠[]:=h l (by simp);have h2:=ih fun l hl=>h l (by simp [hl]);have h3:0<l.length:=zbq.2 h1;simp only [zak,zbd,zau];omega
theorem ak1 {ns:List (List Ky)} (h:Good ns) (hn:ns.flatten.length≤1000000) (k:Ky):Nod ns k (m9 ns k):=by
 refine ⟨List.findIdx_le_length,?_,fun i l hl=>?_,fun i q x hi hq=>?_,fun i q x hi hq=>?_⟩
 ·have:=Good.len fun l hl=>(h.ne l hl).1;simp only [maxLen];omega
 ·have:=h.ne l (zad hl);exact ⟨this.1,by simp only [maxLen]; omega⟩
 ·obtain ⟨hl,hx⟩:=zaa.1 hq;have:=List.not_of_lt_findIdx hi;rw [hx] at this;simpa [nk] using this
 ·obtain ⟨hl,hx⟩:=zaa.1 hq;have hs:m9 ns k<ns.length:=by omega
  have h0:nk k ns[m9 ns k]=true:=List.findIdx_getElem (w:=hs);by_cases he:m9 ns k=i
  ·have:ns[m9 ns k]=q::x:=by subst he; exact hx
   rw [this] at h0;exact h0
  ·rcases hq0:ns[m9 ns k] with _ | ⟨q0,x0⟩
   ·exact absurd hq0 (h.ne _ (List.getElem_mem hs)).1
   ·rw [hq0] at h0;have h1:=h.apart (show m9 ns k<i by omega) ((zbc hs).trans (by rw [hq0])) hq q0 (by simp) q (by simp);exact aiv h0 h1
def ji (ns:List (List Ky)) (k:Ky):List (List Ky)×Bool:=
 if ns=[] then ([[k]],true) else
  if (ns.getD (m9 ns k-1) [])[plc (ns.getD (m9 ns k-1) []) k]?=some k then (ns,false) else
   if (ns.getD (m9 ns k-1) []).length<32 then
    (ns.set (m9 ns k-1) ((ns.getD (m9 ns k-1) []).take (plc (ns.getD (m9 ns k-1) []) k)++k::(ns.getD (m9 ns k-1) []).drop (plc (ns.getD (m9 ns k-1) []) k)),true)
   else
    (ns.take (m9 ns k-1)++((ns.getD (m9 ns k-1) []).take (plc (ns.getD (m9 ns k-1) []) k)++k::(ns.getD (m9 ns k-1) []).drop (plc (ns.getD (m9 ns k-1) []) k)).take 16 ::
     ((ns.getD (m9 ns k-1) []).take (plc (ns.getD (m9 ns k-1) []) k)++k::(ns.getD (m9 ns k-1) []).drop (plc (ns.getD (m9 ns k-1) []) k)).drop 16::ns.drop (m9 ns k-1+1),true)
structure Spt (ns:List (List Ky)) (k:Ky) (i s:Nat) (l:List Ky):Prop where
 nx:m9 ns k-1=i
 nd:Nod ns k (m9 ns k)
 at_:ns[i]?=some l
 gd:ns.getD i []=l
 px:plc l k=s
 pl:Plc l k s
 ahead:∀x∈(ns.take i).flatten,kl x k=true
 behind:∀x∈(ns.drop (i+1)).flatten,kl k x=true
 all:ns.flatten=(ns.take i).flatten++(l++(ns.drop (i+1)).flatten)
 ne:l≠[]
 le:l.length≤32
theorem spt {ns:List (List Ky)} (h:Good ns) (hn:ns.flatten.length≤1000000) (k:Ky) (h0:ns≠[]):∃i s l,Spt ns k i s l:=by
 have hN:=ak1 h hn k;have hpos:0<ns.length:=zbq.2 h0;have hi:m9 ns k-1<ns.length:=by have:=hN.le; omega
 have hl:ns[m9 ns k-1]?=some ns[m9 ns k-1]:=zbc hi;obtain ⟨l,hll⟩:∃l,ns[m9 ns k-1]=l:=⟨_,rfl⟩
 rw [hll] at hl;have hne:=h.ne l (zad hl);refine ⟨m9 ns k-1,plc l k,l,rfl,hN,hl,by simp [List.getD,hl],rfl,bfn (h.node hl) k,fun x hx=>?_,fun x hx=>?_,?_,hne.1,hne.2⟩
 ·obtain ⟨m,hm,hxm⟩:=List.mem_flatten.1 hx;obtain ⟨j,hj⟩:=zaj.1 hm;rw [zas] at hj;split at hj
  ·rename_i hji;obtain ⟨q,t,rfl⟩:=zbr hne.1;have h1:=h.apart hji hj hl x hxm q (by simp);have h2:=hN.lo (m9 ns k-1) q t (by omega) hl;rcases baq h2 with rfl | h3
   ·exact h1
   ·exact aiv h1 h3
  ·cases hj
 ·obtain ⟨m,hm,hxm⟩:=List.mem_flatten.1 hx;obtain ⟨j,hj⟩:=zaj.1 hm;rw [zbh] at hj;have hnm:=(h.ne m (zad hj)).1;obtain ⟨q,t,rfl⟩:=zbr hnm;have h1:=hN.hi _ q t (by omega) hj;rcases zac.1 hxm with rfl | hxt
  ·exact h1
  ·have h2:=h.node hj;exact aiv h1 (List.rel_of_pairwise_cons h2 hxt)
 ·have e1:ns=ns.take (m9 ns k-1)++l::ns.drop (m9 ns k-1+1):=by
   rw [← hll,List.getElem_cons_drop,zat]
  conv=>lhs; rw [e1]
  simp
theorem ayi {ns:List (List Ky)} {i:Nat} (hi:i<ns.length) (m:List Ky):(ns.set i m).flatten=(ns.take i).flatten++(m++(ns.drop (i+1)).flatten):=by
 rw [List.set_eq_take_append_cons_drop,if_pos hi];simp

section
variable {ns:List (List Ky)} {k:Ky} {i s:Nat} {l:List Ky}
theorem Spt.mem (h:Good ns) (hs:Spt ns k i s l):l[s]?=some k↔k∈ns.flatten:=by
 constructor
 ·intro he;rw [hs.all];exact zab.2 (.inr (zab.2 (.inl (zad he))))
 ·intro hm;rw [hs.all] at hm;rcases zab.1 hm with q | q
  ·have:=hs.ahead k q; rw [ak8] at this; cases this
  ·rcases zab.1 q with q | q
   ·obtain ⟨j,hj⟩:=zaj.1 q;rcases Nat.lt_trichotomy j s with h1 | h1 | h1
    ·have:=hs.pl.lo j k h1 hj; rw [ak8] at this; cases this
    ·exact h1▸hj
    ·have hjl:=(zaa.1 hj).1;have hsl:l[s]?=some (l[s]'(by omega)):=by simp [show s<l.length by omega]
     have h2:=a3q (h.node hs.at_) h1 hsl hj;rw [hs.pl.hi s _ (zaf _) hsl] at h2;cases h2
   ·have:=hs.behind k q; rw [ak8] at this; cases this
theorem Spt.lt (hs:Spt ns k i s l):i<ns.length:=(zaa.1 hs.at_).1
theorem Spt.lo_ (hs:Spt ns k i s l):∀x∈l.take s,kl x k=true:=fun x hx=>by
 obtain ⟨j,hj⟩:=zaj.1 hx;rw [zas] at hj;split at hj
 ·rename_i h1; exact hs.pl.lo j x h1 hj
 ·cases hj
theorem Spt.hi_ (h:Good ns) (hs:Spt ns k i s l) (hk:l[s]?≠some k):∀x∈l.drop s,kl k x=true:=fun x hx=>by
 obtain ⟨j,hj⟩:=zaj.1 hx;rw [zbh] at hj;have h1:=hs.pl.hi (s+j) x (by omega) hj;rcases baq h1 with rfl | h2
 ·exact absurd ((hs.mem h).2 (by rw [hs.all]; exact zab.2 (.inr (zab.2 (.inl (zad hj)))))) hk
 ·exact h2
theorem Spt.ins (h:Good ns) (hs:Spt ns k i s l) (hk:l[s]?≠some k):Srt ((ns.take i).flatten++((l.take s++k::l.drop s)++(ns.drop (i+1)).flatten)):=by
 have hso:=h.so;rw [hs.all] at hso;have e:∀(X Z:List Ky),X++(l.take s++k::l.drop s++Z)=(X++l.take s)++k::(l.drop s++Z):=fun X Z=>by simp
 have e2:∀(X Z:List Ky),X++(l++Z)=(X++l.take s)++(l.drop s++Z):=fun X Z=>by
  rw [zbi,← zbi (l.take s),zat]
 rw [e];rw [e2] at hso;rw [Srt,List.pairwise_append] at hso ⊢;obtain ⟨h1,h2,h3⟩:=hso;have lo:∀x∈(ns.take i).flatten++l.take s,kl x k=true:=fun x hx=>(zab.1 hx).elim (hs.ahead x) (hs.lo_ x);have hi:∀x∈l.drop s++(ns.drop (i+1)).flatten,kl k x=true:=fun x hx=>(zab.1 hx).elim (hs.hi_ h hk x) (hs.behind x);refine ⟨h1,List.pairwise_cons.2 ⟨hi,h2⟩,fun a ha b hb=>?_⟩;rcases zac.1 hb with rfl | hb
 ·exact lo a ha
 ·exact h3 a ha b hb
end
structure PutL (ns ns':List (List Ky)) (k:Ky) (f:Bool):Prop where
 good:Good ns'
 flag:f=!decide (k∈ns.flatten)
 mem:∀x,x∈ns'.flatten↔x=k∨x∈ns.flatten
 len:ns'.flatten.length=ns.flatten.length+f.toNat
theorem ay9 {ns:List (List Ky)} (h:Good ns) (hn:ns.flatten.length≤1000000) (k:Ky):PutL ns (ji ns k).1 k (ji ns k).2:=by
 by_cases h0:ns=[]
 ·subst h0;refine ⟨⟨by simp [ji],by simp [ji,Srt]⟩,by simp [ji],by simp [ji],by simp [ji]⟩
 ·obtain ⟨i,s,l,hs⟩:=spt h hn k h0;have hm:=hs.mem h;unfold ji;rw [if_neg h0,hs.nx,hs.gd,hs.px];by_cases hk:l[s]?=some k
  ·rw [if_pos hk];refine ⟨h,by simp [hm.1 hk],fun x=>⟨.inr,?_⟩,by simp⟩;rintro (rfl | hx)
   ·exact hm.1 hk
   ·exact hx
  ·rw [if_neg hk];have hk':k∉ns.flatten:=fun q=>hk (hm.2 q);have hso:=hs.ins h hk
   have key:∀N:List (List Ky),(∀m∈N,m≠[]∧m.length≤32)→N.flatten=(ns.take i).flatten++((l.take s++k::l.drop s)++(ns.drop (i+1)).flatten)→PutL ns N k true:=fun N hN hf=>by
    refine ⟨⟨hN,by rw [hf]; exact hso⟩,by simp [hk'],fun x=>?_,?_⟩
    ·rw [hf,hs.all]
     conv=>rhs; rw [← zat s l]
     simp only [zab,zac];constructor
     ·rintro (q | (q | q | q) | q)<;>simp [q]
     ·rintro (q | q | (q | q) | q)<;>simp [q]
    ·rw [hf,hs.all]
     conv=>rhs; rw [← zat s l]
     simp only [zau,zak,Bool.toNat_true];omega
   have hll:(l.take s++k::l.drop s).length=l.length+1:=by
    have:=hs.pl.le;simp;omega
   split
   ·refine key _ (fun m hm=>?_) (ayi hs.lt _);rcases zaz hm with q | rfl
    ·exact h.ne m q
    ·exact ⟨by simp,by rw [hll]; omega⟩
   ·refine key _ (fun m hm=>?_) ?_
    ·rcases zab.1 hm with q | q
     ·exact h.ne m (zbo q)
     ·have hle:=hs.le;rcases zac.1 q with rfl | q
      ·refine ⟨fun e=>?_,by rw [List.length_take]; omega⟩;have:=congrArg List.length e;rw [List.length_take,hll] at this;simp at this
      ·rcases zac.1 q with rfl | q
       ·refine ⟨fun e=>?_,by rw [zba,hll]; omega⟩;have:=congrArg List.length e;rw [zba,hll] at this;simp at this;omega
       ·exact h.ne m (zbp q)
    ·rw [List.flatten_append,zbd,zbd,← zbi (List.take 16 _),zat]
structure DelL (ns ns':List (List Ky)) (k:Ky) (f:Bool):Prop where
 good:Good ns'
 flag:f=decide (k∈ns.flatten)
 mem:∀x,x∈ns'.flatten↔x≠k∧x∈ns.flatten
 len:ns'.flatten.length+f.toNat=ns.flatten.length

open Go Go.RowKit
def tr (ns:List (List Ky)):AbsT:=bia ns ns.flatten.length
theorem atb {b:Nat} {og og':Option Nat} {gs gs':List Nat} {w:World} (h:∀x,Ft b og' gs' x→Ft b og gs x∨w.heap.size≤x) (hb:(b::(og'.toList++gs')).Nodup):∀j c,fpt og' gs' j=some c→(∃j',fpt og gs j'=some c)∨w.heap.size≤c:=fun j c hj=>by
 have h1:=aem.1 ⟨j,hj⟩;rcases h c (.inr h1) with h2 | h2
 ·rcases h2 with rfl | h2
  ·exfalso;have:=(zan.1 hb).1;apply this;rcases h1 with q | q
   ·exact zab.2 (.inl (by rw [q]; simp))
   ·exact zab.2 (.inr q)
  ·exact .inl (aem.2 h2)
 ·exact .inr h2
theorem aw9 {w w':World} {b:Nat} {og:Option Nat} {gs:List Nat} (h:Keeps (Ft b og gs) w w'):Keeps (fun x=>x=b∨∃j,fpt og gs j=some x) w w':=h.mono fun x hx=>by
 rcases hx with q | q
 ·exact .inl q
 ·exact .inr (aem.2 q)
theorem bij {ns:List (List Ky)} (h:Good ns) (hn:ns.flatten.length≤100000) (k:Ky):a8 P0 64 [.ptr 1000000 0 0,k.av] [.abs (tr ns)] (bl (ji ns k).2) [.abs (tr (ji ns k).1)]:=by
 refine a0y rfl fun w b φ hQ=>?_;obtain ⟨og,gs,cap,hT,rfl⟩:=hQ;have hL:=ay9 h (by omega) k;by_cases h0:ns=[]
 ·subst h0;refine (put0_w hT k).mono ?_;rintro e w' ⟨rfl,og',gs',cap',hT',hK,hF⟩;exact ⟨rfl,fpt og' gs',⟨og',gs',cap',hT',rfl⟩,aw9 hK,atb hF hT'.nb⟩
 ·obtain ⟨i,s,l,hs⟩:=spt h (by omega) k h0;have hlen:=Good.len fun l hl=>(h.ne l hl).1;have hnd:=hs.nd;have hat:=hs.at_;rw [← hs.nx] at hat;by_cases hk:l[s]?=some k
  ·refine (bff hT k _ s l hnd hat hs.pl hk).mono ?_;rintro e w' ⟨rfl,hT',hK⟩
   have hp:ji ns k=(ns,false):=by
    unfold ji;rw [if_neg h0,hs.nx,hs.gd,hs.px,if_pos hk]
   rw [hp];exact ⟨rfl,fpt og gs,⟨og,gs,cap,hT',rfl⟩,hK _,fun j c hj=>.inl ⟨j,hj⟩⟩
  ·by_cases hl:l.length<32
   ·refine (put2_w hT k _ s l hnd hat hs.pl hk hl (by omega) (by omega)).mono ?_;rintro e w' ⟨rfl,gs',hT',hK,hF⟩
    have hp:ji ns k=(ns.set (m9 ns k-1) (l.take s++k::l.drop s),true):=by
     unfold ji;rw [if_neg h0,hs.nx,hs.gd,hs.px,if_neg hk,if_pos hl]
    rw [hp] at hL ⊢;refine ⟨rfl,fpt og gs',⟨og,gs',cap,?_,rfl⟩,aw9 hK,atb hF hT'.nb⟩;have:=hL.len;simp only [Bool.toNat_true] at this;rw [this];exact hT'
   ·refine (put3_w hT k _ s l hnd hat hs.pl hk hs.le (by omega) (by omega) (by omega) (by omega)).mono ?_;rintro e w' ⟨rfl,og',gs',cap',hT',hK,hF⟩
    have hp:ji ns k=(ns.take (m9 ns k-1)++(l.take s++k::l.drop s).take 16::(l.take s++k::l.drop s).drop 16::ns.drop (m9 ns k-1+1),true):=by
     unfold ji;rw [if_neg h0,hs.nx,hs.gd,hs.px,if_neg hk,if_neg hl]
    rw [hp] at hL ⊢;refine ⟨rfl,fpt og' gs',⟨og',gs',cap',?_,rfl⟩,aw9 hK,atb hF hT'.nb⟩;have:=hL.len;simp only [Bool.toNat_true] at this;rw [this];exact hT'
theorem bip (w:World):Calls P0 61 #[] w fun e w'=>e=.returned (.pointer (some ⟨w.heap.size,0,none⟩))∧TL w' w.heap.size none [] 0 [] 0∧∀I,Keeps I w w':=by
 go_enter func61,Go.Proofs.Tryz.ntmps61
 go_wp2_with fail
 go_ret
 refine ⟨rfl,⟨⟨_,aar rfl⟩,by simp,by simp,by simp,by simp,rfl,by simp⟩,fun I=>z9⟩
theorem biq:a8 P0 61 [] [] (.ptr 1000000 0 0) [.abs (tr [])]:=by
 intro w cargs ρ B hgl hB hM hcs hargs;have hc:cargs=#[]:=by simpa using hcs
 subst hc;refine (bip w).mono ?_;rintro e w' ⟨rfl,hT,hK⟩;have hno:∀b,¬jn (ob0 []) ρ b:=fun b ⟨_,_,h,_⟩=>by simp [ob0,obs] at h
 have hid:∀(T0:AbsT) id x,ob0 [Ob.abs T0] id=some x→id=1000000∧x=(0,.abs T0):=fun T0 id x hx=>by
  obtain ⟨h1,h2,h3⟩:=xg hx
  have:id-1000000=0:=by
   have:=(zaa.1 h2).1;simpa using this
  have hid:id=1000000:=by omega
  subst hid;have hob0:ob0 [Ob.abs T0] 1000000=some (0,.abs T0):=by simp [ob0,obs,upd]
  rw [hob0] at hx;exact ⟨rfl,(Option.some.inj hx).symm⟩
 obtain ⟨ρ',h1,h2⟩:∃ρ':Pl→Option Nat,ρ' (.o 1000000)=some w.heap.size∧∀j,ρ' (.s 1000000 j)=none:=⟨fun | .o i=>if i=1000000 then some w.heap.size else none | .s i j=>none,by simp,by simp⟩
 refine ⟨_,ρ',rfl,⟨fun id v o hx=>?_,fun id id' x x' c hx hx' _ _=>?_,hK _,fun id v o c hx hf=>?_,fun id c hp=>?_⟩,?_⟩
 ·obtain ⟨rfl,hx⟩:=hid _ id _ hx;cases hx;refine ⟨w.heap.size,h1,none,[],0,hT,?_⟩;funext j;rw [h2];cases j<;>rfl
 ·rw [(hid _ id _ hx).1,(hid _ id' _ hx').1]
 ·obtain ⟨rfl,hx⟩:=hid _ id _ hx;cases hx;rcases hf with hf | ⟨_,j,hf⟩
  ·rw [h1] at hf; cases hf; exact .inr (zaf _)
  ·rw [h2] at hf; cases hf
 ·simp [me,obs] at hp
 ·exact .ptr 1000000 0 0 _ rfl ⟨0,.abs (tr []),by simp [ob0,obs,upd],zaf _,fun _=>⟨w.heap.size,h1,rfl⟩⟩

structure Pt where
 k:Int
 x:Int
 y:Int
 v:Int
deriving DecidableEq
def Pt.rv (p:Pt):RV:=.agg [.v (.int .i64 p.k),.v (.int .i64 p.x),.v (.int .i64 p.y),.v (.int .i64 p.v)]
def Pt.av (p:Pt):AV:=.r p.rv
def Pt.val (p:Pt):Value:=.agg #[.int .i64 p.k,.int .i64 p.x,.int .i64 p.y,.int .i64 p.v]
def Pt.ok (p:Pt):Prop:=(1≤p.k∧p.k≤2147483648)∧inW p.x p.y∧(-2147483648≤p.v∧p.v≤2147483647)
instance (p:Pt):Decidable p.ok:=inferInstanceAs (Decidable (_∧_∧_))
def Pt.w (p:Pt) (r:Nat):Nat:=bem p.x p.y r
structure MapL (l:List (Value×Value)) (es:List MapEntry) (c:Nat):Prop where
 kv:es.map (fun e=>(e.key,e.val))=l
 nd:(es.map (·.born)).Nodup
 lt:∀e∈es,e.born<c
theorem MapL.len {l:List (Value×Value)} {es:List MapEntry} {c:Nat} (h:MapL l es c):es.length=l.length:=by rw [← h.kv]; simp
theorem awv:MapL [] [] 0:=⟨rfl,by simp,by simp⟩
section
variable {α:Type} (kd:IntKind) (kf:α→Int) (vf:α→Value)
def ent (a:α):Value×Value:=(.int kd (kf a),vf a)
theorem aws {l:List α} {k:Int}:∀{es:List MapEntry} (i:Nat),es.map (fun e=>(e.key,e.val))=l.map (ent kd kf vf) →
  jd (.int kd k) es i=some ((l.findIdx? fun a=>k == kf a).bind fun j=>(l[j]?).map fun a=>(i+j,vf a)):=by
 induction l with
 | nil=>
  intro es i h;have:es=[]:=by simpa using h
  subst this
  rfl
 | cons a l ih=>
  intro es i h;cases es with
  | nil=>simp at h
  | cons e es=>
   simp only [zbe,List.cons.injEq,ent,Prod.mk.injEq] at h;obtain ⟨⟨h1,h2⟩,h3⟩:=h;simp only [jd,h1,ab1,if_true];by_cases hka:k=kf a
   ·simp [hka,zbk,h2]
   ·have hb:(k == kf a)=false:=by simp [hka]
    rw [hb];simp only;rw [ih (i+1) h3,zbk];simp only [hb,zbl,if_false];congr 1;cases hf:l.findIdx? fun a=>k == kf a with
    | none=>rfl
    | some j=>
     simp only [Option.map_some,Option.bind_some,List.getElem?_cons_succ];congr 1;funext b;congr 1;omega
variable {kd kf vf}
theorem ait {l:List α} {es:List MapEntry} {c:Nat} {k:Int} {v:Value} (h:MapL (l.map (ent kd kf vf)) es c) (hn:∀a∈l,k≠kf a) :
  okK es (.int kd k)=true∧lkB es (.int kd k)=false∧(∀z,lkR es (.int kd k) z=z)∧MapL (l.map (ent kd kf vf)++[(.int kd k,v)]) (mg es c (.int kd k) v) (mh es c (.int kd k))∧adz es (.int kd k)=es:=by
 have hf:jd (.int kd k) es 0=some none:=by
  rw [aws kd kf vf 0 h.kv,show (l.findIdx? fun a=>k == kf a)=none from List.findIdx?_eq_none_iff.2 fun a ha=>by simp [hn a ha]]
  rfl
 refine ⟨by simp [okK,hf],by simp [lkB,hf],fun z=>by simp [lkR,hf],?_,by simp [adz,hf]⟩;simp only [mg,mh,hf];refine ⟨by simp [h.kv],?_,?_⟩
 ·rw [zbm,List.nodup_append];refine ⟨h.nd,by simp,fun b hb b' hb'=>?_⟩;simp at hb';obtain ⟨e,he,rfl⟩:=zal.1 hb;have:=h.lt e he;omega
 ·intro e he;rcases zab.1 he with he | he
  ·have:=h.lt e he; omega
  ·simp at he; subst he; simp
theorem arc {β γ:Type} (f:β→γ) (g:β→β) (g':γ→γ) (hg:∀b,f (g b)=g' (f b)) (l:List β) (i:Nat):(l.modify i g).map f=(l.map f).modify i g':=by
 induction l generalizing i with
 | nil=>simp
 | cons a l ih=>cases i with
  | zero=>simp [hg]
  | succ i=>simp [ih]
theorem ac5 {β γ:Type} (f:β→γ) (l:List β) (i:Nat):(l.eraseIdx i).map f=(l.map f).eraseIdx i:=by
 induction l generalizing i with
 | nil=>simp
 | cons a l ih=>cases i with
  | zero=>simp
  | succ i=>simp [ih]
theorem awp {l:List α} {es:List MapEntry} {c:Nat} {k:Int} {v:Value} {i:Nat} {a:α} (h:MapL (l.map (ent kd kf vf)) es c) (hi:(l.findIdx? fun a=>k == kf a)=some i) (ha:l[i]?=some a) :
  okK es (.int kd k)=true∧lkB es (.int kd k)=true∧(∀z,lkR es (.int kd k) z=ll (vf a))∧MapL ((l.map (ent kd kf vf)).set i (.int kd k,v)) (mg es c (.int kd k) v) (mh es c (.int kd k))∧MapL ((l.eraseIdx i).map (ent kd kf vf)) (adz es (.int kd k)) c:=by
 have hf:jd (.int kd k) es 0=some (some (i,vf a)):=by
  rw [aws kd kf vf 0 h.kv,hi];simp [ha]
 have hlt:=(zaa.1 ha).1;simp only [mg,mh,adz,hf];refine ⟨by simp [okK,hf],by simp [lkB,hf],fun z=>by simp [lkR,hf],⟨?_,?_,?_⟩,⟨?_,?_,?_⟩⟩
 ·rw [arc (fun e:MapEntry=>(e.key,e.val)) _ (fun _=>(.int kd k,v)) (fun b=>rfl),h.kv];apply List.ext_getElem?;intro j;rw [zbs,zbb];by_cases hij:i=j
  ·subst hij;simp [hlt]
  ·simp [hij]
 ·have:(es.modify i fun e=>{ e with key:=.int kd k,val:=v }).map (·.born)=es.map (·.born):=by
   rw [arc (fun e:MapEntry=>e.born) (fun e=>{ e with key:=Value.int kd k,val:=v }) id (fun b=>rfl)];apply List.ext_getElem?;intro j;rw [zbs];split<;>simp
  rw [this];exact h.nd
 ·intro e he;obtain ⟨j,hj⟩:=zaj.1 he;rw [zbs] at hj;obtain ⟨e0,he0,he1⟩:=Option.map_eq_some_iff.1 hj;have:=h.lt e0 (zad he0);rw [← he1];split<;>exact this
 ·rw [ac5,h.kv,ac5]
 ·rw [ac5];exact h.nd.sublist (List.eraseIdx_sublist _ _)
 ·intro e he;exact h.lt e ((List.eraseIdx_sublist _ _).mem he)
end

abbrev ptE:Pt→Value×Value:=ent .i64 (·.k) Pt.val
structure PM (L:List Pt) (es:List MapEntry) (c:Nat):Prop where
 m:MapL (L.map ptE) es c
 nd:(L.map (·.k)).Nodup
def bjs (k:Int) (L:List Pt):List Pt:=L.filter fun q=>q.k != k
theorem baj {L:List Pt} {es:List MapEntry} {c:Nat} (h:PM L es c) {k:Int} (hn:∀q∈L,q.k≠k):okK es (.int .i64 k)=true∧lkB es (.int .i64 k)=false∧(∀z,lkR es (.int .i64 k) z=z)∧adz es (.int .i64 k)=es:=by
 obtain ⟨h1,h2,h3,h4,h5⟩:=ait (v:=.int .i64 0) h.m (fun a ha e=>hn a ha e.symm);exact ⟨h1,h2,h3,h5⟩
theorem a4q {L:List Pt} {es:List MapEntry} {c:Nat} (h:PM L es c) {p:Pt} (hn:∀q∈L,q.k≠p.k):okK es (.int .i64 p.k)=true∧PM (L++[p]) (mg es c (.int .i64 p.k) p.val) (mh es c (.int .i64 p.k)):=by
 obtain ⟨h1,h2,h3,h4,h5⟩:=ait (v:=p.val) h.m (fun a ha e=>hn a ha e.symm);refine ⟨h1,by rw [zbm]; exact h4,?_⟩;rw [zbm,List.nodup_append];refine ⟨h.nd,by simp,fun a ha b hb=>?_⟩;simp at hb;subst hb;obtain ⟨q,hq,rfl⟩:=zal.1 ha;exact hn q hq
theorem bfj {L:List Pt} {es:List MapEntry} {c:Nat} (h:PM L es c):es.length=L.length:=by rw [h.m.len]; simp
abbrev cnE:Nat×Int→Value×Value:=ent .u64 (fun q=>(q.1:Int)) (fun q=>.int .i64 q.2)
structure CM (f:Nat→Nat) (es:List MapEntry) (c:Nat):Prop where
 ex:∃ws:List (Nat×Int),MapL (ws.map cnE) es c∧(ws.map (·.1)).Nodup∧∀w n,(w,n)∈ws↔n=(f w:Int)∧0<f w
theorem bha:CM (fun _=>0) [] 0:=⟨[],awv,by simp,by simp⟩
theorem az8 {ws:List (Nat×Int)} (hnd:(ws.map (·.1)).Nodup) {w:Nat} {n:Int} (h:(w,n)∈ws):∃i,(ws.findIdx? fun a=>((w:Int)) == ((a.1:Nat):Int))=some i∧ws[i]?=some (w,n):=by
 induction ws with
 | nil=>simp at h
 | cons a ws ih=>
  rw [zbe,zan] at hnd;by_cases ha:a=(w,n)
  ·subst ha;exact ⟨0,by simp [zbk],rfl⟩
  ·have h':(w,n)∈ws:=by
    rcases zac.1 h with h | h
    ·exact absurd h.symm ha
    ·exact h
   obtain ⟨i,h1,h2⟩:=ih hnd.2 h';have hk:a.1≠w:=fun e=>hnd.1 (zal.2 ⟨_,h',e.symm⟩);refine ⟨i+1,?_,by simpa using h2⟩;rw [zbk,h1];have:(((w:Int)) == ((a.1:Nat):Int))=false:=by simp; omega
   simp [this]
theorem a2h {f:Nat→Nat} {ws:List (Nat×Int)} (h:∀w n,(w,n)∈ws↔n=(f w:Int)∧0<f w) {w:Nat} (h0:f w=0):∀a∈ws,(w:Int)≠((a.1:Nat):Int):=fun a ha e=>by
 have e':w=a.1:=by omega
 subst e';have:=((h a.1 a.2).1 ha).2;omega
theorem bhc {f:Nat→Nat} {es:List MapEntry} {c:Nat} (h:CM f es c) (w:Nat):okK es (.int .u64 w)=true∧lkR es (.int .u64 w) (.v (.int .i64 0))=.v (.int .i64 (f w)):=by
 obtain ⟨ws,h1,h2,h3⟩:=h.ex;by_cases h0:f w=0
 ·obtain ⟨g1,g2,g3,_⟩:=ait (v:=.int .i64 0) h1 (a2h h3 h0);exact ⟨g1,by rw [g3,h0]; rfl⟩
 ·obtain ⟨i,hi,ha⟩:=az8 h2 ((h3 w (f w)).2 ⟨rfl,by omega⟩);obtain ⟨g1,g2,g3,_⟩:=awp (v:=.int .i64 0) h1 hi ha;exact ⟨g1,by rw [g3]; rfl⟩
theorem a47 {ws:List (Nat×Int)} (h:(ws.map (·.1)).Nodup) {i:Nat} {w:Nat} {n m:Int} (hi:ws[i]?=some (w,n)):((ws.set i (w,m)).map (·.1)).Nodup∧∀u k,(u,k)∈ws.set i (w,m)↔(u=w∧k=m)∨(u≠w∧(u,k)∈ws):=by
 have e:(ws.set i (w,m)).map (·.1)=ws.map (·.1):=by
  apply List.ext_getElem?;intro j;rw [List.getElem?_map,zbb,List.getElem?_map];by_cases hij:i=j
  ·subst hij;have:=(zaa.1 hi).1;rw [if_pos rfl,if_pos this,hi]
   rfl
  ·simp [hij]
 refine ⟨by rw [e]; exact h,fun u k=>?_⟩;have hlt:=(zaa.1 hi).1;constructor
 ·intro hm;obtain ⟨j,hj⟩:=zaj.1 hm;rw [zbb] at hj;by_cases hij:i=j
  ·subst hij;simp [hlt] at hj;exact .inl ⟨hj.1.symm,hj.2.symm⟩
  ·simp [hij] at hj;refine .inr ⟨fun e=>?_,zad hj⟩;subst e;have a1:(ws.map (·.1))[i]?=some u:=by simp [hi]
   have a2:(ws.map (·.1))[j]?=some u:=by simp [hj]
   exact hij (ak0 h a1 a2)
 ·rintro (⟨rfl,rfl⟩ | ⟨hne,hm⟩)
  ·exact zaj.2 ⟨i,by simp [hlt]⟩
  ·obtain ⟨j,hj⟩:=zaj.1 hm;refine zaj.2 ⟨j,?_⟩;rw [zbb];by_cases hij:i=j
   ·subst hij;rw [hi] at hj;cases hj;exact absurd rfl hne
   ·simp [hij,hj]
def upw (f:Nat→Nat) (w n:Nat):Nat→Nat:=fun u=>if u=w then n else f u
theorem bg9 {f:Nat→Nat} {es:List MapEntry} {c:Nat} (h:CM f es c) (w n:Nat) (hn:0<n):CM (upw f w n) (mg es c (.int .u64 w) (.int .i64 n)) (mh es c (.int .u64 w)):=by
 obtain ⟨ws,h1,h2,h3⟩:=h.ex;by_cases h0:f w=0
 ·obtain ⟨g1,g2,g3,g4,_⟩:=ait (v:=.int .i64 n) h1 (a2h h3 h0);refine ⟨ws++[(w,(n:Int))],by simpa [ent] using g4,?_,fun u k=>?_⟩
  ·rw [zbm,List.nodup_append];refine ⟨h2,by simp,fun a ha b hb=>?_⟩;simp at hb;subst hb;obtain ⟨q,hq,rfl⟩:=zal.1 ha;have:=a2h h3 h0 q hq;omega
  ·simp only [zab,zbn,Prod.mk.injEq,h3,upw];by_cases hu:u=w
   ·subst hu; simp [h0]; omega
   ·simp [hu]
 ·obtain ⟨i,hi,ha⟩:=az8 h2 ((h3 w (f w)).2 ⟨rfl,by omega⟩);obtain ⟨g1,g2,g3,g4,_⟩:=awp (v:=.int .i64 n) h1 hi ha;obtain ⟨k1,k2⟩:=a47 (m:=(n:Int)) h2 ha;refine ⟨ws.set i (w,(n:Int)),?_,k1,fun u k=>?_⟩
  ·rw [List.map_set]; exact g4
  ·rw [k2];simp only [h3,upw];by_cases hu:u=w
   ·subst hu; simp; omega
   ·simp [hu]

theorem aq7 {α:Type} {l:List α} (h:l.Nodup) {i j:Nat} {x:α} (hi:l[i]?=some x) (hj:l[j]?=some x):i=j:=by
 obtain ⟨a1,b1⟩:=zaa.1 hi;obtain ⟨a2,b2⟩:=zaa.1 hj;rcases Nat.lt_trichotomy i j with hlt | rfl | hlt
 ·exact absurd (by rw [b1,b2]) (zbj.1 h i j a1 a2 hlt)
 ·rfl
 ·exact absurd (by rw [b1,b2]) (zbj.1 h j i a2 a1 hlt)
def cnt (L:List Pt) (r:Nat):Nat→Nat:=fun w=>L.countP fun p=>p.w r == w
theorem bdr (L:List Pt) (p:Pt) (r:Nat):cnt (L++[p]) r=upw (cnt L r) (p.w r) (cnt L r (p.w r)+1):=by
 funext w;simp only [cnt,upw,List.countP_append,List.countP_cons,List.countP_nil,Nat.zero_add];by_cases h:p.w r=w
 ·subst h; simp
 ·have:¬w=p.w r:=fun e=>h e.symm;simp [h,this]
def Pt.ky (p:Pt) (r:Nat):Ky:=⟨p.w r,p.v,p.k⟩
theorem Pt.w_res {p:Pt} (h:p.ok) {r:Nat} (hr:r<13):as4 (p.w r)=true∧ei (p.w r)=r∧p.w r<18446744073709551616:=by
 have hk:=xi p.x p.y r h.2.1.1 h.2.1.2 (by omega);exact ⟨aug hk,(an7 r _ hk).2,asb r _ hk⟩
theorem Pt.ky_inj {p q:Pt} (hp:p.ok) (hq:q.ok) {r s:Nat} (hr:r<13) (hs:s<13) (h:p.ky r=q.ky s):r=s∧p.k=q.k:=by
 simp only [Pt.ky,Ky.mk.injEq] at h;obtain ⟨h1,h2,h3⟩:=h;have e:p.w r=q.w s:=by omega
 have a:=(Pt.w_res hp hr).2.1;have b:=(Pt.w_res hq hs).2.1;rw [e,b] at a;exact ⟨a.symm,h3⟩
structure TK (K:Ky→Prop) (n:Nat) (ns:List (List Ky)):Prop where
 g:Good ns
 m:∀x,x∈ns.flatten↔K x
 l:ns.flatten.length=n
theorem TK.put {K:Ky→Prop} {n:Nat} {ns:List (List Ky)} (h:TK K n ns) (hn:n≤100000) {k:Ky} (hk:¬K k):TK (fun x=>x=k∨K x) (n+1) (ji ns k).1∧(ji ns k).2=true:=by
 have hp:=ay9 h.g (by rw [h.l]; omega) k;have hf:(ji ns k).2=true:=by rw [hp.flag]; simp [h.m,hk]
 refine ⟨⟨hp.good,fun x=>by rw [hp.mem,h.m],?_⟩,hf⟩;rw [hp.len,h.l,hf]
 rfl
theorem TK.congr {K K':Ky→Prop} {n:Nat} {ns:List (List Ky)} (h:TK K n ns) (hk:∀x,K x↔K' x):TK K' n ns:=⟨h.g,fun x=>(h.m x).trans (hk x),h.l⟩
def KL (L:List Pt) (x:Ky):Prop:=∃p,p∈L∧∃r,r<13∧x=p.ky r
def nsP (ns:List (List Ky)) (p:Pt):Nat→List (List Ky)
 | 0=>ns
 | r+1=>(ji (nsP ns p r) (p.ky r)).1
theorem aq6 {L:List Pt} {p:Pt} {n:Nat} {ns:List (List Ky)} (hp:p.ok) (hL:∀q∈L,q.ok∧q.k≠p.k) (h:TK (KL L) n ns) (hn:n≤50000):∀r,r≤13→TK (fun x=>KL L x∨∃s,s<r∧x=p.ky s) (n+r) (nsP ns p r)
 | 0,_=>h.congr fun x=>by simp
 | r+1,hr=>by
  have ih:=aq6 hp hL h hn r (by omega)
  have hno:¬(KL L (p.ky r)∨∃s,s<r∧p.ky r=p.ky s):=by
   rintro (⟨q,hq,s,hs,e⟩ | ⟨s,hs,e⟩)
   ·exact (hL q hq).2 (Pt.ky_inj hp (hL q hq).1 (by omega) hs e).2.symm
   ·have:=(Pt.ky_inj hp hp (by omega) (by omega) e).1; omega
  refine ((ih.put (by omega) hno).1).congr fun x=>?_;constructor
  ·rintro (rfl | h | ⟨s,hs,rfl⟩)
   ·exact .inr ⟨r,by omega,rfl⟩
   ·exact .inl h
   ·exact .inr ⟨s,by omega,rfl⟩
  ·rintro (h | ⟨s,hs,rfl⟩)
   ·exact .inr (.inl h)
   ·by_cases hsr:s=r
    ·subst hsr; exact .inl rfl
    ·exact .inr (.inr ⟨s,by omega,rfl⟩)

def ajl:Mk P0 f65:={ x:=_ }
theorem am1:d5 65 2 ajl:=c8 func65
def acf:Mk P0 f63:={ x:=_ }
theorem ago:d5 63 2 acf:=c8 func63
theorem ba2 (p:Pt) (r:Int) (h:p.ok) (hr:0≤r∧r≤12):a8 P0 65 [p.av,int .i64 r] [] (uw (p.w r.toNat)) []:=by
 refine am1 rfl (by decide) ?_
 push_cast [ajl,Pt.av,Pt.rv,zah]
 refine a5 (bjd p.x p.y r h.2.1 hr) rfl trivial ?_
 push_cast [cel]
 refine b9 (as':=[cel r (i5 p.x p.y r.toNat)]) rfl ?_;refine a5 (bel r (i5 p.x p.y r.toNat) hr.1 (xi p.x p.y r.toNat h.2.1.1 h.2.1.2 (by omega))) rfl trivial ?_
 push_cast [uw]
 rfl
def stOs (es:List MapEntry) (c:Nat) (ns:List (List Ky)) (ce:Nat→List MapEntry) (cc:Nat→Nat):List Ob:=
 [.box [.mp 1000001 0,.ptr 1000002 0 0,.mp 1000003 0,.mp 1000004 0,.mp 1000005 0,.mp 1000006 0,.mp 1000007 0,.mp 1000008 0,.mp 1000009 0,.mp 1000010 0,.mp 1000011 0,.mp 1000012 0,.mp 1000013 0,.mp 1000014 0,.mp 1000015 0],.map es c,.abs (tr ns),.map (ce 0) (cc 0),.map (ce 1) (cc 1),.map (ce 2) (cc 2),.map (ce 3) (cc 3),.map (ce 4) (cc 4),.map (ce 5) (cc 5),.map (ce 6) (cc 6),.map (ce 7) (cc 7),.map (ce 8) (cc 8),.map (ce 9) (cc 9),.map (ce 10) (cc 10),.map (ce 11) (cc 11),.map (ce 12) (cc 12)]
theorem ayv (a b:List (List Ky)):(tr a).size=(tr b).size:=rfl
def stg {α:Type} (new old:Nat→α) (r j:Nat):α:=if j<r then new j else old j
theorem bic {α:Type} (new old:Nat→α):stg new old 0=old:=by funext j; simp [stg]
structure StL (L:List Pt) (es:List MapEntry) (c:Nat) (ns:List (List Ky)) (ce:Nat→List MapEntry) (cc:Nat→Nat):Prop where
 ok:∀q∈L,q.ok
 le:L.length≤2000
 pm:PM L es c
 tk:TK (KL L) (13*L.length) ns
 cm:∀r,r<13→CM (cnt L r) (ce r) (cc r)
section
variable {L:List Pt} {es:List MapEntry} {c:Nat} {ns:List (List Ky)} {ce:Nat→List MapEntry} {cc:Nat→Nat}
theorem bg3 (h:StL L es c ns ce cc) (k:Int) (hn:∀q∈L,q.k≠k):a8 P0 63 [.ptr 1000000 0 0,int .i64 k] (stOs es c ns ce cc) (bl false) (stOs es c ns ce cc):=by
 obtain ⟨g1,g2,g3,g4⟩:=baj h.pm hn;refine ago rfl (by simp [stOs]) ?_
 push_cast [acf,stOs,zak,zah,g1,g2,g3]
 repeat refine And.intro (by first | decide | omega | exact fun _=>by decide | (simp +contextual; done) | kernel_rfl) ?_
end

def ano:Mk P0 f108:={ x:=_ }
theorem aqh:d5 108 1 ano:=c8 func108
def akm:Mk P0 f109:={ x:=_ }
theorem aos:d5 109 1 akm:=c8 func109
def at1:Mk P0 f62:={ x:=_ }
theorem auy:d5 62 1 at1:=c8 func62
theorem a43 (n:Int):a8 P0 108 [int .i64 n] [] (bl (decide (0≤n∧n<1073741824))) []:=by
 refine aqh rfl (by decide) ?_
 push_cast [ano,zah]
 by_cases h:0≤n<;>by_cases h':n<1073741824<;>simp [h,h',push_cast,↓reduceIte,reduceCtorEq,zB,zE,zA,zS,zL,zD,zM]
theorem bcs (n:Int):a8 P0 109 [int .i64 n] [] (bl (decide (1≤n∧n≤2147483648))) []:=by
 refine aos rfl (by decide) ?_
 push_cast [akm,zah]
 by_cases h:1≤n<;>by_cases h':n≤2147483648<;>simp [h,h',push_cast,↓reduceIte,reduceCtorEq,zB,zE,zA,zS,zL,zD,zM]
theorem bci (p:Pt):a8 P0 62 [p.av] [] (bl (decide p.ok)) []:=by
 refine auy rfl (by decide) ?_
 push_cast [at1,Pt.av,Pt.rv,zah]
 refine a5 (bcs p.k) rfl trivial ?_
 push_cast
 by_cases h:1≤p.k∧p.k≤2147483648
 ·rw [decide_eq_true h]
  push_cast
  refine ⟨by kernel_rfl,?_⟩;refine a5 (a43 p.x) rfl trivial ?_
  push_cast
  by_cases hx:0≤p.x∧p.x<1073741824
  ·rw [decide_eq_true hx]
   push_cast
   refine ⟨by kernel_rfl,?_⟩;refine a5 (a43 p.y) rfl trivial ?_
   push_cast
   by_cases hy:0≤p.y∧p.y<1073741824
   ·rw [decide_eq_true hy];by_cases h1:-2147483648≤p.v<;>by_cases h2:p.v≤2147483647<;>simp [h1,h2,h,hx,hy,Pt.ok,inW,push_cast,↓reduceIte,reduceCtorEq,zB,zE,zA,zS,zL,zD,zM]
   ·rw [decide_eq_false hy,decide_eq_false (p:=p.ok) (fun h'=>hy h'.2.1.2)]
    push_cast
  ·rw [decide_eq_false hx,decide_eq_false (p:=p.ok) (fun h'=>hx h'.2.1.1)]
   push_cast
 ·rw [decide_eq_false h,decide_eq_false (p:=p.ok) (fun h'=>h h'.1)]
  push_cast

def ace:Mk P0 f36:={ x:=_ }
theorem agn:d5 36 2 ace:=c8 func36
def aw2 (L:List Pt) (p:Pt) (ce:Nat→List MapEntry) (cc:Nat→Nat) (r:Nat):List MapEntry:=mg (ce r) (cc r) (.int .u64 (p.w r)) (.int .i64 ((cnt L r (p.w r):Int)+1))
def aw3 (p:Pt) (ce:Nat→List MapEntry) (cc:Nat→Nat) (r:Nat):Nat:=mh (ce r) (cc r) (.int .u64 (p.w r))
theorem StL.put {L:List Pt} {es:List MapEntry} {c:Nat} {ns:List (List Ky)} {ce:Nat→List MapEntry} {cc:Nat→Nat} (h:StL L es c ns ce cc) {p:Pt} (hp:p.ok) (hn:∀q∈L,q.k≠p.k) (hl:L.length<2000) :
  StL (L++[p]) (mg es c (.int .i64 p.k) p.val) (mh es c (.int .i64 p.k)) (nsP ns p 13) (aw2 L p ce cc) (aw3 p ce cc):=by
 refine ⟨fun q hq=>?_,by simp; omega,(a4q h.pm hn).2,?_,fun r hr=>?_⟩
 ·rcases zab.1 hq with hq | hq
  ·exact h.ok q hq
  ·rw [zbn.1 hq]; exact hp
 ·have:=aq6 hp (fun q hq=>⟨h.ok q hq,hn q hq⟩) h.tk (by omega) 13 (zaf _);rw [zau,List.length_singleton,Nat.mul_add];refine this.congr fun x=>?_;unfold KL;constructor
  ·rintro (⟨q,hq,r,hr,rfl⟩ | ⟨s,hs,rfl⟩)
   ·exact ⟨q,List.mem_append_left _ hq,r,hr,rfl⟩
   ·exact ⟨p,by simp,s,hs,rfl⟩
  ·rintro ⟨q,hq,r,hr,rfl⟩;rcases zab.1 hq with hq | hq
   ·exact .inl ⟨q,hq,r,hr,rfl⟩
   ·rw [zbn.1 hq]; exact .inr ⟨r,hr,rfl⟩
 ·rw [bdr];have:=bg9 (h.cm r hr) (p.w r) (cnt L r (p.w r)+1) (by omega);exact this
theorem bcu {L:List Pt} {p:Pt} {n:Nat} {ns:List (List Ky)} (hp:p.ok) (hL:∀q∈L,q.ok∧q.k≠p.k) (h:TK (KL L) n ns) (hn:n≤50000) {r:Nat} (hr:r<13):(ji (nsP ns p r) (p.ky r)).2=true:=by
 have:=aq6 hp hL h hn r (by omega);refine (this.put (by omega) ?_).2;rintro (⟨q,hq,s,hs,e⟩ | ⟨s,hs,e⟩)
 ·exact (hL q hq).2 (Pt.ky_inj hp (hL q hq).1 hr hs e).2.symm
 ·have:=(Pt.ky_inj hp hp hr (by omega) e).1;omega
section
variable {L:List Pt} {es es1:List MapEntry} {c c1:Nat} {ns ns1:List (List Ky)} {ce ce1:Nat→List MapEntry} {cc cc1:Nat→Nat}
set_option maxHeartbeats 4000000 in
theorem a70 {b:Bool} (h:StL L es1 c1 ns1 ce1 cc1) {p:Pt} (hpo:p.ok) (hn:∀q∈L,q.k≠p.k) (hlt:L.length<2000)
  (hdel:a8 P0 63 [.ptr 1000000 0 0,int .i64 p.k] (stOs es c ns ce cc) (bl b) (stOs es1 c1 ns1 ce1 cc1))
  (g1:okK es (.int .i64 p.k)=true) (g2:∃v,lkR es (.int .i64 p.k) (.agg [.v (.int .i64 0),.v (.int .i64 0),.v (.int .i64 0),.v (.int .i64 0)])=Pt.rv v) (g3:lkB es (.int .i64 p.k)=true∨(lkB es (.int .i64 p.k)=false∧es.length<2000)) :
  a8 P0 36 [.ptr 1000000 0 0,p.av] (stOs es c ns ce cc) (bl true) (stOs (mg es1 c1 (.int .i64 p.k) p.val) (mh es1 c1 (.int .i64 p.k)) (nsP ns1 p 13) (aw2 L p ce1 cc1) (aw3 p ce1 cc1)):=by
 obtain ⟨f1,_⟩:=a4q h.pm hn;have hP:=aq6 hpo (fun q hq=>⟨h.ok q hq,hn q hq⟩) h.tk (by omega);obtain ⟨v,g2⟩:=g2;refine agn rfl (by simp [stOs]) ?_
 push_cast [ace,stOs,Pt.av,Pt.rv,zak,zah,g1,g2]
 repeat refine And.intro (by first | decide | omega | exact fun _=>by decide | (simp +contextual; done) | kernel_rfl) ?_
 refine b9 (as':=[p.av]) rfl ?_;refine a5 (bci p) rfl trivial ?_;rw [decide_eq_true hpo]
 push_cast
 refine c7 (fun hc=>?_) (fun hc=>?_)
 ·exfalso;rcases g3 with g3 | ⟨g3,g4⟩<;>simp [g3] at hc;omega
 simp only [stOs] at hdel
 push_cast
 refine a5 hdel rfl ⟨rfl,trivial,ayv _ _,trivial,trivial,trivial,trivial,trivial,trivial,trivial,trivial,trivial,trivial,trivial,trivial,trivial,trivial⟩ ?_;have tv:∀a b c d:Int,toV (.r (.agg [.v (.int .i64 a),.v (.int .i64 b),.v (.int .i64 c),.v (.int .i64 d)]))=some (Pt.val ⟨a,b,c,d⟩):=fun _ _ _ _=>rfl
 push_cast [f1,tv]
 repeat refine And.intro (by first | decide | omega | exact fun _=>by decide | (simp +contextual; done) | kernel_rfl) ?_
 refine run_loop [(51,false),(0,false),(3,false),(7,false)] (fun vs pos los=>∃r:Nat,r≤13∧vs=[int .i64 r,.ptr 1000000 0 0,.ptr 2000000 0 0,.fn (.func 64) [.ptr 1000002 0 0] 1]∧pos=stOs (mg es1 c1 (.int .i64 p.k) p.val) (mh es1 c1 (.int .i64 p.k)) (nsP ns1 p r) (stg (aw2 L p ce1 cc1) ce1 r) (stg (aw3 p ce1 cc1) cc1 r)∧los=[.box [int .i64 p.k,int .i64 p.x,int .i64 p.y,int .i64 p.v]])
  (fun vs _ _=>match vs with | .r (.v (.int _ j))::_=>(13-j).toNat | _=>0) rfl ?_ ?_
 ·push_cast
  refine ⟨0,by omega,?_⟩;simp only [bic,nsP,stOs];exact ⟨rfl,rfl⟩
 ·rintro vs pos los ⟨r,hr,rfl,hpos,rfl⟩;by_cases h13:r=13
  ·subst h13;have hlit:stOs (mg es1 c1 (.int .i64 p.k) p.val) (mh es1 c1 (.int .i64 p.k)) (nsP ns1 p 13) (stg (aw2 L p ce1 cc1) ce1 13) (stg (aw3 p ce1 cc1) cc1 13)=stOs (mg es1 c1 (.int .i64 p.k) p.val) (mh es1 c1 (.int .i64 p.k)) (nsP ns1 p 13) (aw2 L p ce1 cc1) (aw3 p ce1 cc1):=rfl;rw [hlit] at hpos;subst hpos
   push_cast [stOs,show decide ((13:Int)<13)=false from rfl]
  have hr3:r<13:=by omega
  have hcm:=h.cm r hr3;obtain ⟨q1,q2⟩:=bhc hcm (p.w r);have hw:=(Pt.w_res hpo hr3).2.2;have hk:=hP r (by omega);have hf:(ji (nsP ns1 p r) (p.ky r)).2=true:=(bcu hpo (fun q hq=>⟨h.ok q hq,hn q hq⟩) h.tk (by omega) hr3)
  have cle:cnt L r (p.w r)≤2000:=Nat.le_trans List.countP_le_length (by omega);have z4:IntKind.i64.wrap ((cnt L r (p.w r):Int)+1)=(cnt L r (p.w r):Int)+1:=a7 (by omega);have hpt:=bij hk.g (by rw [hk.l]; omega) (p.ky r)
  rcases (show r=0∨r=1∨r=2∨r=3∨r=4∨r=5∨r=6∨r=7∨r=8∨r=9∨r=10∨r=11∨r=12 by omega) with rfl | rfl | rfl | rfl | rfl | rfl | rfl | rfl | rfl | rfl | rfl | rfl | rfl<;>(
   simp only [stOs,stg,Nat.reduceLT,↓reduceIte] at hpos;subst hpos
   push_cast [Int.reduceLT,decide_true]
   refine b9 (as':=[p.av,int .i64 _]) rfl ?_;refine a5 (ba2 p _ hpo (by decide)) rfl trivial ?_
   push_cast [zae,uw]
   repeat refine And.intro (by first | decide | omega | exact fun _=>by decide | (simp +contextual; done) | kernel_rfl) ?_
   refine b9 (as':=[.ptr 1000000 0 0,(p.ky _).av]) rfl ?_;refine a5 hpt rfl ⟨ayv _ _,trivial⟩ ?_
   push_cast [q1,q2,z4,zae]
   repeat refine And.intro (by first | decide | omega | exact fun _=>by decide | (simp +contextual; done) | kernel_rfl) ?_
   refine ⟨⟨_+1,by decide,rfl,?_⟩,by decide⟩;simp only [stOs,stg,Nat.reduceLT,Nat.reduceAdd,↓reduceIte]
   rfl)
end

section
variable {L:List Pt} {es:List MapEntry} {c:Nat} {ns:List (List Ky)} {ce:Nat→List MapEntry} {cc:Nat→Nat}
end
def SS (L:List Pt) (os:List Ob):Prop:=∃es c ns ce cc,StL L es c ns ce cc∧os=stOs es c ns ce cc
def has (L:List Pt) (k:Int):Bool:=L.any fun q=>q.k == k
theorem az4 {L:List Pt} {k:Int}:has L k=false↔∀p∈L,p.k≠k:=by simp [has]
def SF (L:List Pt):Fam where
 S:=SS L
 N:=16
 n:=15
 pos:=by decide
 len:=by rintro os ⟨es,c,ns,ce,cc,h,rfl⟩; rfl
 flat:=by
  rintro os ⟨es,c,ns,ce,cc,h,rfl⟩ o ho;simp only [stOs,zac,List.not_mem_nil,or_false] at ho;rcases ho with rfl | rfl | rfl | rfl | rfl | rfl | rfl | rfl | rfl | rfl | rfl | rfl | rfl | rfl | rfl | rfl
  ·exact ⟨by simp [ea,ft,v9],rfl⟩
  all_goals exact ⟨trivial,rfl⟩
 shut:=by
  rintro os ⟨es,c,ns,ce,cc,h,rfl⟩ o ho;simp only [stOs,zac,List.not_mem_nil,or_false] at ho;rcases ho with rfl | rfl | rfl | rfl | rfl | rfl | rfl | rfl | rfl | rfl | rfl | rfl | rfl | rfl | rfl | rfl
  ·simp [imO,imL,imV,qt]
  all_goals rfl
 root:=by
  rintro os ⟨es,c,ns,ce,cc,h,rfl⟩;exact ⟨_,rfl,rfl⟩
def sT (L:List Pt):AbsT:=(SF L).T

def aki:Mk P0 f32:={ x:=_ }
theorem aom:d5 32 0 aki:=c8 func32
def mf:Nat→List Ob
 | 0=>[.box [.mp 2000001 0,.ptr 2000002 0 0,.r (.v (.map none)),.r (.v (.map none)),.r (.v (.map none)),.r (.v (.map none)),.r (.v (.map none)),.r (.v (.map none)),.r (.v (.map none)),.r (.v (.map none)),.r (.v (.map none)),.r (.v (.map none)),.r (.v (.map none)),.r (.v (.map none)),.r (.v (.map none))],.map [] 0,.abs (tr [])]
 | 1=>[.box [.mp 2000001 0,.ptr 2000002 0 0,.mp 2000003 0,.r (.v (.map none)),.r (.v (.map none)),.r (.v (.map none)),.r (.v (.map none)),.r (.v (.map none)),.r (.v (.map none)),.r (.v (.map none)),.r (.v (.map none)),.r (.v (.map none)),.r (.v (.map none)),.r (.v (.map none)),.r (.v (.map none))],.map [] 0,.abs (tr []),.map [] 0]
 | 2=>[.box [.mp 2000001 0,.ptr 2000002 0 0,.mp 2000003 0,.mp 2000004 0,.r (.v (.map none)),.r (.v (.map none)),.r (.v (.map none)),.r (.v (.map none)),.r (.v (.map none)),.r (.v (.map none)),.r (.v (.map none)),.r (.v (.map none)),.r (.v (.map none)),.r (.v (.map none)),.r (.v (.map none))],.map [] 0,.abs (tr []),.map [] 0,.map [] 0]
 | 3=>[.box [.mp 2000001 0,.ptr 2000002 0 0,.mp 2000003 0,.mp 2000004 0,.mp 2000005 0,.r (.v (.map none)),.r (.v (.map none)),.r (.v (.map none)),.r (.v (.map none)),.r (.v (.map none)),.r (.v (.map none)),.r (.v (.map none)),.r (.v (.map none)),.r (.v (.map none)),.r (.v (.map none))],.map [] 0,.abs (tr []),.map [] 0,.map [] 0,.map [] 0]
 | 4=>[.box [.mp 2000001 0,.ptr 2000002 0 0,.mp 2000003 0,.mp 2000004 0,.mp 2000005 0,.mp 2000006 0,.r (.v (.map none)),.r (.v (.map none)),.r (.v (.map none)),.r (.v (.map none)),.r (.v (.map none)),.r (.v (.map none)),.r (.v (.map none)),.r (.v (.map none)),.r (.v (.map none))],.map [] 0,.abs (tr []),.map [] 0,.map [] 0,.map [] 0,.map [] 0]
 | 5=>[.box [.mp 2000001 0,.ptr 2000002 0 0,.mp 2000003 0,.mp 2000004 0,.mp 2000005 0,.mp 2000006 0,.mp 2000007 0,.r (.v (.map none)),.r (.v (.map none)),.r (.v (.map none)),.r (.v (.map none)),.r (.v (.map none)),.r (.v (.map none)),.r (.v (.map none)),.r (.v (.map none))],.map [] 0,.abs (tr []),.map [] 0,.map [] 0,.map [] 0,.map [] 0,.map [] 0]
 | 6=>[.box [.mp 2000001 0,.ptr 2000002 0 0,.mp 2000003 0,.mp 2000004 0,.mp 2000005 0,.mp 2000006 0,.mp 2000007 0,.mp 2000008 0,.r (.v (.map none)),.r (.v (.map none)),.r (.v (.map none)),.r (.v (.map none)),.r (.v (.map none)),.r (.v (.map none)),.r (.v (.map none))],.map [] 0,.abs (tr []),.map [] 0,.map [] 0,.map [] 0,.map [] 0,.map [] 0,.map [] 0]
 | 7=>[.box [.mp 2000001 0,.ptr 2000002 0 0,.mp 2000003 0,.mp 2000004 0,.mp 2000005 0,.mp 2000006 0,.mp 2000007 0,.mp 2000008 0,.mp 2000009 0,.r (.v (.map none)),.r (.v (.map none)),.r (.v (.map none)),.r (.v (.map none)),.r (.v (.map none)),.r (.v (.map none))],.map [] 0,.abs (tr []),.map [] 0,.map [] 0,.map [] 0,.map [] 0,.map [] 0,.map [] 0,.map [] 0]
 | 8=>[.box [.mp 2000001 0,.ptr 2000002 0 0,.mp 2000003 0,.mp 2000004 0,.mp 2000005 0,.mp 2000006 0,.mp 2000007 0,.mp 2000008 0,.mp 2000009 0,.mp 2000010 0,.r (.v (.map none)),.r (.v (.map none)),.r (.v (.map none)),.r (.v (.map none)),.r (.v (.map none))],.map [] 0,.abs (tr []),.map [] 0,.map [] 0,.map [] 0,.map [] 0,.map [] 0,.map [] 0,.map [] 0,.map [] 0]
 | 9=>[.box [.mp 2000001 0,.ptr 2000002 0 0,.mp 2000003 0,.mp 2000004 0,.mp 2000005 0,.mp 2000006 0,.mp 2000007 0,.mp 2000008 0,.mp 2000009 0,.mp 2000010 0,.mp 2000011 0,.r (.v (.map none)),.r (.v (.map none)),.r (.v (.map none)),.r (.v (.map none))],.map [] 0,.abs (tr []),.map [] 0,.map [] 0,.map [] 0,.map [] 0,.map [] 0,.map [] 0,.map [] 0,.map [] 0,.map [] 0]
 | 10=>[.box [.mp 2000001 0,.ptr 2000002 0 0,.mp 2000003 0,.mp 2000004 0,.mp 2000005 0,.mp 2000006 0,.mp 2000007 0,.mp 2000008 0,.mp 2000009 0,.mp 2000010 0,.mp 2000011 0,.mp 2000012 0,.r (.v (.map none)),.r (.v (.map none)),.r (.v (.map none))],.map [] 0,.abs (tr []),.map [] 0,.map [] 0,.map [] 0,.map [] 0,.map [] 0,.map [] 0,.map [] 0,.map [] 0,.map [] 0,.map [] 0]
 | 11=>[.box [.mp 2000001 0,.ptr 2000002 0 0,.mp 2000003 0,.mp 2000004 0,.mp 2000005 0,.mp 2000006 0,.mp 2000007 0,.mp 2000008 0,.mp 2000009 0,.mp 2000010 0,.mp 2000011 0,.mp 2000012 0,.mp 2000013 0,.r (.v (.map none)),.r (.v (.map none))],.map [] 0,.abs (tr []),.map [] 0,.map [] 0,.map [] 0,.map [] 0,.map [] 0,.map [] 0,.map [] 0,.map [] 0,.map [] 0,.map [] 0,.map [] 0]
 | 12=>[.box [.mp 2000001 0,.ptr 2000002 0 0,.mp 2000003 0,.mp 2000004 0,.mp 2000005 0,.mp 2000006 0,.mp 2000007 0,.mp 2000008 0,.mp 2000009 0,.mp 2000010 0,.mp 2000011 0,.mp 2000012 0,.mp 2000013 0,.mp 2000014 0,.r (.v (.map none))],.map [] 0,.abs (tr []),.map [] 0,.map [] 0,.map [] 0,.map [] 0,.map [] 0,.map [] 0,.map [] 0,.map [] 0,.map [] 0,.map [] 0,.map [] 0,.map [] 0]
 | _=>[.box [.mp 2000001 0,.ptr 2000002 0 0,.mp 2000003 0,.mp 2000004 0,.mp 2000005 0,.mp 2000006 0,.mp 2000007 0,.mp 2000008 0,.mp 2000009 0,.mp 2000010 0,.mp 2000011 0,.mp 2000012 0,.mp 2000013 0,.mp 2000014 0,.mp 2000015 0],.map [] 0,.abs (tr []),.map [] 0,.map [] 0,.map [] 0,.map [] 0,.map [] 0,.map [] 0,.map [] 0,.map [] 0,.map [] 0,.map [] 0,.map [] 0,.map [] 0,.map [] 0]
theorem bfi:PM [] [] 0:=⟨awv,by simp⟩
theorem bev:TK (KL []) 0 []:=⟨⟨by simp,by simp [Srt]⟩,fun x=>by simp [KL],rfl⟩
theorem bbi:StL [] [] 0 [] (fun _=>[]) (fun _=>0):=
 ⟨by simp,by simp,bfi,bev,fun r hr=>by
  have:cnt [] r=fun _=>0:=by funext w; simp [cnt]
  rw [this]; exact bha⟩
set_option maxHeartbeats 4000000 in
theorem bf3:a8 P0 32 [] [] (.ptr 1000000 0 0) (stOs [] 0 [] (fun _=>[]) (fun _=>0)):=by
 refine aom rfl (by decide) ?_
 push_cast [aki,zah]
 repeat refine And.intro (by first | decide | omega | exact fun _=>by decide | (simp +contextual; done) | kernel_rfl) ?_
 refine a5 biq rfl trivial ?_
 push_cast
 repeat refine And.intro (by first | decide | omega | exact fun _=>by decide | (simp +contextual; done) | kernel_rfl) ?_
 refine run_loop [(7,false),(1,false)] (fun vs pos los=>∃r:Nat,r≤13∧vs=[int .i64 r,.ptr 2000000 0 0]∧pos=[]∧los=mf r)
  (fun vs _ _=>match vs with | .r (.v (.int _ j))::_=>(13-j).toNat | _=>0) rfl ?_ ?_
 ·push_cast
  refine ⟨0,by omega,?_⟩;simp only [mf];exact ⟨rfl,trivial⟩
 ·rintro vs pos los ⟨r,hr,rfl,rfl,hlos⟩;rcases (show r=0∨r=1∨r=2∨r=3∨r=4∨r=5∨r=6∨r=7∨r=8∨r=9∨r=10∨r=11∨r=12∨r=13 by omega) with rfl | rfl | rfl | rfl | rfl | rfl | rfl | rfl | rfl | rfl | rfl | rfl | rfl | rfl
  ·simp only [mf] at hlos;subst hlos
   push_cast [show decide ((0:Int)<13)=true from rfl,zae]
   repeat refine And.intro (by first | decide | omega | exact fun _=>by decide | (simp +contextual; done) | kernel_rfl) ?_
   refine ⟨⟨0+1,by omega,rfl,rfl⟩,by decide⟩
  ·simp only [mf] at hlos;subst hlos
   push_cast [show decide ((1:Int)<13)=true from rfl,zae]
   repeat refine And.intro (by first | decide | omega | exact fun _=>by decide | (simp +contextual; done) | kernel_rfl) ?_
   refine ⟨⟨1+1,by omega,rfl,rfl⟩,by decide⟩
  ·simp only [mf] at hlos;subst hlos
   push_cast [show decide ((2:Int)<13)=true from rfl,zae]
   repeat refine And.intro (by first | decide | omega | exact fun _=>by decide | (simp +contextual; done) | kernel_rfl) ?_
   refine ⟨⟨2+1,by omega,rfl,rfl⟩,by decide⟩
  ·simp only [mf] at hlos;subst hlos
   push_cast [show decide ((3:Int)<13)=true from rfl,zae]
   repeat refine And.intro (by first | decide | omega | exact fun _=>by decide | (simp +contextual; done) | kernel_rfl) ?_
   refine ⟨⟨3+1,by omega,rfl,rfl⟩,by decide⟩
  ·simp only [mf] at hlos;subst hlos
   push_cast [show decide ((4:Int)<13)=true from rfl,zae]
   repeat refine And.intro (by first | decide | omega | exact fun _=>by decide | (simp +contextual; done) | kernel_rfl) ?_
   refine ⟨⟨4+1,by omega,rfl,rfl⟩,by decide⟩
  ·simp only [mf] at hlos;subst hlos
   push_cast [show decide ((5:Int)<13)=true from rfl,zae]
   repeat refine And.intro (by first | decide | omega | exact fun _=>by decide | (simp +contextual; done) | kernel_rfl) ?_
   refine ⟨⟨5+1,by omega,rfl,rfl⟩,by decide⟩
  ·simp only [mf] at hlos;subst hlos
   push_cast [show decide ((6:Int)<13)=true from rfl,zae]
   repeat refine And.intro (by first | decide | omega | exact fun _=>by decide | (simp +contextual; done) | kernel_rfl) ?_
   refine ⟨⟨6+1,by omega,rfl,rfl⟩,by decide⟩
  ·simp only [mf] at hlos;subst hlos
   push_cast [show decide ((7:Int)<13)=true from rfl,zae]
   repeat refine And.intro (by first | decide | omega | exact fun _=>by decide | (simp +contextual; done) | kernel_rfl) ?_
   refine ⟨⟨7+1,by omega,rfl,rfl⟩,by decide⟩
  ·simp only [mf] at hlos;subst hlos
   push_cast [show decide ((8:Int)<13)=true from rfl,zae]
   repeat refine And.intro (by first | decide | omega | exact fun _=>by decide | (simp +contextual; done) | kernel_rfl) ?_
   refine ⟨⟨8+1,by omega,rfl,rfl⟩,by decide⟩
  ·simp only [mf] at hlos;subst hlos
   push_cast [show decide ((9:Int)<13)=true from rfl,zae]
   repeat refine And.intro (by first | decide | omega | exact fun _=>by decide | (simp +contextual; done) | kernel_rfl) ?_
   refine ⟨⟨9+1,by omega,rfl,rfl⟩,by decide⟩
  ·simp only [mf] at hlos;subst hlos
   push_cast [show decide ((10:Int)<13)=true from rfl,zae]
   repeat refine And.intro (by first | decide | omega | exact fun _=>by decide | (simp +contextual; done) | kernel_rfl) ?_
   refine ⟨⟨10+1,by omega,rfl,rfl⟩,by decide⟩
  ·simp only [mf] at hlos;subst hlos
   push_cast [show decide ((11:Int)<13)=true from rfl,zae]
   repeat refine And.intro (by first | decide | omega | exact fun _=>by decide | (simp +contextual; done) | kernel_rfl) ?_
   refine ⟨⟨11+1,by omega,rfl,rfl⟩,by decide⟩
  ·simp only [mf] at hlos;subst hlos
   push_cast [show decide ((12:Int)<13)=true from rfl,zae]
   repeat refine And.intro (by first | decide | omega | exact fun _=>by decide | (simp +contextual; done) | kernel_rfl) ?_
   refine ⟨⟨12+1,by omega,rfl,rfl⟩,by decide⟩
  ·simp only [mf] at hlos;subst hlos
   push_cast [show decide ((13:Int)<13)=false from rfl]
   rfl
theorem bao:a8 P0 32 [] [] (.ptr 1000000 0 0) [.abs (sT [])]:=
 bcq (F:=SF []) ⟨_,_,_,_,_,bbi,rfl⟩ bf3

def yf:Mk P0 f71:={ x:=_ }
theorem adu:d5 71 2 yf:=c8 func71
def bh:Mk P0 f107:={ x:=_ }
theorem bd:d5 107 3 bh:=c8 func107
structure Sa where
 w:Int
 n:Int
 s:Int
 lo:Int
 hi:Int
deriving DecidableEq
def Sa.cs (s:Sa):List AV:=[int .u64 s.w,int .i64 s.n,int .i64 s.s,int .i64 s.lo,int .i64 s.hi]
def Sa.rv (s:Sa):RV:=.agg [.v (.int .u64 s.w),.v (.int .i64 s.n),.v (.int .i64 s.s),.v (.int .i64 s.lo),.v (.int .i64 s.hi)]
def Sa.add (s:Sa) (v:Int):Sa:=⟨s.w,IntKind.i64.wrap (s.n+1),IntKind.i64.wrap (s.s+v),if s.n=0 then v else s.lo,v⟩
theorem bdz (k:Ky) (s:Sa):a8 P0 71 [k.av,.ptr 1000000 0 0] [.box s.cs] (.tup []) [.box (s.add k.v).cs]:=by
 refine adu rfl (by simp) ?_
 push_cast [yf,Ky.av,Ky.rv,Sa.cs,Sa.add,zak,zah]
 refine c7 (fun h=>?_) (fun h=>?_)
 ·have h':s.n=0:=by simpa using h
  push_cast [h',if_true]
 ·have h':s.n≠0:=by simpa using h
  push_cast [h',if_false]
theorem ba5 (k:Ky) (w:Int) (s:Sa):a8 P0 107 [k.av,.ptr 1000000 0 0,.ptr 1000001 0 0] [.box [int .u64 w],.box [.fn (.func 71) [.ptr 1000002 0 0] 0],.box s.cs] (bl (k.c == w)) [.box [int .u64 w],.box [.fn (.func 71) [.ptr 1000002 0 0] 0],.box (if k.c == w then s.add k.v else s).cs]:=by
 refine bd rfl (by simp) ?_
 push_cast [bh,Ky.av,Ky.rv,Sa.cs,zak,zah]
 have hne:(k.c != w)=!(k.c == w):=rfl;cases hk:(k.c == w) with
 | false=>
  push_cast [hne,hk,Bool.not_false,zbl,if_false]
 | true=>
  push_cast [hne,hk,Bool.not_true,if_true]
  refine ⟨by kernel_rfl,?_⟩;refine b9 (as':=[k.av,.ptr 1000000 0 0]) rfl ?_;refine a5 (bdz k s) rfl ⟨rfl,trivial⟩ ?_
  push_cast [Sa.cs]

def fw:Mk P0 f106:={ x:=_ }
theorem fg:d5 106 3 fw:=c8 func106
def ve:Mk P0 f59:={ x:=_ }
theorem yc:d5 59 3 ve:=c8 func59
def aav:Mk P0 f38:={ x:=_ }
theorem afh:d5 38 2 aav:=c8 func38
def kz:RV:=.agg [.v (.int .u64 0),.v (.int .i64 0),.v (.int .i64 0)]
theorem lq {l:List Ky} {i:Nat} {k:Ky} (hk:l[i]?=some k):(l.map Ky.rv).getD ((i:Int)).toNat (.agg [.v (.int .u64 0),.v (.int .i64 0),.v (.int .i64 0)])=.agg [.v (.int .u64 k.c),.v (.int .i64 k.v),.v (.int .i64 k.d)]:=by
 simp [List.getD,hk,Ky.rv]
def tc (lo:Ky) (w:Int) (r:List Ky):List Ky:=(r.filter fun k=>!kl k lo).takeWhile fun k=>k.c == w
theorem ayy {lo k:Ky} {w:Int} {r:List Ky} (h:kl k lo=true):tc lo w (k::r)=tc lo w r:=by simp [tc,h]
theorem ayw {lo k:Ky} {w:Int} {r:List Ky} (h:kl k lo=false) (h2:(k.c == w)=true):tc lo w (k::r)=k::tc lo w r:=by simp [tc,h,h2]
theorem ayx {lo k:Ky} {w:Int} {r:List Ky} (h:kl k lo=false) (h2:(k.c == w)=false):tc lo w (k::r)=[]:=by simp [tc,h,h2]
def ab0 (s:Sa) (l:List Ky):Sa:=l.foldl (fun s k=>s.add k.v) s
def ccO (w:Int) (s:Sa):List Ob:=[.box [int .u64 w],.box [.fn (.func 71) [.ptr 1000002 0 0] 0],.box s.cs]
def ccF:AV:=.fn (.func 107) [.ptr 1000000 0 0,.ptr 1000001 0 0] 0
set_option maxHeartbeats 1000000 in
theorem bdd (ns:List (List Ky)) (n:Int) (lo:Ky) (r:Nat) (h:Nod ns lo r) (h0:ns≠[]) (hn:ns.flatten.length≤100000) (w:Int) (s:Sa) :
  a8 P0 106 [.rp (i7 ns n),lo.av,ccF] (ccO w s) (.tup []) (ccO w (ab0 s (tc lo w (ns.drop (r-1)).flatten))):=by
 refine fg rfl (by simp [ccO]) ?_;have hne:((ns.length:Int) == 0)=false:=by simp [h0]
 have hfn:xm P0 107=true:=rfl
 push_cast [fw,ccO,ccF,Sa.cs,i7,Ky.av,Ky.rv,Ky.cs,kz,zak,zah,zai,hne]
 refine a5 (awk ns n lo r h) rfl trivial ?_
 push_cast [zai]
 generalize hR:ab0 s (tc lo w (ns.drop (r-1)).flatten)=R
 refine run_loop [(0,false),(2,false),(4,false),(6,false)] (fun vs pos los=>∃(a:Nat) (s':Sa),a≤ns.length∧R=ab0 s' (tc lo w (ns.drop a).flatten) ∧
   vs=[.rp (i7 ns n),ccF,.ptr 2000000 0 0,int .i64 a]∧pos=ccO w s'∧los=[.box lo.cs])
  (fun vs _ _=>match vs with | [_,_,_,.r (.v (.int _ a))]=>(ns.length-a).toNat | _=>0) rfl ?_ ?_
 ·push_cast [i7,ccO,ccF,Ky.cs,Sa.cs,kz]
  have:=h.le;exact ⟨r-1,s,by omega,hR.symm,by simp⟩
 ·rintro vs pos los ⟨a,s1,ha,hf,rfl,rfl,rfl⟩
  push_cast [i7,ccO,ccF,Sa.cs,Ky.cs,zai]
  refine c7 (fun h1=>?_) (fun h1=>?_)
  ·have h1':a<ns.length:=by simpa using h1
   obtain ⟨l,hl⟩:∃l,ns[a]?=some l:=⟨ns[a],by simp [h1']⟩
   have hll:=(h.ne a l hl).2
   have hd:ns.drop a=l::ns.drop (a+1):=by
    rw [zao h1',(zaa.1 hl).2]
   rw [hd,zbd] at hf;have hg:(ns.map l9).getD ((a:Int)).toNat (.sl 3 [])=.sl 3 (l.map Ky.rv):=by simp [List.getD,hl,l9]
   have ha1:IntKind.i64.wrap ((a:Int)+1)=(a:Int)+1:=a7 ⟨by omega,by have:=h.len; simp only [maxLen] at this; omega⟩
   push_cast [i7,zai,hg]
   refine And.intro ⟨by omega,by omega⟩ ?_
   refine run_loop [(0,false),(2,false),(4,false),(6,false),(33,false),(34,false),(35,false)] (fun vs pos los=>∃(j:Nat) (s':Sa),j≤l.length∧R=ab0 s' (tc lo w (l.drop j++(ns.drop (a+1)).flatten)) ∧
     vs=[.rp (i7 ns n),ccF,.ptr 2000000 0 0,int .i64 a,.r (l9 l),int .i64 l.length,int .i64 j]∧pos=ccO w s'∧los=[.box lo.cs])
    (fun vs _ _=>match vs with | [_,_,_,_,_,_,.r (.v (.int _ a))]=>(l.length-a).toNat | _=>0) rfl ?_ ?_
   ·push_cast [i7,l9,ccO,ccF,Ky.cs,Sa.cs]
    exact ⟨0,s1,by omega,hf,by simp⟩
   ·rintro vs pos los ⟨j,s2,hj,hf2,rfl,rfl,rfl⟩
    push_cast [i7,l9,ccO,ccF,Ky.cs,Sa.cs,zai]
    refine c7 (fun h2=>?_) (fun h2=>?_)
    ·have h2':j<l.length:=by simpa using h2
     have hj1:IntKind.i64.wrap ((j:Int)+1)=(j:Int)+1:=a7 ⟨by omega,by simp only [maxLen] at hll; omega⟩;obtain ⟨k,hk⟩:∃k,l[j]?=some k:=⟨l[j],by simp [h2']⟩
     have hkd:l.drop j=k::l.drop (j+1):=by
      rw [zao h2',(zaa.1 hk).2]
     rw [hkd,zav] at hf2
     push_cast [i7,l9,zai,lq hk]
     refine And.intro ⟨by omega,by omega⟩ (a5 (aez k lo) rfl trivial ?_);rcases hkl:kl k lo with _ | _
     ·push_cast [i7,Ky.cs,Sa.cs,l9,zai,lq hk,hfn,Bool.not_false]
      refine b9 (as':=[k.av,.ptr 1000000 0 0,.ptr 1000001 0 0]) rfl ?_;refine a5 (ba5 k w s2) rfl ⟨rfl,rfl,rfl,trivial⟩ ?_;rcases hkw:(k.c == w) with _ | _
      ·rw [ayx hkl hkw] at hf2
       push_cast [i7,Ky.cs,Sa.cs,l9,kz,zai,zbl,if_false]
       rw [hf2]
       rfl
      ·rw [ayw hkl hkw] at hf2
       push_cast [i7,Ky.cs,Sa.cs,l9,kz,zai,hj1,if_true]
       exact ⟨⟨j+1,s2.add k.v,by omega,hf2,by simp⟩,by omega⟩
     ·rw [ayy hkl] at hf2
      push_cast [i7,Ky.cs,Sa.cs,l9,zai,Bool.not_true,hj1]
      exact ⟨⟨j+1,s2,by omega,hf2,by simp⟩,by omega⟩
    ·have h2':¬j<l.length:=by simpa using h2
     rw [List.drop_eq_nil_of_le (by omega),zaq] at hf2
     push_cast [i7,l9,zai,ha1]
     exact ⟨⟨a+1,s2,by omega,hf2,by simp⟩,by omega⟩
  ·have h1':¬a<ns.length:=by simpa using h1
   rw [List.drop_eq_nil_of_le (by omega)] at hf
   push_cast [i7,zai]
   rw [hf]
   rfl

theorem a5t {ns:List (List Ky)} (h:Good ns) (hn:ns.flatten.length≤100000) (n:Int) (lo:Ky) (w:Int) (s:Sa) :
  a8 P0 106 [.rp (i7 ns n),lo.av,ccF] (ccO w s) (.tup []) (ccO w (ab0 s (tc lo w ns.flatten))):=by
 by_cases h0:ns=[]
 ·subst h0;refine fg rfl (by simp [ccO]) ?_
  push_cast [fw,ccO,ccF,Sa.cs,i7,Ky.av,Ky.rv,Ky.cs,kz,zah,zak,List.map_nil]
  rfl
 ·have:=bdd ns n lo _ (ak1 h (by omega) _) h0 hn w s;obtain ⟨i,q,l,hs⟩:=spt h (by omega) lo h0;rw [hs.nx] at this
  have hd:ns.drop i=l::ns.drop (i+1):=by
   rw [zao hs.lt,(zaa.1 hs.at_).2]
  have e:tc lo w ns.flatten=tc lo w (ns.drop i).flatten:=by
   rw [hs.all,hd,zbd];unfold tc
   conv=>lhs; rw [List.filter_append]
   have:List.filter (fun k=>!kl k lo) (List.take i ns).flatten=[]:=by
    rw [List.filter_eq_nil_iff];intro x hx;simp [hs.ahead x hx]
   rw [this,zaq]
  rw [e];exact this
def a2m:AV:=.fn (.func 107) [.ptr 1000001 0 0,.ptr 1000002 0 0] 0
def a2l (w:Int) (s:Sa):List Ob:=[.box [int .u64 w],.box [.fn (.func 71) [.ptr 1000003 0 0] 0],.box s.cs]
theorem bde {ns:List (List Ky)} (h:Good ns) (hn:ns.flatten.length≤100000) (lo:Ky) (w:Int) (s:Sa) :
  a8 P0 106 [.ptr 1000000 0 0,lo.av,a2m] (.abs (tr ns)::a2l w s) (.tup []) (.abs (tr ns)::a2l w (ab0 s (tc lo w ns.flatten))):=
 a97 (T:=tr ns) (po:=ccO w s) (a5t h hn ns.flatten.length lo w s) rfl rfl rfl rfl
  (by simp [a2l,ea,Sa.cs,ft,v9,dp]) (by simp [ccO,ea,Sa.cs,ft,v9,dp]) (by simp [v9,ft])
theorem ba4 {ns:List (List Ky)} (h:Good ns) (hn:ns.flatten.length≤100000) (w:Int) (s:Sa) :
  a8 P0 59 [.ptr 1000000 0 0,int .u64 w,.fn (.func 71) [.ptr 1000001 0 0] 0] [.abs (tr ns),.box s.cs] (.tup []) [.abs (tr ns),.box (ab0 s (tc ⟨w,-9223372036854775808,-9223372036854775808⟩ w ns.flatten)).cs]:=by
 refine yc rfl (by simp) ?_
 push_cast [ve,Sa.cs,zak,zah]
 refine ⟨by kernel_rfl,?_⟩;refine b9 (as':=[.ptr 1000000 0 0,Ky.av ⟨w,-9223372036854775808,-9223372036854775808⟩,a2m]) rfl ?_;refine a5 (bde h hn _ w s) rfl ⟨rfl,rfl,rfl,rfl,trivial⟩ ?_
 push_cast [a2l,Sa.cs]

def ar5 (s:Sa):AV:=if s.n=0 then .tup [.r (Sa.rv ⟨0,0,0,0,0⟩),bl false] else .tup [.r s.rv,bl true]
section
variable {L:List Pt} {es:List MapEntry} {c:Nat} {ns:List (List Ky)} {ce:Nat→List MapEntry} {cc:Nat→Nat}
def a09 (ns:List (List Ky)) (w:Int):Sa:=ab0 ⟨w,0,0,0,0⟩ (tc ⟨w,-9223372036854775808,-9223372036854775808⟩ w ns.flatten)
theorem bdy (h:StL L es c ns ce cc) (w:Int):a8 P0 38 [.ptr 1000000 0 0,int .u64 w] (stOs es c ns ce cc) (ar5 (a09 ns w)) (stOs es c ns ce cc):=by
 have hT:=ba4 h.tk.g (by rw [h.tk.l]; have:=h.le; omega) w ⟨w,0,0,0,0⟩;refine afh rfl (by simp [stOs]) ?_
 push_cast [aav,stOs,zak,zah]
 repeat refine And.intro (by first | decide | omega | exact fun _=>by decide | (simp +contextual; done) | kernel_rfl) ?_
 refine a5 hT rfl ⟨rfl,rfl,trivial⟩ ?_;unfold a09;generalize ab0 ⟨w,0,0,0,0⟩ (tc ⟨w,-9223372036854775808,-9223372036854775808⟩ w ns.flatten)=q
 push_cast [Sa.cs]
 refine c7 (fun h0=>?_) (fun h0=>?_)
 ·have h0':q.n=0:=by simpa using h0
  push_cast [ar5,h0',if_true,Sa.rv]
 ·have h0':q.n≠0:=by simpa using h0
  push_cast [ar5,h0',if_false,Sa.rv]
end

def inC (w:Nat) (p:Pt):Bool:=(List.range 13).any fun r=>p.w r == w
def mem (L:List Pt) (w:Nat):List Pt:=L.filter (inC w)
def aeq (M:List Pt):Int:=(M.map (·.v)).sum
def loV:List Pt→Int
 | []=>0
 | p::l=>l.foldl (fun a q=>min a q.v) p.v
def hiV:List Pt→Int
 | []=>0
 | p::l=>l.foldl (fun a q=>max a q.v) p.v
theorem abl {w:Nat} {p:Pt}:inC w p=true↔∃r,r<13∧p.w r=w:=by simp [inC]
theorem awr:∀(l:List Pt) (a:Int),(l.foldl (fun a q=>min a q.v) a≤a∧∀q∈l,l.foldl (fun a q=>min a q.v) a≤q.v)∧(l.foldl (fun a q=>min a q.v) a=a∨∃q∈l,l.foldl (fun a q=>min a q.v) a=q.v)
 | [],a=>by simp
 | p::l,a=>by
  obtain ⟨⟨h1,h2⟩,h3⟩:=awr l (min a p.v);simp only [List.foldl_cons];refine ⟨⟨by omega,fun q hq=>?_⟩,?_⟩
  ·rcases zac.1 hq with rfl | hq
   ·omega
   ·exact h2 q hq
  ·rcases h3 with h3 | ⟨q,hq,h3⟩
   ·rcases (show min a p.v=a∨min a p.v=p.v by omega) with e | e
    ·exact .inl (h3.trans e)
    ·exact .inr ⟨p,by simp,h3.trans e⟩
   ·exact .inr ⟨q,by simp [hq],h3⟩
theorem awt:∀(l:List Pt) (a:Int),(a≤l.foldl (fun a q=>max a q.v) a∧∀q∈l,q.v≤l.foldl (fun a q=>max a q.v) a)∧(l.foldl (fun a q=>max a q.v) a=a∨∃q∈l,l.foldl (fun a q=>max a q.v) a=q.v)
 | [],a=>by simp
 | p::l,a=>by
  obtain ⟨⟨h1,h2⟩,h3⟩:=awt l (max a p.v);simp only [List.foldl_cons];refine ⟨⟨by omega,fun q hq=>?_⟩,?_⟩
  ·rcases zac.1 hq with rfl | hq
   ·omega
   ·exact h2 q hq
  ·rcases h3 with h3 | ⟨q,hq,h3⟩
   ·rcases (show max a p.v=a∨max a p.v=p.v by omega) with e | e
    ·exact .inl (h3.trans e)
    ·exact .inr ⟨p,by simp,h3.trans e⟩
   ·exact .inr ⟨q,by simp [hq],h3⟩
theorem a5g {M:List Pt} (h:M≠[]):(∃q∈M,q.v=loV M)∧∀q∈M,loV M≤q.v:=by
 rcases M with _ | ⟨p,l⟩
 ·exact absurd rfl h
 obtain ⟨⟨h1,h2⟩,h3⟩:=awr l p.v;refine ⟨?_,fun q hq=>?_⟩
 ·rcases h3 with h3 | ⟨q,hq,h3⟩
  ·exact ⟨p,by simp,h3.symm⟩
  ·exact ⟨q,by simp [hq],h3.symm⟩
 ·rcases zac.1 hq with rfl | hq
  ·exact h1
  ·exact h2 q hq
theorem a5p {M:List Pt} (h:M≠[]):(∃q∈M,q.v=hiV M)∧∀q∈M,q.v≤hiV M:=by
 rcases M with _ | ⟨p,l⟩
 ·exact absurd rfl h
 obtain ⟨⟨h1,h2⟩,h3⟩:=awt l p.v;refine ⟨?_,fun q hq=>?_⟩
 ·rcases h3 with h3 | ⟨q,hq,h3⟩
  ·exact ⟨p,by simp,h3.symm⟩
  ·exact ⟨q,by simp [hq],h3.symm⟩
 ·rcases zac.1 hq with rfl | hq
  ·exact h1
  ·exact h2 q hq
theorem ahs {a b:Ky}:kl a b=true↔a.c<b.c∨(a.c=b.c∧(a.v<b.v∨(a.v=b.v∧a.d<b.d))):=by
 unfold kl;split
 ·rw [decide_eq_true_iff]; omega
 ·split
  ·rw [decide_eq_true_iff]; omega
  ·rw [decide_eq_true_iff]; omega
theorem aml {a b:Ky}:kl a b=false↔¬(a.c<b.c∨(a.c=b.c∧(a.v<b.v∨(a.v=b.v∧a.d<b.d)))):=by
 rw [← ahs]; simp
theorem ber {w:Int}:∀{M:List Ky},Srt M→(∀k∈M,w≤k.c)→M.takeWhile (fun k=>k.c == w)=M.filter fun k=>k.c == w
 | [],_,_=>rfl
 | x::M,h,hw=>by
  have h1:=List.pairwise_cons.1 h;rw [List.takeWhile_cons,List.filter_cons];rcases hx:(x.c == w) with _ | _
  ·simp only [zbl,if_false];rw [eq_comm,List.filter_eq_nil_iff];intro y hy hc;have:=ahs.1 (h1.1 y hy);have hxw:=hw x (by simp);simp at hx hc;omega
  ·simp only [if_true];rw [ber h1.2 fun k hk=>hw k (by simp [hk])]
theorem a99 {K:List Ky} (h:Srt K) (w:Int) (hb:∀k∈K,-9223372036854775808≤k.v∧-9223372036854775808≤k.d):tc ⟨w,-9223372036854775808,-9223372036854775808⟩ w K=K.filter fun k=>k.c == w:=by
 unfold tc;rw [ber (h.sublist zbt),List.filter_filter]
 ·apply List.filter_congr;intro k hk;have:=hb k hk;rcases hc:(k.c == w) with _ | _
  ·rfl
  ·simp at hc;rw [Bool.true_and,Bool.not_eq_true',aml];simp only;omega
 ·intro k hk;obtain ⟨h1,h2⟩:=zbf.1 hk;have:=hb k h1;rw [Bool.not_eq_true',aml] at h2;simp only at h2;omega
def agm (F:List Ky):Int:=(F.map (·.v)).sum
theorem a0m:∀(F:List Ky) (s:Sa),0≤s.n→s.n+F.length≤100000→-2147483648*s.n≤s.s→s.s≤2147483648*s.n→(∀k∈F,-2147483648≤k.v∧k.v≤2147483648) →
  ab0 s F=⟨s.w,s.n+F.length,s.s+agm F,if s.n=0 then ((F.head?).map (·.v)).getD s.lo else s.lo,((F.getLast?).map (·.v)).getD s.hi⟩
 | [],s,_,_,_,_,_=>by simp [ab0,agm]
 | k::F,s,h1,h2,h3,h4,h5=>by
  have hk:=h5 k (by simp);simp only [zak] at h2;have e1:IntKind.i64.wrap (s.n+1)=s.n+1:=a7 (by omega);have e2:IntKind.i64.wrap (s.s+k.v)=s.s+k.v:=a7 (by omega);have ih:=a0m F (s.add k.v) (by simp only [Sa.add,e1]; omega) (by simp only [Sa.add,e1]; omega) (by simp only [Sa.add,e1,e2]; omega) (by simp only [Sa.add,e1,e2]; omega) fun q hq=>h5 q (by simp [hq]);have e3:ab0 s (k::F)=ab0 (s.add k.v) F:=rfl;rw [e3,ih];simp only [Sa.add,e1,e2,Sa.mk.injEq,zak,agm,zbe,List.sum_cons,List.head?_cons,Option.map_some,Option.getD_some,true_and];refine ⟨by omega,by omega,?_,?_⟩
  ·rw [if_neg (by omega)]
  ·rw [List.getLast?_cons];cases hF:F.getLast? <;> simp
theorem a3g {F G:List Ky} (h:F.Perm G):agm F=agm G:=by
 induction h with
 | nil=>rfl
 | cons x _ ih=>simp only [agm,zbe,List.sum_cons] at ih ⊢; omega
 | swap x y l=>simp only [agm,zbe,List.sum_cons]; omega
 | trans _ _ h1 h2=>exact h1.trans h2
def ams (L:List Pt) (w:Nat):Sa:=if mem L w=[] then ⟨w,0,0,0,0⟩ else ⟨w,(mem L w).length,aeq (mem L w),loV (mem L w),hiV (mem L w)⟩
theorem anv {M:List Pt} {w:Int} (h:(M.map (·.k)).Nodup):(M.map fun p=>(⟨w,p.v,p.k⟩:Ky)).Nodup:=by
 have:(M.map (·.k))=(M.map fun p=>(⟨w,p.v,p.k⟩:Ky)).map (·.d):=by simp
 rw [this] at h;exact (List.pairwise_map.1 h).imp fun {a b} hab e=>hab (by rw [e])
theorem bcc {L:List Pt} {es:List MapEntry} {c:Nat} {ns:List (List Ky)} {ce:Nat→List MapEntry} {cc:Nat→Nat} (h:StL L es c ns ce cc) (w:Nat):a09 ns w=ams L w:=by
 have hK:∀k∈ns.flatten,∃p∈L,∃r,r<13∧k=p.ky r:=fun k hk=>(h.tk.m k).1 hk
 have hb:∀k∈ns.flatten,-2147483648≤k.v∧k.v≤2147483647∧1≤k.d:=fun k hk=>by
  obtain ⟨p,hp,r,hr,rfl⟩:=hK k hk;have:=h.ok p hp;exact ⟨this.2.2.1,this.2.2.2,this.1.1⟩
 unfold a09;rw [a99 h.tk.g.so w fun k hk=>by have:=hb k hk; omega];generalize hF:(ns.flatten.filter fun k=>k.c == (w:Int))=F;have hsF:Srt F:=by rw [← hF]; exact h.tk.g.so.sublist zbt
 have hmF:∀k,k∈F↔k∈(mem L w).map fun p=>(⟨w,p.v,p.k⟩:Ky):=fun k=>by
  rw [← hF,zbf,h.tk.m,zal];constructor
  ·rintro ⟨⟨p,hp,r,hr,rfl⟩,hc⟩;have hc':p.w r=w:=Int.ofNat.inj (by simpa [Pt.ky] using hc);exact ⟨p,zbf.2 ⟨hp,abl.2 ⟨r,hr,hc'⟩⟩,by simp [Pt.ky,hc']⟩
  ·rintro ⟨p,hp,rfl⟩;obtain ⟨hp,hi⟩:=zbf.1 hp;obtain ⟨r,hr,e⟩:=abl.1 hi;exact ⟨⟨p,hp,r,hr,by simp [Pt.ky,e]⟩,by simp⟩
 have hndM:((mem L w).map (·.k)).Nodup:=by
  have:((mem L w).map (·.k)).Sublist (L.map (·.k)):=zbt.map _;exact this.nodup h.pm.nd
 have hndF:F.Nodup:=hsF.imp fun {a b} hab e=>by subst e; rw [ak8] at hab; cases hab
 have hP:F.Perm ((mem L w).map fun p=>(⟨w,p.v,p.k⟩:Ky)):=(List.perm_ext_iff_of_nodup hndF (anv hndM)).2 hmF;have hlen:=hP.length_eq;rw [zai] at hlen;have hle:(mem L w).length≤L.length:=List.length_filter_le ..;have:=h.le
 have hbF:∀k∈F,-2147483648≤k.v∧k.v≤2147483648:=fun k hk=>by
  rw [← hF] at hk;have:=hb k (zbf.1 hk).1;omega
 rw [a0m F ⟨w,0,0,0,0⟩ (by simp) (by simp only; omega) (by simp) (by simp) hbF]
 have hsum:agm F=aeq (mem L w):=by
  rw [a3g hP];simp [agm,aeq,List.map_map,Function.comp_def]
 unfold ams;by_cases hM:mem L w=[]
 ·have hF0:F=[]:=zbu.1 (by rw [hlen,hM]; rfl);rw [if_pos hM];subst hF0;simp [agm]
 ·rw [if_neg hM];have hF0:F≠[]:=fun e=>hM (zbu.1 (by rw [← hlen,e]; rfl));obtain ⟨x,F',rfl⟩:=zbr hF0;obtain ⟨l1,l2⟩:=a5g hM;obtain ⟨u1,u2⟩:=a5p hM
  have hv:∀k∈x::F',∃p∈mem L w,k.v=p.v:=fun k hk=>by
   obtain ⟨p,hp,rfl⟩:=zal.1 ((hmF k).1 hk);exact ⟨p,hp,rfl⟩
  have hv':∀p∈mem L w,∃k∈x::F',k.v=p.v:=fun p hp=>⟨_,(hmF _).2 (zal.2 ⟨p,hp,rfl⟩),rfl⟩
  have hc:∀k∈x::F',k.c=w:=fun k hk=>by
   obtain ⟨p,hp,rfl⟩:=zal.1 ((hmF k).1 hk)
   rfl
  have hs:=List.pairwise_cons.1 hsF
  have hlo:x.v=loV (mem L w):=by
   obtain ⟨p,hp,e⟩:=hv x (by simp);obtain ⟨q,hq,e2⟩:=l1;obtain ⟨k,hk,e3⟩:=hv' q hq;have g1:=l2 p hp;rcases zac.1 hk with rfl | hk'
   ·omega
   ·have:=ahs.1 (hs.1 k hk');have c1:=hc x (by simp);have c2:=hc k hk;omega
  obtain ⟨y,hy⟩:∃y,(x::F').getLast?=some y:=⟨(x::F').getLast (by simp),zbv (by simp)⟩
  have hym:y∈x::F':=List.mem_of_getLast? hy
  have hhi:y.v=hiV (mem L w):=by
   obtain ⟨p,hp,e⟩:=hv y hym;obtain ⟨q,hq,e2⟩:=u1;obtain ⟨k,hk,e3⟩:=hv' q hq;have g1:=u2 p hp
   obtain ⟨G,hG⟩:∃G,x::F'=G++[y]:=⟨(x::F').dropLast,by
    have e:=zbv (l:=x::F') (by simp);rw [hy] at e;rw [Option.some.inj e]
    exact (List.dropLast_concat_getLast (by simp)).symm⟩
   have hsG:=hsF;rw [hG] at hsG hk;rcases zab.1 hk with hk' | hk'
   ·have:=ahs.1 ((List.pairwise_append.1 hsG).2.2 k hk' y (by simp));have c1:=hc y hym;have c2:=hc k (by rw [hG]; simp [hk']);omega
   ·rw [zbn.1 hk'] at e3;omega
  rw [hy];simp only [Sa.mk.injEq,if_true,List.head?_cons,Option.map_some,Option.getD_some,hlo,hhi,hsum,hlen,true_and,Int.zero_add,and_true]
def aeb (L:List Pt) (w:Nat):AV:=if mem L w=[] then .tup [.r (Sa.rv ⟨0,0,0,0,0⟩),bl false] else .tup [.r (ams L w).rv,bl true]
theorem a9p (L:List Pt) (w:Nat):ar5 (ams L w)=aeb L w:=by
 unfold ar5 aeb ams;by_cases hM:mem L w=[]
 ·simp [hM]
 ·have:(mem L w).length≠0:=fun e=>hM (zbu.1 e);rw [if_neg hM,if_neg (by simp only; omega),if_neg hM]
theorem bho (L:List Pt) (w:Nat):a8 P0 38 [.ptr 1000000 0 0,int .u64 w] [.abs (sT L)] (aeb L w) [.abs (sT L)]:=by
 have:=a1j (P:=P0) (f:=38) (F:=SF L) (F':=SF L) rfl («as»:=[int .u64 w]) (res:=aeb L w) (ex:=[]) (fun os h=>by
  obtain ⟨es,c,ns,ce,cc,h,rfl⟩:=h;refine ⟨_,⟨_,_,_,_,_,h,rfl⟩,?_⟩;rw [List.append_nil,← a9p,← bcc h]
  exact bdy h w) rfl (by simp) (by unfold aeb; split<;>simp [v9,ft,dp,pq,Sa.rv])
 have e:∀F,imV F (aeb L w)=aeb L w:=fun F=>by unfold aeb; split<;>rfl
 rw [e] at this;exact this

def anm:Mk P0 f18:={ x:=_ }
theorem aqb:d5 18 1 anm:=c8 func18
def pts (l:List Pt):RV:=.sl 4 (l.map Pt.rv)
theorem azb {l:List Pt} {i:Nat} {p:Pt} (h:l[i]?=some p) (z:RV):(l.map Pt.rv).getD ((i:Int)).toNat z=.agg [.v (.int .i64 p.k),.v (.int .i64 p.x),.v (.int .i64 p.y),.v (.int .i64 p.v)]:=by
 simp [List.getD,h,Pt.rv]

def yr:Mk P0 f17:={ x:=_ }
theorem aec:d5 17 1 yr:=c8 func17
def xn (xs:List Int):RV:=.sl 1 (xs.map fun x=>.v (.int .i64 x))
theorem ai1 {xs:List Int} {i:Nat} {x:Int} (h:xs[i]?=some x) (z:RV):(xs.map fun x=>RV.v (.int .i64 x)).getD ((i:Int)).toNat z=.v (.int .i64 x):=by
 simp [List.getD,h]
def gPt (a b:Int) (l:List Pt):Pt:=match l.getLast? with
 | some p=>if a/1099511627776%4≠0 then ⟨l.length+1,min (p.x+a%1024) 1073741823,min (p.y+b%1024) 1073741823,b/1073741824%256-99⟩ else ⟨l.length+1,a%1073741824,b%1073741824,b/1073741824%256-99⟩
 | none=>⟨l.length+1,a%1073741824,b%1073741824,b/1073741824%256-99⟩
def jm:List Int→List Pt→List Pt
 | a::b::r,l=>if l.length<40 then jm r (l++[gPt a b l]) else l
 | _,l=>l
def GP (l:List Pt):Prop:=∀(j:Nat) (p:Pt),l[j]?=some p→p.k=(j:Int)+1∧p.ok
theorem bi9 (a b:Int) (l:List Pt):(gPt a b l).k=(l.length:Int)+1:=by
 unfold gPt;split
 ·split<;>rfl
 ·rfl
theorem bgw {a b:Int} {l:List Pt} (h:GP l) (hl:l.length<40):(gPt a b l).ok:=by
 unfold gPt;split
 ·rename_i p hp;rw [List.getLast?_eq_getElem?] at hp;have:=(h _ p hp).2.2.1;unfold inW at this;split
  ·refine ⟨by simp only; omega,?_,by simp only; omega⟩;simp only [inW];omega
  ·refine ⟨by simp only; omega,?_,by simp only; omega⟩;simp only [inW];omega
 ·refine ⟨by simp only; omega,?_,by simp only; omega⟩;simp only [inW];omega
theorem arl {a b:Int} {l:List Pt} (h:GP l) (hl:l.length<40):GP (l++[gPt a b l]):=by
 intro j p hp;rcases Nat.lt_trichotomy j l.length with hj | hj | hj
 ·rw [zar hj] at hp;exact h j p hp
 ·subst hj;rw [List.getElem?_append_right (zaf _),Nat.sub_self] at hp;simp at hp;subst hp;exact ⟨bi9 ..,bgw h hl⟩
 ·rw [List.getElem?_eq_none (by simp; omega)] at hp;cases hp
theorem m30 (a:Int):IntKind.i64.wrap ((zam IntKind.i64.bits a &&& zam IntKind.i64.bits 1073741823).toNat)=a%1073741824:=ajg a 1073741823 30 (by decide) (by decide)
theorem m8 (a:Int):IntKind.i64.wrap ((zam IntKind.i64.bits a &&& zam IntKind.i64.bits 255).toNat)=a%256:=ajg a 255 8 (by decide) (by decide)
theorem m2 (a:Int):IntKind.i64.wrap ((zam IntKind.i64.bits a &&& zam IntKind.i64.bits 3).toNat)=a%4:=ajg a 3 2 (by decide) (by decide)
theorem m10 (a:Int):IntKind.i64.wrap ((zam IntKind.i64.bits a &&& zam IntKind.i64.bits 1023).toNat)=a%1024:=ajg a 1023 10 (by decide) (by decide)
theorem a05 (b:Int):b.fdiv (2^min (Int.toNat 30) IntKind.i64.bits)=b/1073741824:=Int.fdiv_eq_ediv_of_nonneg b (by decide)
theorem a7m (b:Int):b.fdiv (2^min (Int.toNat 40) IntKind.i64.bits)=b/1099511627776:=Int.fdiv_eq_ediv_of_nonneg b (by decide)
theorem w99 (b:Int):IntKind.i64.wrap (b%256-99)=b%256-99:=a7 (by omega)
theorem gen_t (xs : List Int) (hx : ∀ x ∈ xs, -9223372036854775808 ≤ x ∧ x ≤ 9223372036854775807) {res : AV} {ro : List Ob}
    (hres:(jm xs []=[]∧res=.nils 4 (Pt.rv ⟨0,0,0,0⟩)∧ro=[])∨(jm xs []≠[]∧res=.own 1000000 0 0 (jm xs []).length∧ro=[.row 4 (Pt.rv ⟨0,0,0,0⟩) true true ((jm xs []).map Pt.rv)])) :
    a8 P0 17 [.r (xn xs)] [] res ro:=by
  refine aec rfl (by decide) ?_;have hml:100≤maxLen:=by decide
  simp only [yr,xn,push_cast,↓reduceIte,reduceCtorEq,zB,zE,zA,zS,zL,zD,zM]
  refine run_loop [(4,false),(0,false),(3,false)] (fun vs pos los=>∃(i:Nat) (acc:List Pt),i=2*acc.length∧i≤80∧GP acc∧jm xs []=jm (xs.drop i) acc∧(acc=[]∧vs=[int .i64 i,.r (xn xs),.nils 4 (Pt.rv ⟨0,0,0,0⟩)]∧pos=[]∧los=[] ∨
     acc≠[]∧vs=[int .i64 i,.r (xn xs),.own 2000000 0 0 acc.length]∧pos=[]∧los=[.row 4 (Pt.rv ⟨0,0,0,0⟩) true true (acc.map Pt.rv)]))
    (fun vs _ _=>match vs with | .r (.v (.int _ j))::_=>(80-j).toNat | _=>0) rfl ?_ ?_
  · simp only [xn,Pt.rv,push_cast,↓reduceIte,reduceCtorEq,zB,zE,zA,zS,zL,zD,zM];exact ⟨0,[],rfl,by omega,by simp [GP],rfl,.inl ⟨rfl,rfl⟩⟩
  · rintro vs pos los ⟨i,acc,hi,h80,hgp,hg,hcase⟩;have w1:IntKind.i64.wrap ((i:Int)+1)=(i:Int)+1:=a7 (by omega);have w2:IntKind.i64.wrap ((i:Int)+2)=(i:Int)+2:=a7 (by omega);rcases hcase with ⟨rfl,rfl,rfl,rfl⟩ | ⟨h0,rfl,rfl,rfl⟩
    · have hi':i=0:=hi;have hi0:decide ((i:Int)>0)=false:=by simp at hi ⊢; omega
      simp only [xn,Pt.rv,w1,w2,hi0,push_cast,↓reduceIte,reduceCtorEq,zB,zE,zA,zS,zL,zD,zM];refine c7 (fun h=>?_) (fun h=>?_)
      · have h8:i<80:=by
          simp at h;omega
        have h':i+1<xs.length:=by
          simp at h;omega
        obtain ⟨a,ha⟩:∃a,xs[i]?=some a:=⟨xs[i],by simp⟩
        obtain ⟨b,hb⟩:∃b,xs[i+1]?=some b:=⟨xs[i+1],by simp [h']⟩
        have ga:∀z,(xs.map fun x=>RV.v (.int .i64 x)).getD ((i:Int)).toNat z=.v (.int .i64 a):=ai1 ha;have gb:∀z,(xs.map fun x=>RV.v (.int .i64 x)).getD ((i:Int)+1).toNat z=.v (.int .i64 b):=fun z=>by simpa using ai1 hb z
        have d1:IntKind.i64.wrap (IntKind.i64.wrap ((i:Int).tdiv 2)+1)=1:=by simp at hi; subst hi; decide
        simp only [w1,w2,hi0,ga,gb,d1,m30,m8,a05,w99,push_cast,↓reduceIte,reduceCtorEq,zB,zE,zA,zS,zL,zD,zM]
        have hd:xs.drop i=a::b::xs.drop (i+2):=by
          rw [zao (by omega),(zaa.1 ha).2,zao h',(zaa.1 hb).2]
        repeat refine And.intro (by first | decide | omega | (simp +contextual; done) | kernel_rfl) ?_
        refine ⟨⟨i+2,[gPt a b []],by rw [show i=0 from hi]; rfl,by rw [show i=0 from hi]; decide,arl hgp (by decide),?_,.inr ⟨by simp,rfl,rfl⟩⟩,by omega⟩;rw [hg,hd,jm,if_pos (by simp)]
        rfl
      · have h':¬i+1<xs.length:=by
          intro h';simp at h;have:=h (by omega);omega
        have hgn:jm xs []=[]:=by
          rw [hg];have:i=0:=hi;subst this;rcases xs with _ | ⟨a,_ | ⟨b,r⟩⟩
          · rfl
          · rfl
          · simp at h'
        rcases hres with ⟨_,rfl,rfl⟩ | ⟨hn,_,_⟩
        · simp only [Pt.rv,push_cast,↓reduceIte,reduceCtorEq,zB,zE,zA,zS,zL,zD,zM]
        · exact absurd hgn hn
    · obtain ⟨q,hq⟩:∃q,acc.getLast?=some q:=⟨acc.getLast h0,zbv h0⟩
      have hp0:0<acc.length:=zbq.2 h0;have hi0:decide ((i:Int)>0)=true:=by simp; omega
      have hqa:acc[acc.length-1]?=some q:=by rw [← List.getLast?_eq_getElem?]; exact hq
      have lw:IntKind.i64.wrap ((acc.length:Int)-1)=((acc.length-1:Nat):Int):=by rw [a7 (by omega)]; omega
      have gq:∀z,(acc.map Pt.rv).getD (((acc.length-1:Nat):Int)).toNat z=.agg [.v (.int .i64 q.k),.v (.int .i64 q.x),.v (.int .i64 q.y),.v (.int .i64 q.v)]:=azb hqa;have gq':∀z,(acc.map Pt.rv).getD (0+(((acc.length-1:Nat):Int)).toNat) z=.agg [.v (.int .i64 q.k),.v (.int .i64 q.x),.v (.int .i64 q.y),.v (.int .i64 q.v)]:=fun z=>by rw [Nat.zero_add]; exact gq z
      simp only [xn,Pt.rv,w1,w2,hi0,lw,gq,gq',push_cast,↓reduceIte,reduceCtorEq,zB,zE,zA,zS,zL,zD,zM];refine c7 (fun h=>?_) (fun h=>?_)
      · have h8:i<80:=by
          simp at h;omega
        have h':i+1<xs.length:=by
          simp at h;omega
        obtain ⟨a,ha⟩:∃a,xs[i]?=some a:=⟨xs[i],by simp⟩
        obtain ⟨b,hb⟩:∃b,xs[i+1]?=some b:=⟨xs[i+1],by simp [h']⟩
        have ga:∀z,(xs.map fun x=>RV.v (.int .i64 x)).getD ((i:Int)).toNat z=.v (.int .i64 a):=ai1 ha;have gb:∀z,(xs.map fun x=>RV.v (.int .i64 x)).getD ((i:Int)+1).toNat z=.v (.int .i64 b):=fun z=>by simpa using ai1 hb z
        have d1:IntKind.i64.wrap (IntKind.i64.wrap ((i:Int).tdiv 2)+1)=acc.length+1:=by
          rw [show (i:Int).tdiv 2=acc.length by rw [hi]; simp,show IntKind.i64.wrap (acc.length:Int)=acc.length from a7 (by omega)];exact a7 (by omega)
        have hd:xs.drop i=a::b::xs.drop (i+2):=by
          rw [zao (by omega),(zaa.1 ha).2,zao h',(zaa.1 hb).2]
        simp only [w1,w2,hi0,ga,gb,d1,m30,m8,m2,a05,a7m,w99,push_cast,↓reduceIte,reduceCtorEq,zB,zE,zA,zS,zL,zD,zM]
        repeat refine And.intro (by first | decide | omega | (simp +contextual; done) | kernel_rfl) ?_
        have hq1:=(hgp _ q hqa).2.2.1;unfold inW at hq1;have wx:IntKind.i64.wrap (q.x+a%1024)=q.x+a%1024:=a7 (by omega);have wy:IntKind.i64.wrap (q.y+b%1024)=q.y+b%1024:=a7 (by omega);refine c7 (fun hc=>?_) (fun hc=>?_)
        · simp only [wx,wy,w1,w2,hi0,lw,gq,gq',ga,gb,d1,m30,m8,m2,m10,a05,a7m,w99,push_cast,↓reduceIte,reduceCtorEq,zB,zE,zA,zS,zL,zD,zM]
          repeat refine And.intro (by first | decide | omega | (simp +contextual; done) | kernel_rfl) ?_
          refine ⟨⟨i+2,acc++[gPt a b acc],by simp; omega,by omega,arl hgp (by omega),?_,.inr ⟨by simp,?_⟩⟩,by omega⟩
          · rw [hg,hd,jm,if_pos (by omega)]
          · have hcc:a/1099511627776%4≠0:=by simpa using hc
            simp [gPt,hq,hcc,Pt.rv]
        · simp only [w1,w2,hi0,lw,gq,gq',ga,gb,d1,m30,m8,m2,a05,a7m,w99,push_cast,↓reduceIte,reduceCtorEq,zB,zE,zA,zS,zL,zD,zM]
          repeat refine And.intro (by first | decide | omega | (simp +contextual; done) | kernel_rfl) ?_
          refine ⟨⟨i+2,acc++[gPt a b acc],by simp; omega,by omega,arl hgp (by omega),?_,.inr ⟨by simp,?_⟩⟩,by omega⟩
          · rw [hg,hd,jm,if_pos (by omega)]
          · have hcc:¬a/1099511627776%4≠0:=by simpa using hc
            simp [gPt,hq,hcc,Pt.rv]
      · have h':¬(i+1<xs.length∧i<80):=by
          rintro ⟨h1,h2⟩;simp at h;have:=h (by omega);omega
        have hgn:jm xs []=acc:=by
          rw [hg];rcases hx':xs.drop i with _ | ⟨a,_ | ⟨b,r⟩⟩
          · rfl
          · rfl
          · have:=congrArg List.length hx';simp at this;rw [jm,if_neg (by omega)]
        rcases hres with ⟨hn,_,_⟩ | ⟨_,rfl,rfl⟩
        · exact absurd (hgn.symm.trans hn) h0
        · rw [hgn];simp only [Pt.rv,push_cast,↓reduceIte,reduceCtorEq,zB,zE,zA,zS,zL,zD,zM]
theorem az6:∀(xs:List Int) (l:List Pt),GP l→GP (jm xs l)
 | [],l,h=>h
 | [_],l,h=>h
 | a::b::r,l,h=>by
  rw [jm];split
  ·exact az6 r _ (arl h (by assumption))
  ·exact h
theorem az5:∀(xs:List Int) (l:List Pt),l.length≤40→(jm xs l).length≤40
 | [],l,h=>h
 | [_],l,h=>h
 | a::b::r,l,h=>by
  rw [jm];split
  ·exact az5 r _ (by simp; omega)
  ·exact h
theorem a8a (xs:List Int) (hx:∀x∈xs,-9223372036854775808≤x∧x≤9223372036854775807) :
  a8 P0 17 [.r (xn xs)] [] (.own 1000000 0 0 (jm xs []).length) [.row 4 (Pt.rv ⟨0,0,0,0⟩) true true ((jm xs []).map Pt.rv)]:=by
 by_cases h:jm xs []=[]
 ·rw [h];exact asz (gen_t xs hx (.inl ⟨h,rfl,rfl⟩))
 ·exact gen_t xs hx (.inr ⟨h,rfl,rfl⟩)

theorem axr (L:List Pt) (w:Nat) (h:mem L w≠[]):a8 P0 38 [.ptr 1000000 0 0,int .u64 w] [.abs (sT L)] (.tup [.r (.agg [.v (.int .u64 w),.v (.int .i64 (mem L w).length),.v (.int .i64 (aeq (mem L w))),.v (.int .i64 (loV (mem L w))),.v (.int .i64 (hiV (mem L w)))]),bl true]) [.abs (sT L)]:=by
 have:=bho L w;unfold aeb ams at this;rw [if_neg h,if_neg h] at this;exact this

theorem a8y {p:Pt} (h:p.ok) {r:Nat} (hr:r<13) {w:Nat} (hw:ei w=r):inC w p=decide (p.w r=w):=by
 cases e:inC w p with
 | true=>
  obtain ⟨s,hs,e2⟩:=abl.1 e;have:=(Pt.w_res h hs).2.1;rw [e2,hw] at this;subst this;simp [e2]
 | false=>
  rw [eq_comm,decide_eq_false_iff_not];intro e2;rw [abl.2 ⟨r,hr,e2⟩] at e;cases e


end
end Go.Ev

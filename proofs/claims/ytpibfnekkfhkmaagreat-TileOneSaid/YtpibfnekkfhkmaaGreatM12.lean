import Derived.Test.YtpibfnekkfhkmaaGreatM11
open Go.Proofs.Tryz renaming prog → P0
open Go.Proofs.Tryz
open Nat renaming zero_add → zaa
open List renaming length_append → zab, mem_filter → zac, length_map → zad, mem_map → zae, mem_of_getElem? → zaf, length → zah, pairwise_iff_getElem → zaj, length_pos_iff → zak
open Int renaming toNat_natCast → zai
namespace Go.Ev
set_option maxRecDepth 100000
noncomputable section
open Go
set_option linter.unusedSectionVars false
set_option linter.unnecessarySimpa false
set_option linter.unusedSimpArgs false
set_option linter.unusedVariables false
theorem ayk {L:List Pt} {t:Til} (hti:tis t=true) (hf:fine t=false):apu (am L t)=true:=by
 unfold apu;refine List.all_eq_true.2 fun f hf'=>?_;obtain ⟨n,hn,rfl⟩:=zae.1 hf';exact decide_eq_true (ax9 hti hf (zac.1 hn).2)
theorem alv (L:List Pt) (t:Til):(am L t).length=(v3 L t).length:=by unfold am; rw [zad]
theorem acp {L:List Pt} {t:Til}:am L t=[]↔v3 L t=[]:=by unfold am; exact List.map_eq_nil_iff
theorem aln {l:List Fea} (h:∀f∈l,f.ring.length≤20):∀i,(ja l i).length≤1000*i
 | 0=>by simp [ja]
 | j+1=>by
  have:=aln h j;have h1:=kw 2 (je (l.getD j default).w (4*(j:Int)) (l.getD j default).ring);have h2:=agd (l.getD j default).w (4*(j:Int)) (l.getD j default).ring
  have h3:(l.getD j default).ring.length≤20:=by
   rw [List.getD_eq_getElem?_getD];cases e:l[j]? with
   | none=>exact Nat.zero_le _
   | some f=>exact h f (zaf e)
  rw [agt,zab];unfold fx;omega
theorem auo {L:List Pt} (hL:L.length≤40) {t:Til} (hti:tis t=true):(uk L t).length≤60000:=by
 have hr:0≤t.z∧t.z≤18∧0≤t.r∧t.r≤12∧0≤t.x∧t.x<2^t.z.toNat∧0≤t.y∧t.y<2^t.z.toNat:=by simpa [tis] using hti
 unfold uk
 have hl:(am L t).length≤40:=by
  have:=afw L t;rw [alv];omega
 have hk:∀f∈am L t,f.ring.length≤20:=fun f hf=>by
  obtain ⟨n,hn,rfl⟩:=zae.1 hf;exact atx t hr.2.2.2.1 _
 generalize am L t=l at *;split
 ·simp
 ·have h1:=aln hk l.length;have h2:=acb l l.length;have h3:=acm 4;have h4:=aga;have h5:=iz 5 4096;have h6:=kw 3 (aac++ja l l.length++ui 4++sr l l.length++u5 5 4096);unfold ak;simp only [zab] at h6;omega
theorem aqj {L:List Pt} (hL:L.length<50) (hok:∀p∈L,p.ok) {t:Til} (hti:tis t=true) (hf:fine t=false):rdT (uk L t)=some (am L t):=by
 unfold uk;by_cases hS:v3 L t=[]
 ·rw [if_pos hS,acp.2 hS];exact if_pos rfl
 ·rw [if_neg hS];have hne:am L t≠[]:=fun h=>hS (acp.1 h);have hl:(am L t).length≤100000:=by have:=afw L t; rw [alv]; omega
  have h1:=a0z hl (alw hL hok hti);rw [if_pos ⟨ayk hti hf,hne⟩] at h1
  have h0:ak (am L t)≠[]:=fun h=>by
   rw [h] at h1
   have:dt []=([],false):=aif fun m hm=>by
    have:m=[]:=by
     have h2:ar []=some []:=rfl;rw [h2] at hm
     injection hm with hm
     exact hm.symm
    rw [this]; decide
   rw [this] at h1;exact hne (congrArg Prod.fst h1).symm
  unfold rdT;rw [if_neg h0,h1,if_pos ⟨rfl,rfl⟩]
theorem bfs {p:Pt} (hp:p.ok) {t:Til} (hti:tis t=true) (hx:t.x*2^(30-t.z).toNat≤p.x∧p.x<(t.x+1)*2^(30-t.z).toNat) (hy:t.y*2^(30-t.z).toNat≤p.y∧p.y<(t.y+1)*2^(30-t.z).toNat):tw t ((p.w t.r.toNat:Nat):Int)=true:=by
 have hr:0≤t.z∧t.z≤18∧0≤t.r∧t.r≤12∧0≤t.x∧t.x<2^t.z.toNat∧0≤t.y∧t.y<2^t.z.toNat:=by simpa [tis] using hti
 have hk:=xi p.x p.y t.r.toNat hp.2.1.1 hp.2.1.2 (by omega);obtain ⟨c1,c2,c3,c4⟩:=xz t.r.toNat _ hk;have hz:ah (p.w t.r.toNat) t.r.toNat=i5 p.x p.y t.r.toNat:=by rw [show p.w t.r.toNat=ao t.r.toNat (i5 p.x p.y t.r.toNat) from rfl,c3]
 unfold tw;rw [zai,hz];unfold tch;exact a4u (awx p.x p.y t.r.toNat (by omega)) ⟨by omega,by omega⟩ ⟨by omega,by omega⟩
theorem a8e {p:Pt} (hp:p.ok) (z r:Int):tw (v4 p.x p.y z r) ((p.w (v4 p.x p.y z r).r.toNat:Nat):Int)=true:=by
 have hti:=avo p.x p.y z r;have hr:0≤(v4 p.x p.y z r).z∧(v4 p.x p.y z r).z≤18∧0≤(v4 p.x p.y z r).r∧(v4 p.x p.y z r).r≤12∧0≤(v4 p.x p.y z r).x∧(v4 p.x p.y z r).x<2^(v4 p.x p.y z r).z.toNat∧0≤(v4 p.x p.y z r).y∧(v4 p.x p.y z r).y<2^(v4 p.x p.y z r).z.toNat:=by simpa [tis] using hti
 have hx:(v4 p.x p.y z r).x=(p.x%1073741824)/2^(30-(v4 p.x p.y z r).z).toNat:=rfl;have hy:(v4 p.x p.y z r).y=(p.y%1073741824)/2^(30-(v4 p.x p.y z r).z).toNat:=rfl;have hw:=hp.2.1;unfold inW at hw;have m1:p.x%1073741824=p.x:=Int.emod_eq_of_lt (by omega) (by omega);have m2:p.y%1073741824=p.y:=Int.emod_eq_of_lt (by omega) (by omega);rw [m1] at hx;rw [m2] at hy;refine bfs hp hti ?_ ?_<;>generalize v4 p.x p.y z r=t at *
 ·have hs:=yg (show 0≤t.z∧t.z≤18 by omega);generalize (2:Int)^(30-t.z).toNat=s at *;have q1:=Int.mul_ediv_add_emod p.x s;have q2:=Int.emod_nonneg p.x (show s≠0 by omega);have q3:=Int.emod_lt_of_pos p.x (show 0<s by omega);rw [← hx,Int.mul_comm] at q1;rw [Int.add_mul,Int.one_mul];omega
 ·have hs:=yg (show 0≤t.z∧t.z≤18 by omega);generalize (2:Int)^(30-t.z).toNat=s at *;have q1:=Int.mul_ediv_add_emod p.y s;have q2:=Int.emod_nonneg p.y (show s≠0 by omega);have q3:=Int.emod_lt_of_pos p.y (show 0<s by omega);rw [← hy,Int.mul_comm] at q1;rw [Int.add_mul,Int.one_mul];omega
theorem a4v {L:List Pt} {p:Pt} (h:p∈L) (hp:p.ok) (z r:Int):((p.w (v4 p.x p.y z r).r.toNat:Nat):Int)∈v3 L (v4 p.x p.y z r):=
 zac.2 ⟨ajc.2 ⟨p,h,rfl⟩,a8e hp z r⟩

abbrev vw (L:List Pt):Ob:=.row 4 (.agg [.v (.int .i64 0),.v (.int .i64 0),.v (.int .i64 0),.v (.int .i64 0)]) true true (L.map Pt.rv)
theorem a83 {L:List Pt} (h:GP L):(L.map (·.k)).Nodup:=by
 rw [List.nodup_iff_pairwise_ne,List.pairwise_map];refine zaj.2 fun i j hi hj hij=>?_;have h1:=(h i _ (List.getElem?_eq_getElem hi)).1;have h2:=(h j _ (List.getElem?_eq_getElem hj)).1;omega
theorem bdj {F:List Fea} {i:Nat} {f:Fea} (h:F[i]?=some f) (z:RV):(F.map Fea.rv).getD i z=.agg [.v (.int .u64 f.w),.sl 2 (f.ring.map ptR),.v (.int .i64 f.c),.v (.int .i64 f.s),.v (.int .i64 f.lo),.v (.int .i64 f.hi)]:=by
 rw [List.getD_eq_getElem?_getD,List.getElem?_map,h]; rfl

theorem a20 {l:List Int} {w:Int} (hn:l.Nodup) (h:∀n,n∈l↔n=w):l=[w]:=by
 cases l with
 | nil=>have:=(h w).2 rfl; simp at this
 | cons a r=>
  have ha:a=w:=(h a).1 (by simp);subst ha;cases r with
  | nil=>rfl
  | cons b r=>
   have hb:b=a:=(h b).1 (by simp);rw [List.nodup_cons] at hn;exact absurd (by simp [hb]) hn.1
theorem a5b {L:List Pt} {w:Nat} {p:Pt} (h:p∈mem L w):p∈L:=(zac.1 h).1
theorem bcz (L:List Pt) (w:Nat):mem (mem L w) w=mem L w:=by unfold mem; rw [List.filter_filter]; simp
theorem a42 {L:List Pt} (hok:∀p∈L,p.ok) {r:Nat} (hr:r<13) {w:Nat} (hw:∃p∈L,p.w r=w):ae (mem L w) r=[(w:Int)]:=by
 refine a20 (axq _ _) fun n=>?_;rw [ajc];have hm:=bcy hok hr hw;constructor
 ·rintro ⟨p,hp,rfl⟩;rw [hm] at hp;have:=(zac.1 hp).2;simpa using this
 ·rintro rfl;obtain ⟨p,hp,e⟩:=hw;refine ⟨p,?_,by rw [e]⟩;rw [hm];exact zac.2 ⟨hp,by simp [e]⟩
theorem a41 {L:List Pt} (hok:∀p∈L,p.ok) {t:Til} (hr:t.r.toNat<13) {n:Int} (hn:n∈v3 L t):am (mem L n.toNat) t=[x6 L t n]∧mem L n.toNat≠[]:=by
 obtain ⟨h1,h2⟩:=zac.1 hn;obtain ⟨p,hp,rfl⟩:=ajc.1 h1;rw [zai];have hc:=a42 hok hr ⟨p,hp,rfl⟩
 have hs:v3 (mem L (p.w t.r.toNat)) t=[((p.w t.r.toNat:Nat):Int)]:=by
  unfold v3;rw [hc,List.filter_cons_of_pos h2]
  rfl
 refine ⟨?_,amc hp hr⟩;unfold am;rw [hs];show [x6 (mem L (p.w t.r.toNat)) t _] = _;unfold x6;rw [zai,bcz]
theorem bc2 {L:List Pt} (h:(L.map (·.k)).Nodup) {p q:Pt} (hp:p∈L) (hq:q∈L) (e:p.k=q.k):p=q:=by
 obtain ⟨i,hi,rfl⟩:=List.mem_iff_getElem.1 hp;obtain ⟨j,hj,rfl⟩:=List.mem_iff_getElem.1 hq;have:=(List.nodup_iff_pairwise_ne.1 h)
 rw [List.pairwise_map] at this
 have hij:i=j:=by
  rcases Nat.lt_trichotomy i j with h | h | h
  ·exact absurd e ((zaj.1 this) i j hi hj h)
  ·exact h
  ·exact absurd e.symm ((zaj.1 this) j i hj hi h)
 subst hij
 rfl
theorem av3 {L:List Pt} {w:Nat} {k:Int}:k∈xf L w↔∃p∈mem L w,p.k=k:=by
 unfold xf zy;rw [zae];constructor
 ·rintro ⟨a,ha,rfl⟩;rw [List.mem_mergeSort,zae] at ha;obtain ⟨p,hp,rfl⟩:=ha;exact ⟨p,hp,rfl⟩
 ·rintro ⟨p,hp,rfl⟩;exact ⟨_,List.mem_mergeSort.2 (zae.2 ⟨p,hp,rfl⟩),rfl⟩
theorem a1h {L:List Pt} (h:(L.map (·.k)).Nodup) (w:Nat):(xf L w).Nodup:=by
 unfold xf;refine (((List.mergeSort_perm (zy L w) leK).map (·.d)).nodup_iff).2 ?_;unfold zy;rw [List.map_map];have:((mem L w).map (·.k)).Sublist (L.map (·.k)):=List.filter_sublist.map _;exact this.nodup h
def occ (ks:List Int) (q:Pt):List Pt:=(ks.filter (· == q.k)).map fun _=>q
theorem awe {ks:List Int} {j:Nat} {x:Int} (h:ks[j]?=some x) (q:Pt):occ (ks.take (j+1)) q=occ (ks.take j) q++(if x=q.k then [q] else []):=by
 unfold occ;rw [List.take_add_one,h];simp only [Option.toList_some,List.filter_append,List.map_append];congr 1;by_cases hx:x=q.k<;>simp [hx]
theorem a88 {ks:List Int} (hn:ks.Nodup) (k:Int):ks.filter (· == k)=if k∈ks then [k] else []:=by
  induction ks with
  | nil=>rfl
  | cons a r ih=>
    rw [List.nodup_cons] at hn;rw [List.filter_cons,ih hn.2];by_cases ha:a=k
    · subst ha;simp [hn.1]
    · simp [ha,show ¬k=a from fun e=>ha e.symm]
theorem bct {L:List Pt} (h:(L.map (·.k)).Nodup) {w:Nat} {q:Pt} (hq:q∈L):occ (xf L w) q=if q∈mem L w then [q] else []:=by
 unfold occ;rw [a88 (a1h h w)];by_cases hm:q∈mem L w
 ·rw [if_pos (av3.2 ⟨q,hm,rfl⟩),if_pos hm]; rfl
 ·have:¬q.k∈xf L w:=fun hk=>by
   obtain ⟨p,hp,e⟩:=av3.1 hk;exact hm (by rw [← bc2 h (a5b hp) hq e]; exact hp)
  rw [if_neg this,if_neg hm]; rfl
theorem a8o {L:List Pt} {w:Nat} {i:Nat} {q:Pt} (h:L[i]?=some q):mem (L.take (i+1)) w=mem (L.take i) w++(if q∈mem L w then [q] else []):=by
 have hq:q∈L:=zaf h;unfold mem;rw [List.take_add_one,h];simp only [Option.toList_some,List.filter_append,zac,hq,true_and];congr 1;rw [List.filter_cons]
 rfl
theorem azu (L:List Pt) (w:Nat):(mem L w).length≤L.length:=List.length_filter_le ..
theorem azj (ks:List Int) (q:Pt):(occ ks q).length≤ks.length:=by unfold occ; rw [zad]; exact List.length_filter_le ..

def wu:Mk P0 f9:={ x:=_ }
theorem ade:d5 9 3 wu:=c8 func9
def z4:RV:=.agg [.v (.int .i64 0),.v (.int .i64 0),.v (.int .i64 0),.v (.int .i64 0)]
abbrev gj (l:List Int):Ob:=.row 1 (.v (.int .i64 0)) true true (ids l)
set_option maxHeartbeats 8000000 in
theorem tone_t (xs : List Int) (hx : ∀ x ∈ xs, -9223372036854775808 ≤ x ∧ x ≤ 9223372036854775807) (z r : Int) (hz : in64 z) (hr : in64 r) :
    a8 P0 9 [.r (xn xs),int .i64 z,int .i64 r] [] (bl true) []:=by
  refine ade rfl (by decide) ?_;have hmx:=j7;have hgp:GP (jm xs []):=az6 xs [] (by simp [GP]);have hle:=az5 xs [] (by decide);have hPt:=a8a xs hx
  push_cast [wu,xn,zad,List.length_nil]
  refine b9 (as':=[.r (xn xs)]) rfl ?_;refine a5 hPt rfl trivial ?_;generalize hG:jm xs []=L at *;have hlen0:L.length≤40:=hle
  have hok:∀p∈L,p.ok:=fun p hp=>by
    obtain ⟨j,hj⟩:=List.getElem?_of_mem hp;exact (hgp j p hj).2
  have hnd:=a83 hgp;have hO:=a1m L (by omega) hok hnd
  push_cast [Pt.rv,xn,zad]
  by_cases h0:L=[]
  · have e0:((L.length:Int) == 0)=true:=by simp [h0]
    push_cast [e0,xn,zad]
    refine a5 al7 rfl trivial ?_
    push_cast
  have e0:((L.length:Int) == 0)=false:=by simp [h0]
  by_cases h60:xs.length>30
  · have e1:decide ((xs.length:Int)>30)=true:=by simp; omega
    push_cast [e0,e1,xn,zad]
    refine a5 al7 rfl trivial ?_
    push_cast
  have e1:decide ((xs.length:Int)>30)=false:=by simp; omega
  push_cast [e0,e1,xn,zad]
  obtain ⟨q,hq⟩:∃q,L[0]?=some q:=⟨L[0]'(zak.2 h0),by simp [zak.2 h0]⟩
  have gq:∀z,(L.map Pt.rv).getD 0 z=.agg [.v (.int .i64 q.k),.v (.int .i64 q.x),.v (.int .i64 q.y),.v (.int .i64 q.v)]:=fun z=>by simp [List.getD,hq,Pt.rv]
  have hll:=zak.2 h0;have hqm:q∈L:=zaf hq;have hqo:=hok q hqm
  have hqx:in64 q.x∧in64 q.y:=by
    have:=hqo.2.1;unfold inW at this;unfold in64;omega
  have hT:=bew q.x q.y z r hqx.1 hqx.2 hz hr;have hti:=avo q.x q.y z r;have hfi:=bdg q.x q.y z r;have hOS:=a4v hqm hqo z r;generalize v4 q.x q.y z r=t at *;have hto:=a3k hti;have hS1:v3 L t≠[]:=List.ne_nil_of_mem hOS;have hD1:=draw_t L (by omega) hok t hto hti hfi (.inr ⟨hS1,rfl,rfl⟩);have hrt1:=asf (uk L t) (by have:=auo hlen0 (t:=t) hti; omega);have hrr1:=aou (m:=am L t) (fun h=>hS1 (acp.1 h));rw [aqj (by omega) hok hti hfi,hrr1.1,hrr1.2] at hrt1
  push_cast [Int.toNat_zero,zaa,gq]
  repeat refine And.intro (by first | decide | omega | exact fun _=>by decide | (simp +contextual; done) | kernel_rfl) ?_
  refine d9 hT rfl trivial ?_
  push_cast [Til.v]
  repeat refine And.intro (by first | decide | omega | exact fun _=>by decide | (simp +contextual; done) | kernel_rfl) ?_
  refine art hO rfl trivial (by simp [v9]) (by simp [ea]) ?_
  push_cast
  refine u6 (as':=[t.v,.ptr 1000000 0 0]) rfl ?_;refine d9 hD1 rfl ⟨rfl,trivial⟩ ?_;have hFl:=alv L t
  have hFo:∀(i:Nat) (f:Fea),(am L t)[i]?=some f→∃n∈v3 L t,f=x6 L t n:=fun i f h=>by
    obtain ⟨n,hn,e⟩:=zae.1 (zaf h);exact ⟨n,hn,e.symm⟩
  have hFk:=alw (L:=L) (show L.length<50 by omega) hok hti;have hSl:=afw L t;have hF0:(am L t).length≠0:=fun e=>hS1 (acp.1 (List.length_eq_zero_iff.1 e));have hoc:=fun (w:Nat) (q:Pt) (hq:q∈L)=>bct hnd (w:=w) hq;generalize hFF:am L t=F at *;generalize hDD:uk L t=D at *;have f00:((0:Int) != 0)=false:=rfl;have l00:((F.length:Int) == 0)=false:=beq_eq_false_iff_ne.2 (by omega)
  push_cast
  repeat refine And.intro (by first | decide | omega | exact fun _=>by decide | (simp +contextual; done) | kernel_rfl) ?_
  refine m0 ?_;refine b9 (as':=[sb D]) rfl ?_;refine a5 hrt1 rfl trivial ?_
  push_cast [n7,f00,l00]
  refine run_loop [(13,false),(11,false),(7,false),(8,false)] (fun vs pos los=>∃i:Nat,i≤F.length∧vs=[int .i64 i,.own 2000000 0 0 F.length,.own 2000001 0 0 L.length,.ptr 2000002 0 0]∧pos=[]∧los=[n7 F,vw L,.box [int .i64 t.z,int .i64 t.x,int .i64 t.y,int .i64 t.r]]) (fun vs _ _=>match vs with | .r (.v (.int _ j))::_=>(F.length-j).toNat | _=>0) rfl ?_ ?_
  · push_cast [n7]
    exact ⟨0,by omega,by simp⟩
  · rintro vs pos los ⟨i,hi,rfl,rfl,rfl⟩;obtain ⟨I,hI⟩:∃I:Int,(i:Int)=I:=⟨_,rfl⟩
    rw [hI];have hI0:0≤I:=by omega
    have iT:I.toNat=i:=by omega
    push_cast [n7]
    refine c7 (fun hd=>?_) (fun hd=>?_)
    · have hd:=of_decide_eq_true hd;obtain ⟨f,hf⟩:∃f,F[i]?=some f:=⟨F[i]'(by omega),by simp [show i<F.length by omega]⟩
      have hg:=bdj hf;obtain ⟨n,hn,hfe⟩:=hFo i f hf
      obtain ⟨w,hw⟩:∃w:Nat,n=(w:Int):=by
        obtain ⟨p,_,e⟩:=aop hn;exact ⟨_,e⟩
      subst hw;have hb8:0≤t.z∧t.z≤18∧0≤t.r∧t.r≤12∧0≤t.x∧t.x<2^t.z.toNat∧0≤t.y∧t.y<2^t.z.toNat:=by simpa [tis] using hti
      obtain ⟨o1,o2⟩:=a41 hok (show t.r.toNat<13 by omega) hn;rw [zai] at o1 o2;rw [← hfe] at o1;have hfw:f.w=(w:Int):=by rw [hfe]; rfl
      rw [hfw] at hg;have hMl:=azu L w;have hMok:∀p∈mem L w,p.ok:=fun p hp=>hok p (a5b hp);have hMnd:((mem L w).map (·.k)).Nodup:=(List.filter_sublist.map _).nodup hnd;have hMO:=a1m (mem L w) (by omega) hMok hMnd;have hMS:v3 (mem L w) t≠[]:=fun e=>by rw [acp.2 e] at o1; cases o1
      have hMD:=draw_t (mem L w) (by omega) hMok t hto hti hfi (.inr ⟨hMS,rfl,rfl⟩);have hMr:=asf (uk (mem L w) t) (by have:=auo (L:=mem L w) (by omega) (t:=t) hti; omega);rw [aqj (by omega) hMok hti hfi,o1] at hMr;have hPA:=bik L w o2;have hPl:=av4 L w;have hSF:=bcb [f] (by simp) (fun g hgm=>by rw [List.mem_singleton.1 hgm]; exact hFk f (zaf hf));have hocw:=hoc w;have wi:IntKind.i64.wrap (I+1)=I+1:=a7 (by omega);generalize hKS:xf L w=KS at *;generalize hDM:uk (mem L w) t=DM at *
      push_cast
      refine ku ?_
      push_cast
      refine nj hO rfl trivial (by simp [v9]) (by simp [ea]) ?_
      push_cast [iT,zaa,hg]
      repeat refine And.intro (by first | decide | omega | exact fun _=>by decide | (simp +contextual; done) | kernel_rfl) ?_
      refine b9 (as':=[.ptr 1000000 0 0,int .u64 w]) rfl ?_;refine a5 hPA rfl ⟨rfl,trivial⟩ ?_
      push_cast [z64]
      refine run_loop [(17, false), (7, false), (16, false), (8, false), (11, false), (13, false), (14, false)] (fun vs pos los => ∃ k : Nat, k ≤ L.length ∧ pos = [] ∧
          ((mem (L.take k) w=[]∧vs=[int .i64 k,.own 2000000 0 0 L.length,.own 2000001 0 0 KS.length,.ptr 2000002 0 0,.own 2000003 0 0 F.length,int .i64 I,.nils 4 z4]∧los=[vw L,gj KS,.box [int .i64 t.z,int .i64 t.x,int .i64 t.y,int .i64 t.r],n7 F]) ∨
           (mem (L.take k) w≠[]∧vs=[int .i64 k,.own 2000000 0 0 L.length,.own 2000001 0 0 KS.length,.ptr 2000002 0 0,.own 2000003 0 0 F.length,int .i64 I,.own 2000004 0 0 (mem (L.take k) w).length]∧los=[vw L,gj KS,.box [int .i64 t.z,int .i64 t.x,int .i64 t.y,int .i64 t.r],n7 F,vw (mem (L.take k) w)])))
        (fun vs _ _=>match vs with | .r (.v (.int _ j))::_=>(L.length-j).toNat | _=>0) rfl ?_ ?_
      · push_cast [n7,z4,gj]
        exact ⟨0,by omega,.inl ⟨rfl,by simp⟩⟩
      · clear hO hPA hT hrt1 hD1;rintro vs pos los ⟨k,hk,rfl,hcase⟩;obtain ⟨K,hK⟩:∃K:Int,(k:Int)=K:=⟨_,rfl⟩
        rw [hK] at hcase;have hK0:0≤K:=by omega
        have kT:K.toNat=k:=by omega
        have wk:IntKind.i64.wrap (K+1)=K+1:=a7 (by omega);by_cases hkl:k<L.length
        · have dk:decide (K<(L.length:Int))=true:=decide_eq_true (by omega);obtain ⟨p,hp⟩:∃p,L[k]?=some p:=⟨L[k],by simp [hkl]⟩
          have gp:∀z,(L.map Pt.rv).getD k z=.agg [.v (.int .i64 p.k),.v (.int .i64 p.x),.v (.int .i64 p.y),.v (.int .i64 p.v)]:=fun z=>by simp [List.getD,hp,Pt.rv]
          have hmt:=a8o (w:=w) hp;rw [← hocw p (zaf hp)] at hmt
          have hOl:(mem (L.take k) w).length≤40:=by
            have:=azu (L.take k) w;rw [List.length_take] at this;omega
          generalize hOO:mem (L.take k) w=O at *;rcases hcase with ⟨hA,rfl,rfl⟩ | ⟨hA,rfl,rfl⟩
          · push_cast [n7,gj,z4,dk]
            refine run_loop [(18, false), (16, false), (7, false), (17, false), (8, false), (11, false), (13, false), (14, false)] (fun vs pos los => ∃ j : Nat, j ≤ KS.length ∧ pos = [] ∧
                ((O++occ (KS.take j) p=[]∧vs=[int .i64 j,.own 2000000 0 0 KS.length,.own 2000001 0 0 L.length,int .i64 K,.ptr 2000002 0 0,.own 2000003 0 0 F.length,int .i64 I,.nils 4 z4]∧los=[gj KS,vw L,.box [int .i64 t.z,int .i64 t.x,int .i64 t.y,int .i64 t.r],n7 F]) ∨
                 (O++occ (KS.take j) p≠[]∧vs=[int .i64 j,.own 2000000 0 0 KS.length,.own 2000001 0 0 L.length,int .i64 K,.ptr 2000002 0 0,.own 2000003 0 0 F.length,int .i64 I,.own 2000004 0 0 (O++occ (KS.take j) p).length]∧los=[gj KS,vw L,.box [int .i64 t.z,int .i64 t.x,int .i64 t.y,int .i64 t.r],n7 F,vw (O++occ (KS.take j) p)])))
              (fun vs _ _=>match vs with | .r (.v (.int _ j))::_=>(KS.length-j).toNat | _=>0) rfl ?_ ?_
            · push_cast [n7,gj,z4]
              exact ⟨0,by omega,.inl ⟨by simp [hA,occ],by simp⟩⟩
            · clear hA;rintro vs pos los ⟨j,hj,rfl,hc⟩;obtain ⟨J,hJ⟩:∃J:Int,(j:Int)=J:=⟨_,rfl⟩
              rw [hJ] at hc;have hJ0:0≤J:=by omega
              have jT:J.toNat=j:=by omega
              have wj:IntKind.i64.wrap (J+1)=J+1:=a7 (by omega);have hocl:=azj (KS.take j) p;by_cases hjl:j<KS.length
              · have dj:decide (J<(KS.length:Int))=true:=decide_eq_true (by omega);obtain ⟨x,hx'⟩:∃x,KS[j]?=some x:=⟨KS[j],by simp [hjl]⟩
                have gx:∀z,(ids KS).getD j z=.v (.int .i64 x):=fun z=>by simp [ids,List.getD,hx']
                have hos:=awe hx' p;rw [List.length_take] at hocl;have hAl:(O++occ (KS.take j) p).length≤90:=by rw [zab]; omega
                have hos':O++occ (KS.take (j+1)) p=(O++occ (KS.take j) p)++(if x=p.k then [p] else []):=by rw [hos,List.append_assoc]
                generalize O++occ (KS.take j) p=A at *;by_cases hxk:x=p.k
                · have ex:(x == p.k)=true:=by simp [hxk]
                  rw [if_pos hxk] at hos';rcases hc with ⟨hA,rfl,rfl⟩ | ⟨hA,rfl,rfl⟩
                  · push_cast [n7,gj,z4,dj,jT,kT,zaa,gx,gp,ex,wj]
                    repeat refine And.intro (by first | decide | omega | exact fun _=>by decide | (simp +contextual; done) | kernel_rfl) ?_
                    refine ⟨⟨j+1,by omega,.inr ?_⟩,by omega⟩;have hosl:=congrArg zah hos';rw [zab,hA] at hosl;rw [hos',hA];exact ⟨by simp,by simp [hJ,Pt.rv]; simp at hosl; omega⟩
                  · push_cast [n7,gj,z4,dj,jT,kT,zaa,gx,gp,ex,wj]
                    repeat refine And.intro (by first | decide | omega | exact fun _=>by decide | (simp +contextual; done) | kernel_rfl) ?_
                    refine ⟨⟨j+1,by omega,.inr ?_⟩,by omega⟩;have hosl:=congrArg zah hos';rw [zab] at hosl;rw [hos'];exact ⟨by simp,by simp [hJ,Pt.rv]; simp at hosl; omega⟩
                · have ex:(x == p.k)=false:=by simp [hxk]
                  rw [if_neg hxk,List.append_nil] at hos';rcases hc with ⟨hA,rfl,rfl⟩ | ⟨hA,rfl,rfl⟩
                  · push_cast [n7,gj,z4,dj,jT,kT,zaa,gx,gp,ex,wj]
                    repeat refine And.intro (by first | decide | omega | exact fun _=>by decide | (simp +contextual; done) | kernel_rfl) ?_
                    refine ⟨⟨j+1,by omega,.inl ?_⟩,by omega⟩;rw [hos'];exact ⟨hA,by simp [hJ]⟩
                  · push_cast [n7,gj,z4,dj,jT,kT,zaa,gx,gp,ex,wj]
                    repeat refine And.intro (by first | decide | omega | exact fun _=>by decide | (simp +contextual; done) | kernel_rfl) ?_
                    refine ⟨⟨j+1,by omega,.inr ?_⟩,by omega⟩;have hosl:=congrArg zah hos';rw [zab] at hosl;rw [hos'];exact ⟨hA,by simp [hJ]; omega⟩
              · have dj:decide (J<(KS.length:Int))=false:=decide_eq_false (by omega);obtain rfl:j=KS.length:=by omega
                rw [List.take_length,← hmt] at hc;rcases hc with ⟨hA,rfl,rfl⟩ | ⟨hA,rfl,rfl⟩
                · push_cast [n7,gj,z4,dj,wk]
                  exact ⟨⟨k+1,by omega,.inl ⟨hA,by simp [hK]⟩⟩,by omega⟩
                · push_cast [n7,gj,z4,dj,wk]
                  exact ⟨⟨k+1,by omega,.inr ⟨hA,by simp [hK]⟩⟩,by omega⟩
          · push_cast [n7,gj,z4,dk]
            refine run_loop [(18, false), (16, false), (7, false), (17, false), (8, false), (11, false), (13, false), (14, false)] (fun vs pos los => ∃ j : Nat, j ≤ KS.length ∧ pos = [] ∧
                ((O++occ (KS.take j) p=[]∧vs=[int .i64 j,.own 2000000 0 0 KS.length,.own 2000001 0 0 L.length,int .i64 K,.ptr 2000002 0 0,.own 2000003 0 0 F.length,int .i64 I,.nils 4 z4]∧los=[gj KS,vw L,.box [int .i64 t.z,int .i64 t.x,int .i64 t.y,int .i64 t.r],n7 F]) ∨
                 (O++occ (KS.take j) p≠[]∧vs=[int .i64 j,.own 2000000 0 0 KS.length,.own 2000001 0 0 L.length,int .i64 K,.ptr 2000002 0 0,.own 2000003 0 0 F.length,int .i64 I,.own 2000004 0 0 (O++occ (KS.take j) p).length]∧los=[gj KS,vw L,.box [int .i64 t.z,int .i64 t.x,int .i64 t.y,int .i64 t.r],n7 F,vw (O++occ (KS.take j) p)])))
              (fun vs _ _=>match vs with | .r (.v (.int _ j))::_=>(KS.length-j).toNat | _=>0) rfl ?_ ?_
            · push_cast [n7,gj,z4]
              exact ⟨0,by omega,.inr ⟨by simp [hA,occ],by simp [occ]⟩⟩
            · clear hA;rintro vs pos los ⟨j,hj,rfl,hc⟩;obtain ⟨J,hJ⟩:∃J:Int,(j:Int)=J:=⟨_,rfl⟩
              rw [hJ] at hc;have hJ0:0≤J:=by omega
              have jT:J.toNat=j:=by omega
              have wj:IntKind.i64.wrap (J+1)=J+1:=a7 (by omega);have hocl:=azj (KS.take j) p;by_cases hjl:j<KS.length
              · have dj:decide (J<(KS.length:Int))=true:=decide_eq_true (by omega);obtain ⟨x,hx'⟩:∃x,KS[j]?=some x:=⟨KS[j],by simp [hjl]⟩
                have gx:∀z,(ids KS).getD j z=.v (.int .i64 x):=fun z=>by simp [ids,List.getD,hx']
                have hos:=awe hx' p;rw [List.length_take] at hocl;have hAl:(O++occ (KS.take j) p).length≤90:=by rw [zab]; omega
                have hos':O++occ (KS.take (j+1)) p=(O++occ (KS.take j) p)++(if x=p.k then [p] else []):=by rw [hos,List.append_assoc]
                generalize O++occ (KS.take j) p=A at *;by_cases hxk:x=p.k
                · have ex:(x == p.k)=true:=by simp [hxk]
                  rw [if_pos hxk] at hos';rcases hc with ⟨hA,rfl,rfl⟩ | ⟨hA,rfl,rfl⟩
                  · push_cast [n7,gj,z4,dj,jT,kT,zaa,gx,gp,ex,wj]
                    repeat refine And.intro (by first | decide | omega | exact fun _=>by decide | (simp +contextual; done) | kernel_rfl) ?_
                    refine ⟨⟨j+1,by omega,.inr ?_⟩,by omega⟩;have hosl:=congrArg zah hos';rw [zab,hA] at hosl;rw [hos',hA];exact ⟨by simp,by simp [hJ,Pt.rv]; simp at hosl; omega⟩
                  · push_cast [n7,gj,z4,dj,jT,kT,zaa,gx,gp,ex,wj]
                    repeat refine And.intro (by first | decide | omega | exact fun _=>by decide | (simp +contextual; done) | kernel_rfl) ?_
                    refine ⟨⟨j+1,by omega,.inr ?_⟩,by omega⟩;have hosl:=congrArg zah hos';rw [zab] at hosl;rw [hos'];exact ⟨by simp,by simp [hJ,Pt.rv]; simp at hosl; omega⟩
                · have ex:(x == p.k)=false:=by simp [hxk]
                  rw [if_neg hxk,List.append_nil] at hos';rcases hc with ⟨hA,rfl,rfl⟩ | ⟨hA,rfl,rfl⟩
                  · push_cast [n7,gj,z4,dj,jT,kT,zaa,gx,gp,ex,wj]
                    repeat refine And.intro (by first | decide | omega | exact fun _=>by decide | (simp +contextual; done) | kernel_rfl) ?_
                    refine ⟨⟨j+1,by omega,.inl ?_⟩,by omega⟩;rw [hos'];exact ⟨hA,by simp [hJ]⟩
                  · push_cast [n7,gj,z4,dj,jT,kT,zaa,gx,gp,ex,wj]
                    repeat refine And.intro (by first | decide | omega | exact fun _=>by decide | (simp +contextual; done) | kernel_rfl) ?_
                    refine ⟨⟨j+1,by omega,.inr ?_⟩,by omega⟩;have hosl:=congrArg zah hos';rw [zab] at hosl;rw [hos'];exact ⟨hA,by simp [hJ]; omega⟩
              · have dj:decide (J<(KS.length:Int))=false:=decide_eq_false (by omega);obtain rfl:j=KS.length:=by omega
                rw [List.take_length,← hmt] at hc;rcases hc with ⟨hA,rfl,rfl⟩ | ⟨hA,rfl,rfl⟩
                · push_cast [n7,gj,z4,dj,wk]
                  exact ⟨⟨k+1,by omega,.inl ⟨hA,by simp [hK]⟩⟩,by omega⟩
                · push_cast [n7,gj,z4,dj,wk]
                  exact ⟨⟨k+1,by omega,.inr ⟨hA,by simp [hK]⟩⟩,by omega⟩
        · have dk:decide (K<(L.length:Int))=false:=decide_eq_false (by omega);obtain rfl:k=L.length:=by omega
          rw [List.take_length] at hcase;rcases hcase with ⟨hA,_⟩ | ⟨hA,rfl,rfl⟩
          · exact absurd hA o2
          · push_cast [n7,gj,dk]
            refine art hMO rfl trivial (by simp [v9]) (by simp [ea]) ?_
            push_cast
            refine u6 (as':=[t.v,.ptr 1000000 0 0]) rfl ?_;refine d9 hMD rfl ⟨rfl,trivial⟩ ?_
            push_cast
            repeat refine And.intro (by first | decide | omega | exact fun _=>by decide | (simp +contextual; done) | kernel_rfl) ?_
            refine m0 ?_;refine b9 (as':=[sb DM]) rfl ?_;refine a5 hMr rfl trivial ?_
            push_cast [rdR,rdO,n7,f00,wi,List.map_cons,List.map_nil,List.length_cons,List.length_nil]
            refine And.intro (by omega) ?_;refine ku ?_
            push_cast
            have hsub:List.take (I+1-I).toNat (List.drop (0+I.toNat) (List.map Fea.rv F))=[f.rv]:=by
              have h1:(F.map Fea.rv)[i]?=some f.rv:=by rw [List.getElem?_map,hf]; rfl
              obtain ⟨h2,h3⟩:=List.getElem?_eq_some_iff.1 h1;rw [show (I+1-I).toNat=1 by omega,iT,zaa,List.drop_eq_getElem_cons h2,h3];simp
            refine b9 (as':=[v8 [f],v8 [f]]) (by rw [hsub]; rfl) ?_;refine nj hSF rfl trivial (by simp [v9,dp]) (by simp [ea]) ?_
            push_cast [wi]
            exact ⟨⟨i+1,by omega,by simp [hI]⟩,by omega⟩
    · have hd:=of_decide_eq_false hd
      push_cast
      refine a5 al7 rfl trivial ?_
      push_cast

end
end Go.Ev

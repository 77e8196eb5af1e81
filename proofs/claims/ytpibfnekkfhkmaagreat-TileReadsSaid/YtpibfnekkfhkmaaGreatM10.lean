import Derived.Sort.AssemblyPlain
import Derived.WalkKit
import Derived.Test.YtpibfnekkfhkmaaGreatChecked
import Derived.KernelRfl
import Derived.Test.YtpibfnekkfhkmaaGreatM9
open Nat renaming reduceBEq → zB, reduceEqDiff → zE, reduceAdd → zA, reduceSub → zS, reduceLT → zL, reduceLeDiff → zD, reduceMul → zM
open Go.Proofs.Tryz renaming prog → P0
open Go.Proofs.Tryz
open Nat renaming zero_add → zaa, le_refl → zam, zero_mul → zav, mul_one → zba, min_eq_left → zbn, pow_le_pow_right → zbz, mul_le_mul_right → zca
open List renaming length_nil → zab, length_append → zad, take → zah, length_cons → zai, take_of_length_le → zal, length_drop → zan, length_map → zao, drop → zaq, map → zar, take_length → zas, getElem?_eq_some_iff → zat, getD_eq_getElem?_getD → zaw, mem_map → zax, getElem?_map → zay, mem_cons → zbb, length_take → zbc, mem_append → zbd, length → zbe, append_assoc → zbf, length_singleton → zbg, getD → zbh, getElem?_of_mem → zbi, take_add_one → zbj, drop_drop → zbk, getElem?_append_left → zbl, mem_of_getElem? → zbm, flatMap_append → zbo, getElem?_eq_none → zbq, eq_nil_of_length_eq_zero → zbs, append_nil → zbu, drop_of_length_le → zbv, pairwise_iff_getElem → zbw, drop_eq_getElem_cons → zby, take_succ_eq_append_getElem → zcb
open Int renaming toNat_natCast → zac, toNat_zero → zaf, reduceToNat → zaj, toNat_natCast_add_one → zak, toNat → zau, tmod_eq_emod_of_nonneg → zbp, tdiv_eq_ediv_of_nonneg → zbr
open BitVec renaming ofInt → zae, toNat_ofInt → zbx
open UInt8 renaming ofNat → zap
open Option renaming map_map → zaz, map_some → zbt
namespace Go.Ev
set_option maxRecDepth 100000
noncomputable section
open Go
set_option linter.unusedSectionVars false
set_option linter.unnecessarySimpa false
open Go.Sort (swp insInner insOuter insertionSort ltInt)
set_option linter.unusedVariables false
def abt:Mk P0 f241:={ x:=_ }
theorem aia:b8 241 1 abt:=b7 func241
def ad6:Mk P0 f210:={ x:=_ }
theorem aj0:b8 210 2 ad6:=b7 func210
def aq:Mk P0 f204:={ x:=_ }
theorem dn:b8 204 3 aq:=b7 func204
def bu (d:Array Int):List AV:=d.toList.map fun n=>AV.r (.v (.int .u64 n))
def bc (d:Array Int) (m:Nat):List AV:=bu d++List.replicate m .undef
def bO (d:Array Int) (m:Nat):Ob:=.box (bc d m)
theorem ao8:∀(xs:List AV),(∀x∈xs,af x=[])→n7 xs=[]
 | [],_=>rfl
 | x::xs,h=>by rw [n7,h x (by simp),ao8 xs fun y hy=>h y (by simp [hy])]; rfl
theorem bp (d:Array Int) (m:Nat):n7 (bc d m)=[]:=ao8 _ fun x hx=>by
 rcases zbd.1 hx with hx | hx
 ·obtain ⟨n,_,rfl⟩:=zax.1 hx
  rfl
 ·rw [(List.mem_replicate.1 hx).2]; rfl
theorem gj (F:Ren) (d:Array Int) (m:Nat):imL F (bc d m)=bc d m:=se F _ (bp d m)
theorem apw (d:Array Int):(bu d).length=d.size:=by simp [bu]
theorem gm (d:Array Int) (m:Nat):(bc d m).length=d.size+m:=by simp [bc,apw]
theorem aa8 {d:Array Int} {m i:Nat} (h:i<d.size) (z:AV):(bc d m).getD i z=.r (.v (.int .u64 d[i]!)):=by
 unfold bc;rw [zaw,zbl (by rw [apw]; exact h)];simp [bu,h]
theorem a9t {d:Array Int} {m i:Nat} (h:i<d.size) (x:Int):zah i (bc d m)++[AV.r (.v (.int .u64 x))]++zaq (i+1) (bc d m)=bc (d.setIfInBounds i x) m:=by
 unfold bc;have e:bu (d.setIfInBounds i x)=(bu d).set i (.r (.v (.int .u64 x))):=by simp [bu,List.map_set]
 rw [e,List.take_append_of_le_length (by rw [apw]; omega),List.drop_append_of_le_length (by rw [apw]; omega),List.set_eq_take_append_cons_drop,if_pos (by rw [apw]; exact h)];simp
theorem baj (d:Array Int) (i j:Nat):(swp d i j).size=d.size:=by simp [swp]
theorem bld (x:Int):a8 P0 241 [int .u64 x] [] (bl false) []:=by
 refine aia rfl (by decide) ?_;have h:(x != x)=false:=by simp
 push_cast [abt,h,zab]
theorem bmg (x y:Int):a8 P0 210 [int .u64 x,int .u64 y] [] (bl (ltInt x y)) []:=by
 refine aj0 rfl (by decide) ?_
 push_cast [ad6,zab]
 refine a6 (bld x) rfl trivial ?_
 push_cast
 rfl
theorem blt (d:Array Int) (a b:Nat) (hab:a≤b) (hb:b≤d.size) (hn:d.size≤100000) (m:Nat):a8 P0 204 [.own 1000000 0 0 d.size,int .i64 a,int .i64 b] [bO d m] (.tup []) [bO (insertionSort ltInt d a b) m]:=by
 refine dn rfl (by simp) ?_;have w0:IntKind.i64.wrap ((a:Int)+1)=(a:Int)+1:=a5 (by omega)
 push_cast [aq,bO,gm,bp,gj,w0,zai,zab]
 generalize hN:d.size=n at *
 refine run_loop [(6,false),(0,false),(1,false),(2,false)] (fun vs pos los=>∃(i:Nat) (e:Array Int),a+1≤i∧i≤100002∧e.size=n∧insertionSort ltInt d a b=insOuter ltInt a b i e∧vs=[int .i64 i,.own 1000000 0 0 n,int .i64 a,int .i64 b]∧pos=[bO e m]∧los=[])
  (fun vs _ _=>match vs with | .r (.v (.int _ j))::_=>(b-j).toNat | _=>0) rfl ?_ ?_
 ·push_cast [bO,gm,bp,gj]
  exact ⟨a+1,d,by omega,by omega,hN,rfl,rfl,rfl⟩
 ·rintro vs pos los ⟨i,e,hi,hi2,he,hE,rfl,rfl,rfl⟩
  push_cast [bO,gm,bp,gj]
  refine b6 (fun h=>?_) (fun h=>?_)
  ·have h':i<b:=by
    simp at h;omega
   have w1:IntKind.i64.wrap ((i:Int)+1)=(i:Int)+1:=a5 (by omega)
   push_cast
   refine run_loop [(6,false),(7,false),(0,false),(1,false),(2,false)] (fun vs pos los=>∃(j:Nat) (f:Array Int),j≤i∧f.size=n∧insInner ltInt a i e=insInner ltInt a j f∧vs=[int .i64 i,int .i64 j,.own 1000000 0 0 n,int .i64 a,int .i64 b]∧pos=[bO f m]∧los=[])
    (fun vs _ _=>match vs with | _ :: .r (.v (.int _ j))::_=>j.toNat | _=>0) rfl ?_ ?_
   ·push_cast [bO,gm,bp,gj]
    exact ⟨i,e,by omega,he,rfl,rfl,rfl⟩
   ·rintro vs pos los ⟨j,f,hj,hf,hF,rfl,rfl,rfl⟩;by_cases hja:j≤a
    ·have g0:decide ((j:Int)>a)=false:=by simp; omega
     push_cast [bO,gm,bp,gj,g0,w1]
     repeat refine And.intro (by first | decide | omega | exact fun _=>by decide | (simp +contextual; done) | kernel_rfl) ?_
     refine ⟨⟨i+1,f,by omega,by omega,hf,?_,(by first | rfl | exact ⟨rfl,rfl⟩ | exact ⟨rfl,rfl,rfl⟩)⟩,by omega⟩;rw [hE,insOuter,if_pos h',hF];congr 1;cases j with
     | zero=>rfl
     | succ k=>rw [insInner,if_neg (by simp; omega)]
    ·obtain ⟨k,rfl⟩:∃k,j=k+1:=⟨j-1,by omega⟩
     have g0:decide ((k:Int)+1>a)=true:=by simp; omega
     have wk:IntKind.i64.wrap ((k:Int)+1-1)=(k:Int):=by rw [a5 (by omega)]; omega
     have k1:k<f.size:=by omega
     have k2:k+1<f.size:=by omega
     push_cast [bO,gm,bp,gj,g0,wk,aa8 (m:=m) k1,aa8 (m:=m) k2,zac,zak,zaa]
     repeat refine And.intro (by first | decide | omega | exact fun _=>by decide | (simp +contextual; done) | kernel_rfl) ?_
     refine b9 (bmg f[k+1]! f[k]!) rfl trivial ?_
     push_cast [bO,gm,bp,gj,g0,wk,aa8 (m:=m) k1,aa8 (m:=m) k2,zac,zak,zaa]
     refine ⟨by kernel_rfl,?_⟩;refine b6 (fun hc=>?_) (fun hc=>?_)
     ·have k3:k<(f.setIfInBounds (k+1) f[k]!).size:=by simpa using k1
      push_cast [bO,gm,bp,gj,g0,wk,aa8 (m:=m) k1,aa8 (m:=m) k2,aa8 (m:=m) k3,a9t (m:=m) k2,a9t (m:=m) k3,zac,zak,zaa]
      repeat refine And.intro (by first | decide | omega | exact fun _=>by decide | (simp +contextual; done) | kernel_rfl) ?_
      refine ⟨⟨k,swp f (k+1) k,by omega,by rw [baj]; exact hf,?_,(by first | rfl | exact ⟨rfl,rfl⟩ | exact ⟨rfl,rfl,rfl⟩)⟩,by omega⟩;rw [hF,insInner,if_pos];simp [hc];omega
     ·push_cast [bO,gm,bp,gj,g0,wk,w1,aa8 (m:=m) k1,aa8 (m:=m) k2,zac,zak,zaa]
      refine ⟨⟨i+1,f,by omega,by omega,hf,?_,(by first | rfl | exact ⟨rfl,rfl⟩ | exact ⟨rfl,rfl,rfl⟩)⟩,by omega⟩;rw [hE,insOuter,if_pos h',hF,insInner,if_neg];simp [hc]
  ·have h':¬i<b:=by
    simp at h;omega
   push_cast [bp,gj]
   rw [hE,insOuter,if_neg h']

open Go.Sort (swp ltInt bitsLen pdq sort Below insertionSort)
def dk:Mk P0 f168:={ x:=_ }
theorem gr:b8 168 4 dk:=b7 func168
def fp:Mk P0 f119:={ x:=_ }
theorem jm:b8 119 1 fp:=b7 func119
theorem axu {x:Int} (h:0≤x∧x<18446744073709551616):IntKind.u64.wrap x=x:=by rw [IntKind.wrap_u64]; omega
theorem bf5 (n:Nat) (hn:n<64):a8 P0 214 [int .u64 n] [] (int .i64 (bitsLen n)) []:=by
 refine aff rfl (by decide) ?_;have g1:decide ((n:Int)≥4294967296)=false:=by simp; omega
 have g2:decide ((n:Int)≥65536)=false:=by simp; omega
 have g3:decide ((n:Int)≥256)=false:=by simp; omega
 have w:IntKind.u8.wrap (n:Int)=n:=by simp [IntKind.wrap,IntKind.bits,IntKind.signed]; omega
 push_cast [ae4,g1,g2,g3,w,zac,zab]
 refine ⟨⟨by omega,(show (n:Int)<((256:Nat):Int) by omega)⟩,?_⟩;refine congrArg (fun z=>AV.r (.v (.int .i64 z))) ?_;clear g1 g2 g3 w
 revert n
 decide +kernel
theorem a9u (n:Nat) (hn:n<64):a8 P0 169 [int .u64 n] [] (int .i64 (bitsLen n)) []:=by
 refine ajh rfl (by decide) ?_;have w:IntKind.u64.wrap (n:Int)=n:=axu (by omega)
 push_cast [aj6,w,zab]
 refine a6 (bf5 n hn) rfl trivial ?_
 push_cast
theorem bc8 {m:Nat} {f g:Array Int} (h:g.size=f.size):ct [bO f m] [bO g m]:=⟨by rw [gm,gm,h],trivial⟩
theorem a79 {e:Array Int} {a b limit:Nat} {wb wp:Bool} (h:b-a≤12):pdq ltInt e a b limit wb wp=insertionSort ltInt e a b:=by rw [pdq,if_pos h]
theorem bk5 (m:Nat) (d:Array Int) (hn:d.size≤12) (limit:Nat) (hlim:limit≤100) :
  a8 P0 168 [.own 1000000 0 0 d.size,int .i64 0,int .i64 d.size,int .i64 limit] [bO d m] (.tup []) [bO (pdq ltInt d 0 d.size limit true true) m]:=by
 refine gr rfl (by simp) ?_;rw [a79 (by omega)]
 push_cast [dk,bO,gm,bp,gj,zai,zab,zac,zak,zaa]
 repeat refine And.intro (by first | decide | omega | exact fun _=>by decide | (simp +contextual; done) | kernel_rfl) ?_
 refine run_loop [(8,false),(9,false),(0,false),(1,false),(2,false),(3,false)] (fun vs pos los=>vs=[bl true,bl true,.own 1000000 0 0 d.size,int .i64 0,int .i64 d.size,int .i64 limit]∧pos=[bO d m]∧los=[]) (fun _ _ _=>0) rfl ?_ ?_
 ·push_cast [bO,bp,gj]
 ·rintro vs pos los ⟨rfl,rfl,rfl⟩;have w0:IntKind.i64.wrap ((d.size:Int)-0)=(d.size:Int):=by rw [a5 (by omega)]; omega
  have d0:decide ((d.size:Int)≤12)=true:=decide_eq_true (by omega)
  push_cast [bO,gm,bp,gj,w0,d0,zac,zak,zaa]
  have ht:=blt d 0 d.size (by omega) (by omega) (by omega) m;refine a6 ht rfl (bc8 (Go.Sort.insertionSort_holds Go.Sort.swo_ltInt d 0 d.size (by omega) (by omega)).1.1) ?_
  push_cast [bO,gm,bp,gj,zac,zak,zaa]
def zy (ws:List Int):List Int:=ws.mergeSort (fun x y=>decide (x≤y))
def aa (ws:List Int):List RV:=ws.map fun n=>RV.v (.int .u64 n)
def j7 (ws:List Int):Ob:=.row 1 (.v (.int .u64 0)) true true (aa ws)
theorem ash (ws:List Int):(zy ws).length=ws.length:=List.length_mergeSort ..
theorem a1v (ws:List Int) (m:Nat):ig (ws.map fun n=>Value.int .u64 n) m=bc ws.toArray m:=by
 simp [ig,bc,bu,Function.comp_def]
theorem j6 (ws:List Int):(aa ws).length=ws.length:=by simp [aa]
theorem bel (d:Array Int) (hn:d.size<13) (m:Nat):a8 P0 119 [.own 1000000 0 0 d.size] [bO d m] (.tup []) [bO (sort ltInt d) m]:=by
 refine jm rfl (by simp) ?_;have hb:bitsLen d.size≤6:=(Go.Sort.bitsLen_le_iff d.size 6).2 (by omega);have w:IntKind.u64.wrap (d.size:Int)=d.size:=axu (by omega)
 push_cast [fp,bO,gm,bp,gj,w,zai,zab,zac,zak,zaa]
 refine a6 (a9u d.size (by omega)) rfl trivial ?_
 push_cast [bO,gm,bp,gj,w,zai,zab,zac,zak,zaa]
 have ht:=bk5 m d (by omega) (bitsLen d.size) (by omega);refine a6 ht rfl (bc8 (Go.Sort.pdq_sorts ltInt Go.Sort.swo_ltInt d 0 d.size _ true true (by omega) (by omega) (.inl rfl)).1.1) ?_
 push_cast [bO,gm,bp,gj,w,zai,zab,zac,zak,zaa]
 rfl
def vu (ws:List Int):List Value:=ws.map fun n=>Value.int .u64 n
theorem a6o (ws:List Int):(vu ws).length=ws.length:=by simp [vu]
theorem a6n (ws:List Int):(vu ws).map RV.v=aa ws:=by simp [vu,aa,Function.comp_def]
theorem bh3 (ws:List Int) (hn:ws.length<13) (m:Nat):a8 P0 119 [.own 1000000 0 0 ws.length] [.box (ig (vu ws) m)] (.tup []) [.box (ig (vu (zy ws)) m)]:=by
 have:=bel ws.toArray (by simpa using hn) m;unfold vu;rw [a1v,a1v]
 have e:(zy ws).toArray=sort ltInt ws.toArray:=by
  have:=Go.Sort.sortInt ws;unfold zy;rw [← this]
 rw [e];simpa [bO] using this
theorem bky (ws ws':List Int) (h:ws'.length=ws.length) (m:Nat):ct [.box (ig (vu ws) m)] [.box (ig (vu ws') m)]:=⟨by simp [ig,a6o,h],trivial⟩
theorem ao7 (xs:List Value) (m:Nat):n7 (ig xs m)=[]:=ao8 _ fun x hx=>by
 rcases zbd.1 hx with hx | hx
 ·obtain ⟨n,_,rfl⟩:=zax.1 hx
  rfl
 ·rw [(List.mem_replicate.1 hx).2]; rfl
theorem a1b (F:Ren) (xs:List Value) (m:Nat):imL F (ig xs m)=ig xs m:=se F _ (ao7 xs m)
theorem bf7:a8 P0 204 [.r (.sl 1 []),int .i64 0,int .i64 0] [] (.tup []) []:=by
 refine dn rfl (by decide) ?_;have g:decide (IntKind.i64.wrap (0+1)<0)=false:=by decide
 simp only [aq,push_cast,↓reduceIte,reduceCtorEq,zA];refine run_loop [(6,false),(2,false)] (fun vs pos los=>vs=[int .i64 (IntKind.i64.wrap (0+1)),int .i64 0]∧pos=[]∧los=[]) (fun _ _ _=>0) rfl ?_ ?_
 ·simp only [push_cast,↓reduceIte,reduceCtorEq,zE,zA]
 ·rintro vs pos los ⟨rfl,rfl,rfl⟩;simp only [g,push_cast,↓reduceIte,zE,zA,zL]
theorem bfu:a8 P0 168 [.r (.sl 1 []),int .i64 0,int .i64 0,int .i64 0] [] (.tup []) []:=by
 refine gr rfl (by decide) ?_;have g:decide ((0:Int)≤12)=true:=by decide
 have w:IntKind.i64.wrap (0-0)=0:=rfl;simp only [dk,push_cast,zA];refine run_loop [(8,false),(9,false),(0,false),(1,false),(2,false),(3,false)] (fun vs pos los=>vs=[bl true,bl true,.r (.sl 1 []),int .i64 0,int .i64 0,int .i64 0]∧pos=[]∧los=[]) (fun _ _ _=>0) rfl ?_ ?_
 ·simp only [push_cast,↓reduceIte,reduceCtorEq,zE,zA]
 ·rintro vs pos los ⟨rfl,rfl,rfl⟩;simp only [w,g,push_cast,↓reduceIte,reduceCtorEq,zE,zL];refine a6 bf7 rfl trivial ?_;simp only [push_cast,zA]
theorem bal:a8 P0 119 [.r (.sl 1 [])] [] (.tup []) []:=by
 refine jm rfl (by decide) ?_
 push_cast [fp,zai,zab]
 refine a6 (a9u 0 (by decide)) rfl trivial ?_
 push_cast
 refine a6 bfu rfl trivial ?_
 push_cast

def dt:Mk P0 f69:={ x:=_ }
theorem ag0:b8 69 2 dt:=b7 func69
def kI (e:MapEntry):Int:=match e.key with | .int _ n=>n | _=>0
def KeysU (es:List MapEntry) (c:Nat):Prop:=(∀e∈es,e.key=.int .u64 (kI e))∧(es.map (·.born)).Nodup∧∀e∈es,e.born<c
theorem bgq {f:Nat→Nat} {es:List MapEntry} {c:Nat} (h:CM f es c):KeysU es c:=by
 obtain ⟨ws,h1,h2,h3⟩:=h.ex;refine ⟨fun e he=>?_,h1.nd,h1.lt⟩;have:(e.key,e.val)∈ws.map cnE:=by rw [← h1.kv]; exact zax.2 ⟨e,he,rfl⟩
 obtain ⟨a,_,ha⟩:=zax.1 this;simp only [ent,Prod.mk.injEq] at ha;simp [kI,← ha.1]
theorem awz {es:List MapEntry} {seen:List Nat} {e:MapEntry} (he:e∈dz es seen):(dz es (seen++[e.born])).length<(dz es seen).length:=by
 have e1:dz es (seen++[e.born])=(dz es seen).filter fun x=>!(x.born == e.born):=by
  unfold dz;rw [List.filter_filter];apply List.filter_congr;intro x _;simp only [List.contains_eq_mem,zbd,List.mem_singleton,Bool.decide_or,Bool.not_or,Bool.and_comm];by_cases hx:x.born=e.born<;>simp [hx]
 rw [e1]
 have:((dz es seen).filter fun x=>!(x.born == e.born)).length<(dz es seen).length:=by
  rw [List.length_filter_lt_length_iff_exists];exact ⟨e,he,by simp⟩
 exact this
structure Vis (es V:List MapEntry) (seen:List Nat):Prop where
 s:seen=V.map (·.born)
 sub:∀e∈V,e∈es
 nd:seen.Nodup
 b:V.length+(dz es seen).length≤es.length
theorem bd4 (es:List MapEntry):Vis es [] []:=⟨rfl,by simp,by simp,by simp only [zab,zaa]; exact List.length_filter_le ..⟩
theorem Vis.add {es V:List MapEntry} {seen:List Nat} (h:Vis es V seen) {e:MapEntry} (he:e∈dz es seen):Vis es (V++[e]) (seen++[e.born]):=by
 obtain ⟨h1,h2⟩:=List.mem_filter.1 he;refine ⟨by rw [h.s]; simp,fun x hx=>?_,?_,by have:=h.b; have:=awz he; simp only [zad,zbg]; omega⟩
 ·rcases zbd.1 hx with hx | hx
  ·exact h.sub x hx
  ·simp at hx; subst hx; exact h1
 ·rw [List.nodup_append];refine ⟨h.nd,by simp,fun a ha b hb=>?_⟩;simp at hb;subst hb;rintro rfl;simp at h2;exact h2 ha
theorem Vis.all {es V:List MapEntry} {seen:List Nat} (h:Vis es V seen) (hnd:(es.map (·.born)).Nodup) (h0:dz es seen=[]):V.Perm es:=by
 have hV:V.Nodup:=by
  have:=h.nd;rw [h.s] at this;exact (List.pairwise_map.1 this).imp fun {a b} hab e=>hab (by rw [e])
 have hE:es.Nodup:=(List.pairwise_map.1 hnd).imp fun {a b} hab e=>hab (by rw [e]);refine (List.perm_ext_iff_of_nodup hV hE).2 fun x=>⟨h.sub x,fun hx=>?_⟩
 have:¬x∈dz es seen:=by rw [h0]; simp
 unfold dz at this;rw [List.mem_filter,h.s] at this;simp only [hx,true_and,Bool.not_eq_true',List.contains_eq_mem,decide_eq_false_iff_not,Classical.not_not,zax] at this;obtain ⟨y,hy,e⟩:=this;have hye:=h.sub y hy;obtain ⟨i,hi⟩:=zbi hx;obtain ⟨j,hj⟩:=zbi hye;have:=au1 hnd (i:=i) (j:=j) (x:=x.born) (by simp [hi]) (by simp [hj,e]);subst this;rw [hi] at hj;cases hj;exact hy
theorem ay1 {es:List MapEntry} (hnd:(es.map (·.born)).Nodup) {e:MapEntry} (he:e∈es) (seen:List Nat):a1m es (seen++[e.born])=some e:=by
 unfold a1m;simp only [List.getLast?_append,List.getLast?_singleton,Option.some_or];cases hf:es.find? fun x=>x.born == e.born with
 | none=>
  have:=List.find?_eq_none.1 hf e he;simp at this
 | some y=>
  have hy:=List.mem_of_find?_eq_some hf;have hb:=List.find?_some hf;simp at hb;obtain ⟨i,hi⟩:=zbi he;obtain ⟨j,hj⟩:=zbi hy;have:=au1 hnd (i:=i) (j:=j) (x:=e.born) (by simp [hi]) (by simp [hj,hb]);subst this;rw [hi] at hj;exact hj.symm
theorem axx {a b:List Int} (h:a.Perm b):zy a=zy b:=by
 have h1:(zy a).Perm (zy b):=((List.mergeSort_perm a _).trans h).trans (List.mergeSort_perm b _).symm;have tr:∀x y z:Int,decide (x≤y)=true→decide (y≤z)=true→decide (x≤z)=true:=by simp; omega
 have tot:∀x y:Int,(decide (x≤y)||decide (y≤x))=true:=by simp; omega
 have s1:=List.pairwise_mergeSort tr tot a;have s2:=List.pairwise_mergeSort tr tot b;refine List.Perm.eq_of_pairwise (le:=fun x y=>decide (x≤y)=true) (fun x y _ _ h1 h2=>by simp at h1 h2; omega) s1 s2 h1
theorem bgv {args:List AV} {po:List Ob} {D:AV→List Ob→Prop} (hal:args.length=2) (hpo:po.length≤1000)
  (h:run P0 po.length (axm po.length [(4,false,none)] D) [.c dt.1.2] ⟨pq 0 args,ob0 po⟩):aqm P0 69 args po D:=
 an6 (fn:=f69) (c:=(f69.body).getD .skip) (pc:=dt.1.2) (rs:=[(4,false,none)]) func69 rfl (by decide) (by kernel_rfl) (by rw [hal]; decide) rfl (by kernel_rfl) (by kernel_rfl) (by decide) hpo (a14 h)
theorem bef (V:List MapEntry) (x:Int):zah V.length (aa (V.map kI))++[RV.v (.int .u64 x)]=aa (V.map kI++[x]):=by
 rw [zal (by simp [aa])];simp [aa]
section
variable {es:List MapEntry} {c:Nat} {ns:List (List Ky)} {ce:Nat→List MapEntry} {cc:Nat→Nat}
set_option maxHeartbeats 40000000 in
theorem cells_some {r : Nat} (hr : r < 13) {E : List MapEntry} {C : Nat} (eE : ce r = E) (eC : cc r = C) (h : KeysU E C) (hn : E.length < 13) (hne : E ≠ []) :
    aqm P0 69 [.ptr 1000000 0 0,int .i64 r] (stOs es c ns ce cc) fun v os=>∃m,v=.own 1000016 0 0 E.length∧os=stOs es c ns ce cc++[.box (ig (vu (zy (E.map kI))) m)]:=by
  refine bgv rfl (by simp [stOs]) ?_;have g1:decide ((r:Int)<0)=false:=by simp
  have g2:decide ((r:Int)≥13)=false:=by simp; omega
  obtain ⟨K,hK⟩:∃K,zy (E.map kI)=K:=⟨_,rfl⟩
  rw [hK];obtain ⟨M,hM⟩:∃M,1000003+r=M:=⟨_,rfl⟩
  push_cast [dt,stOs,g1,g2,zai,zab]
  rcases (show r=0∨r=1∨r=2∨r=3∨r=4∨r=5∨r=6∨r=7∨r=8∨r=9∨r=10∨r=11∨r=12 by omega) with rfl | rfl | rfl | rfl | rfl | rfl | rfl | rfl | rfl | rfl | rfl | rfl | rfl<;>(
    simp only [Nat.reduceAdd] at hM
    push_cast [eE,eC,zaf,zaj]
    repeat refine And.intro (by first | decide | omega | exact fun _=>by decide | (simp +contextual; done) | kernel_rfl) ?_
    refine run_loop [(5, false), (19, false)] (fun vs pos los => ∃ (V : List MapEntry) (seen : List Nat), Vis E V seen ∧ pos = stOs es c ns ce cc ∧ ∃ st, C ≤ st ∧
        (V=[]∧vs=[.nils 1 (.v (.int .u64 0)),.ptr 2000000 0 0]∧los=[.iter (.mp M 0) C seen st] ∨
         V≠[]∧vs=[.own 2000000 0 0 V.length,.ptr 2000001 0 0]∧los=[j7 (V.map kI),.iter (.mp M 0) C seen st]))
      (fun _ _ los=>match los with | [.iter _ _ seen _]=>(dz E seen).length | [_,.iter _ _ seen _]=>(dz E seen).length | _=>0) rfl ?_ ?_
    · push_cast [stOs,eE,eC,← hM]
      exact ⟨[],[],bd4 _,C,zam _,by simp⟩
    · rintro vs pos los ⟨V,seen,hV,rfl,st,hst,⟨h0,rfl,rfl⟩ | ⟨h0,rfl,rfl⟩⟩
      · subst h0
        push_cast [stOs,eE,eC,← hM]
        have hs:seen=[]:=hV.s;refine a0r h.2.2 hst (fun hl=>?_) (fun en hen=>?_)
        · exfalso;rw [hs] at hl;unfold dz at hl;simp at hl;exact hne (List.eq_nil_iff_forall_not_mem.2 fun x hx=>by simpa using hl x hx)
        · have hk:en.key=.int .u64 (kI en):=h.1 en ((hV.add hen).sub en (by simp));have hE:=ay1 h.2.1 ((hV.add hen).sub en (by simp)) seen
          push_cast [hk,hE,ae3,Option.isSome_some]
          repeat refine And.intro (by first | decide | omega | exact fun _=>by decide | (simp +contextual; done) | kernel_rfl) ?_
          exact ⟨⟨[en],_,hV.add hen,C,zam _,.inr ⟨by simp,rfl,rfl⟩⟩,awz hen⟩
      · push_cast [stOs,eE,eC,← hM]
        refine a0r h.2.2 hst (fun hl=>?_) (fun en hen=>?_)
        · push_cast [j7,aa]
          have hP:=hV.all h.2.1 hl;have hlen:=hP.length_eq;refine a9s 2000000 0 (.v (.int .u64 0)) (vu (V.map kI)) (by rw [a6n]; rfl) (by simpa [vu] using h0) (fun m=>?_);rw [show zar (fun x=>AV.r (RV.v x)) (vu (V.map kI))++List.replicate m AV.undef=ig (vu (V.map kI)) m from rfl];have ht:=bh3 (V.map kI) (by simp; omega) m;rw [axx (hP.map kI),hK] at ht;simp only [zao] at ht
          push_cast [j7,aa,ao7,a1b]
          refine a6 ht rfl (bky _ _ (by rw [← hK,ash,zao,zao,hlen]) m) ?_
          push_cast [j7,aa,ao7,a1b,hlen]
          exact ⟨m,by simp⟩
        · have hk:en.key=.int .u64 (kI en):=h.1 en ((hV.add hen).sub en (by simp));have hE:=ay1 h.2.1 ((hV.add hen).sub en (by simp)) seen;have hvl:=(hV.add hen).b;simp only [zad,zbg] at hvl;have hmx:=d7
          push_cast [hk,hE,ae3,Option.isSome_some,j7,bef]
          repeat refine And.intro (by first | decide | omega | exact fun _=>by decide | (simp +contextual; done) | kernel_rfl) ?_
          exact ⟨⟨V++[en],_,hV.add hen,C,zam _,.inr ⟨by simp,by simp,by simp [aa]⟩⟩,awz hen⟩)
set_option maxHeartbeats 40000000 in
theorem a5z {r:Nat} (hr:r<13) (h0:ce r=[]) :
  a8 P0 69 [.ptr 1000000 0 0,int .i64 r] (stOs es c ns ce cc) (.nils 1 (.v (.int .u64 0))) (stOs es c ns ce cc):=by
 refine ag0 rfl (by simp [stOs]) ?_;have g1:decide ((r:Int)<0)=false:=by simp
 have g2:decide ((r:Int)≥13)=false:=by simp; omega
 obtain ⟨M,hM⟩:∃M,1000003+r=M:=⟨_,rfl⟩
 obtain ⟨C,eC⟩:∃C,cc r=C:=⟨_,rfl⟩
 push_cast [dt,stOs,g1,g2,zai,zab]
 rcases (show r=0∨r=1∨r=2∨r=3∨r=4∨r=5∨r=6∨r=7∨r=8∨r=9∨r=10∨r=11∨r=12 by omega) with rfl | rfl | rfl | rfl | rfl | rfl | rfl | rfl | rfl | rfl | rfl | rfl | rfl<;>(
  simp only [Nat.reduceAdd] at hM
  push_cast [h0,eC,zaf,zaj]
  repeat refine And.intro (by first | decide | omega | exact fun _=>by decide | (simp +contextual; done) | kernel_rfl) ?_
  refine run_loop [(5,false),(19,false)] (fun vs pos los=>vs=[.nils 1 (.v (.int .u64 0)),.ptr 2000000 0 0]∧pos=stOs es c ns ce cc∧los=[.iter (.mp M 0) C [] C])
   (fun _ _ _=>0) rfl ?_ ?_
  ·push_cast [stOs,h0,eC,← hM]
  ·rintro vs pos los ⟨rfl,rfl,rfl⟩
   push_cast [stOs,h0,eC,← hM]
   refine a0r (by simp) (zam _) (fun hl=>?_) (fun en hen=>?_)
   ·push_cast
    refine a6 bal rfl trivial ?_
    push_cast
   ·simp [dz] at hen)
end

def dd:List Nat→List Nat
 | []=>[]
 | a::l=>if a∈dd l then dd l else a::dd l
theorem avn {w:Nat}:∀{l:List Nat},w∈dd l↔w∈l
 | []=>by simp [dd]
 | a::l=>by
  rw [dd];split
  ·rename_i h;rw [avn,zbb];constructor
   ·exact .inr
   ·rintro (rfl | h2)
    ·exact avn.1 h
    ·exact h2
  ·rw [zbb,zbb,avn]
theorem ate:∀(l:List Nat),(dd l).Nodup
 | []=>by simp [dd]
 | a::l=>by
  rw [dd];split
  ·exact ate l
  ·rename_i h;exact List.nodup_cons.2 ⟨h,ate l⟩
theorem a9i:∀(l:List Nat),(dd l).length≤l.length
 | []=>by simp [dd]
 | a::l=>by
  have:=a9i l;rw [dd];split<;>simp<;>omega
def akt (L:List Pt) (r:Nat):List Nat:=dd (L.map (·.w r))
theorem atn {L:List Pt} {r w:Nat}:w∈akt L r↔∃p∈L,p.w r=w:=by unfold akt; rw [avn,zax]
def asI (ws:List Nat):List Int:=ws.map fun n:Nat=>(n:Int)
def de (L:List Pt) (r:Nat):List Int:=zy (asI (akt L r))
theorem a1q {L:List Pt} {r:Nat} {es:List MapEntry} {c:Nat} (h:CM (cnt L r) es c):(es.map kI).Perm (asI (akt L r)):=by
 obtain ⟨ws,h1,h2,h3⟩:=h.ex
 have e:es.map kI=asI (ws.map (·.1)):=by
  have:=congrArg (zar fun q:Value×Value=>match q.1 with | .int _ n=>n | _=>(0:Int)) h1.kv;simp only [List.map_map,Function.comp_def,ent] at this;unfold asI;rw [List.map_map];exact this
 rw [e];refine List.Perm.map _ ((List.perm_ext_iff_of_nodup h2 (ate _)).2 fun w=>?_);rw [show dd (L.map (·.w r))=akt L r from rfl,atn,zax];constructor
 ·rintro ⟨a,ha,rfl⟩;have:=((h3 a.1 a.2).1 ha).2;unfold cnt at this;rw [List.countP_pos_iff] at this;obtain ⟨p,hp,e⟩:=this;exact ⟨p,hp,by simpa using e⟩
 ·rintro ⟨p,hp,rfl⟩;refine ⟨(p.w r,_),(h3 _ _).2 ⟨rfl,?_⟩,rfl⟩;unfold cnt;rw [List.countP_pos_iff];exact ⟨p,hp,by simp⟩
theorem af9 (L:List Pt) (r:Nat):(de L r).length≤L.length:=by
 unfold de asI;rw [ash,zao];exact Nat.le_trans (a9i _) (by simp)
theorem bj0 {L:List Pt} {r:Nat} {es:List MapEntry} {c:Nat} (h:CM (cnt L r) es c):es.length=(de L r).length:=by
 have:=(a1q h).length_eq;unfold de;rw [ash,← this,zao]
section
variable {L:List Pt} {es:List MapEntry} {c:Nat} {ns:List (List Ky)} {ce:Nat→List MapEntry} {cc:Nat→Nat}
theorem bcj (h:StL L es c ns ce cc) (hl:L.length<13) (r:Nat) (hr:r<13) :
  a8 P0 69 [.ptr 1000000 0 0,int .i64 r] (stOs es c ns ce cc) (.own 1000016 0 0 (de L r).length) (stOs es c ns ce cc++[j7 (de L r)]):=by
 have hcm:=h.cm r hr;have hK:=bgq hcm;have hlen:=bj0 hcm;have hle:=af9 L r;have hsrt:zy ((ce r).map kI)=de L r:=axx (a1q hcm);have hs:∀o∈stOs es c ns ce cc,imO (rc 16) o=o:=(SF L).shut ⟨es,c,ns,ce,cc,h,rfl⟩;by_cases hne:ce r=[]
 ·have h0:de L r=[]:=List.length_eq_zero_iff.1 (by rw [← hlen,hne]; rfl);rw [h0];have key:=a5z (es:=es) (c:=c) (ns:=ns) (cc:=cc) hr hne;exact bf1 (os:=stOs es c ns ce cc) (by simp [stOs]) hs key
 ·have key:=cells_some (es:=es) (c:=c) (ns:=ns) hr rfl rfl hK (by omega) hne;rw [hsrt,hlen] at key
  have:=bks (os:=stOs es c ns ce cc) (ys:=vu (de L r)) (z:=.v (.int .u64 0)) (a6o _) (by simp [stOs]) hs (fun y hy=>by
   obtain ⟨n,_,rfl⟩:=zax.1 hy
   rfl) key
  rw [a6n] at this;exact this
end
theorem bgu (L:List Pt) (hl:L.length<13) (r:Nat) (hr:r<13):a8 P0 69 [.ptr 1000000 0 0,int .i64 r] [.abs (sT L)] (.own 1000001 0 0 (de L r).length) [.abs (sT L),j7 (de L r)]:=
 bbe (F:=SF L) (F':=SF L) rfl (ex:=[j7 (de L r)]) (fun os h=>by
  obtain ⟨es,c,ns,ce,cc,h,rfl⟩:=h;exact ⟨_,⟨_,_,_,_,_,h,rfl⟩,bcj h hl r hr⟩) rfl (by
  intro o ho;simp at ho;subst ho;intro x hx;obtain ⟨n,_,rfl⟩:=zax.1 hx
  trivial) (by simp [ba])

def anf:Mk P0 f37:={ x:=_ }
theorem aqp:b8 37 2 anf:=b7 func37
def tw (t:Til) (n:Int):Bool:=tch (o7 n.toNat t.r.toNat) t.r.toNat (2^(30-t.z).toNat) t.x t.y
def dv (L:List Pt) (t:Til):List Int:=(de L t.r.toNat).filter (tw t)
theorem avu {L:List Pt} {r i:Nat} {n:Int} (h:(de L r)[i]?=some n):∃p∈L,n=((p.w r:Nat):Int):=by
 have h1:=zbm h;unfold de zy at h1;rw [List.mem_mergeSort] at h1;obtain ⟨w,hw,rfl⟩:=zax.1 h1;obtain ⟨p,hp,e⟩:=atn.1 hw;exact ⟨p,hp,by rw [e]⟩
theorem u5 {ws:List Int} {i:Nat} {n:Int} (h:ws[i]?=some n) (z:RV):(aa ws).getD ((i:Int)).toNat z=.v (.int .u64 n):=by
 simp [zbh,aa,h]
theorem t5 {ws:List Int} {i:Nat} {n:Int} (h:ws[i]?=some n) (z:RV):(aa ws).getD (0+((i:Int)).toNat) z=.v (.int .u64 n):=by rw [zaa]; exact u5 h z
theorem ajl {C:List Int} {f:Int→Bool} {i:Nat} {n:Int} (h:C[i]?=some n):(C.take (i+1)).filter f=(C.take i).filter f++(if f n then [n] else []):=by
 rw [zbj,h,List.filter_append];simp only [Option.toList_some,List.filter_cons,List.filter_nil]
set_option maxHeartbeats 4000000 in
theorem vcells_t (L : List Pt) (hL : L.length < 13) (hok : ∀ p ∈ L, p.ok) (t : Til) (ht : t.ok) (hti : tis t = true) (hf : fine t = false) {res : AV} {ro : List Ob}
    (hres:(dv L t=[]∧res=.tup [.nils 1 (.v (.int .u64 0)),int .i64 0]∧ro=[.abs (sT L)])∨(dv L t≠[]∧res=.tup [.own 1000001 0 0 (dv L t).length,int .i64 0]∧ro=[.abs (sT L),j7 (dv L t)])) :
    a8 P0 37 [t.v,.ptr 1000000 0 0] [.abs (sT L)] res ro:=by
  refine aqp rfl (by simp) ?_;have hb:0≤t.z∧t.z≤18∧0≤t.r∧t.r≤12∧0≤t.x∧t.x<2^t.z.toNat∧0≤t.y∧t.y<2^t.z.toNat:=by simpa [tis] using hti
  have hO:=biv t ht;rw [hti,hf] at hO;simp only [if_true,Bool.false_eq_true,if_false] at hO;have f0:((0:Int) != 0)=false:=rfl
  push_cast [anf,Til.v,zai,zab]
  refine b5 (as':=[t.v]) rfl ?_;refine a6 hO rfl trivial ?_
  push_cast [f0]
  refine b5 (as':=[t.v]) rfl ?_;refine a6 (a1e t hti) rfl trivial ?_
  push_cast [bxv]
  obtain ⟨R,hR⟩:∃R:Nat,t.r=R:=⟨t.r.toNat,by omega⟩
  have hca:=bgu L hL R (by omega);rw [hR];have hcl:=af9 L R;have hCat:=fun i n h=>avu (L:=L) (r:=R) (i:=i) (n:=n) h;have hsh:dv L t=(de L R).filter (tw t):=by unfold dv; rw [hR,zac]
  rw [hsh] at hres;generalize de L R=C at *;refine a6 hca rfl ⟨rfl,trivial⟩ ?_
  push_cast [j7]
  obtain ⟨BX,hBX⟩:∃BX,bxv (t.x*2^(30-t.z).toNat) (t.y*2^(30-t.z).toNat) ((t.x+1)*2^(30-t.z).toNat) ((t.y+1)*2^(30-t.z).toNat)=.r BX:=⟨_,rfl⟩
  have hfn:aar P0 68=true:=rfl;have hmx:=d7;have hin:=yk hti;have hs2:=uf (show 0≤t.z∧t.z≤18 by omega)
  have hfts:∀p∈L,a8 P0 68 [.r BX,cel R (o7 (p.w R) R)] [] (bl (tw t ((p.w R:Nat):Int))) []:=fun p hp=>by
    have hpo:=hok p hp;have hk:=jo p.x p.y R hpo.2.1.1 hpo.2.1.2 (by omega);obtain ⟨c1,c2,c3,c4⟩:=kj R _ hk;have hwe:p.w R=s9 R (d9 p.x p.y R):=rfl;have hz:o7 (p.w R) R=d9 p.x p.y R:=by rw [hwe,c3]
    have hl:=asz p.x p.y R (by omega)
    have:=avf (d9 p.x p.y R) (R:Int) (by omega) (by rw [zac]; exact hk) (t.x*2^(30-t.z).toNat) (t.y*2^(30-t.z).toNat) ((t.x+1)*2^(30-t.z).toNat) ((t.y+1)*2^(30-t.z).toNat)
      (by rw [zac]; exact oq (by omega) hpo.2.1 hl) ⟨hin.1.1,by rw [Int.add_mul]; omega,hin.1.2⟩ ⟨hin.2.1,by rw [Int.add_mul]; omega,hin.2.2⟩
    rw [hBX] at this
    have e:tw t ((p.w R:Nat):Int)=mt (d9 p.x p.y R) R (3*(t.x*2^(30-t.z).toNat)) (3*(t.y*2^(30-t.z).toNat)) (3*((t.x+1)*2^(30-t.z).toNat)) (3*((t.y+1)*2^(30-t.z).toNat)):=by
      unfold tw tch;rw [zac,hR,zac,hz]
    rw [e,hz];rw [zac] at this;exact this
  refine run_loop [(26, false), (25, false), (24, false), (7, false), (8, false)] (fun vs pos los => ∃ i : Nat, i ≤ C.length ∧ pos = [.abs (sT L)] ∧
      ((C.take i).filter (tw t)=[]∧vs=[int .i64 i,int .i64 C.length,.own 2000000 0 0 C.length,.fn (.func 68) [.r BX] 1,.nils 1 (.v (.int .u64 0))]∧los=[j7 C] ∨
       (C.take i).filter (tw t)≠[]∧vs=[int .i64 i,int .i64 C.length,.own 2000000 0 0 C.length,.fn (.func 68) [.r BX] 1,.own 2000001 0 0 ((C.take i).filter (tw t)).length]∧los=[j7 C,j7 ((C.take i).filter (tw t))]))
    (fun vs _ _=>match vs with | .r (.v (.int _ j))::_=>(C.length-j).toNat | _=>0) rfl ?_ ?_
  · unfold bxv at hBX;cases hBX
    push_cast [j7]
    exact ⟨0,by omega,by simp⟩
  · rintro vs pos los ⟨i,hi,rfl,⟨h0,rfl,rfl⟩ | ⟨h0,rfl,rfl⟩⟩
    · have hFl:True:=trivial
      push_cast [j7]
      refine b6 (fun h=>?_) (fun h=>?_)
      · have hi':i<C.length:=by simpa using h
        obtain ⟨n,hn⟩:∃n,C[i]?=some n:=⟨C[i],by simp [hi']⟩
        obtain ⟨p,hp,rfl⟩:=hCat i n hn;have hpo:=hok p hp;have hwr:=Pt.w_res hpo (show R<13 by omega);have hic:=aw5 (p.w R) hwr.2.2 hwr.1;rw [hwr.2.1] at hic;have wk:IntKind.i64.wrap ((i:Int)+1)=(i:Int)+1:=a5 (by omega);have hft:=hfts p hp;have htk:=ajl (f:=tw t) hn
        push_cast [u5 hn,t5 hn,j7,j6,hfn]
        repeat refine And.intro (by first | decide | omega | exact fun _=>by decide | (simp +contextual; done) | kernel_rfl) ?_
        refine a6 hic rfl trivial ?_
        push_cast [cel,hfn,j7]
        refine b5 (as':=[.r BX,cel R (o7 (p.w R) R)]) rfl ?_;refine a6 hft rfl trivial ?_
        push_cast [j7]
        refine b6 (fun hc=>?_) (fun hc=>?_)
        · rw [if_pos hc] at htk
          push_cast [wk,j7,j6]
          repeat refine And.intro (by first | decide | omega | exact fun _=>by decide | (simp +contextual; done) | kernel_rfl) ?_
          exact ⟨⟨i+1,by omega,.inr ⟨by rw [htk]; simp,by rw [htk,h0]; rfl,by rw [htk,h0]; rfl⟩⟩,by omega⟩
        · rw [if_neg (by rw [hc]; simp)] at htk
          push_cast [wk,j7,j6]
          exact ⟨⟨i+1,by omega,.inl ⟨by rw [htk,h0]; rfl,by simp⟩⟩,by omega⟩
      · have hi2:i=C.length:=by
          have:¬i<C.length:=by simpa using h
          omega
        rw [hi2,zas] at h0;rcases hres with ⟨g0,rfl,rfl⟩ | ⟨g0,rfl,rfl⟩
        · push_cast
        · exact absurd h0 g0
    · have hFl:((C.take i).filter (tw t)).length≤50:=Nat.le_trans (List.length_filter_le ..) (by simp; omega)
      push_cast [j7]
      refine b6 (fun h=>?_) (fun h=>?_)
      · have hi':i<C.length:=by simpa using h
        obtain ⟨n,hn⟩:∃n,C[i]?=some n:=⟨C[i],by simp [hi']⟩
        obtain ⟨p,hp,rfl⟩:=hCat i n hn;have hpo:=hok p hp;have hwr:=Pt.w_res hpo (show R<13 by omega);have hic:=aw5 (p.w R) hwr.2.2 hwr.1;rw [hwr.2.1] at hic;have wk:IntKind.i64.wrap ((i:Int)+1)=(i:Int)+1:=a5 (by omega);have hft:=hfts p hp;have htk:=ajl (f:=tw t) hn
        push_cast [u5 hn,t5 hn,j7,j6,hfn]
        repeat refine And.intro (by first | decide | omega | exact fun _=>by decide | (simp +contextual; done) | kernel_rfl) ?_
        refine a6 hic rfl trivial ?_
        push_cast [cel,hfn,j7]
        refine b5 (as':=[.r BX,cel R (o7 (p.w R) R)]) rfl ?_;refine a6 hft rfl trivial ?_
        push_cast [j7]
        refine b6 (fun hc=>?_) (fun hc=>?_)
        · rw [if_pos hc] at htk
          push_cast [wk,j7,j6]
          repeat refine And.intro (by first | decide | omega | exact fun _=>by decide | (simp +contextual; done) | kernel_rfl) ?_
          exact ⟨⟨i+1,by omega,.inr ⟨by rw [htk]; simp,by rw [htk]; simp,by rw [htk]; simp only [aa,List.map_append]; rw [zal (by simp)]; rfl⟩⟩,by omega⟩
        · rw [if_neg (by rw [hc]; simp)] at htk
          push_cast [wk,j7,j6]
          exact ⟨⟨i+1,by omega,.inr ⟨by rw [htk]; simpa using h0,by rw [htk]; simp,by rw [htk]; simp [aa]⟩⟩,by omega⟩
      · have hi2:i=C.length:=by
          have:¬i<C.length:=by simpa using h
          omega
        rw [hi2,zas] at h0;rw [hi2,zas];rcases hres with ⟨g0,rfl,rfl⟩ | ⟨g0,rfl,rfl⟩
        · exact absurd g0 h0
        · push_cast [j7]

def afj:Mk P0 f93:={ x:=_ }
theorem alt:b8 93 1 afj:=b7 func93
def jr (x:Int) (S:List Int):Nat:=(S.takeWhile fun y=>decide (y<x)).length
def kb (x:Int) (S:List Int):List Int:=if S[jr x S]?=some x then S else S.take (jr x S)++x::S.drop (jr x S)
def ni (ws:List Int):List Int:=ws.foldl (fun S x=>kb x S) []
def Up (S:List Int):Prop:=S.Pairwise (· < ·)
theorem bgm (x:Int) (S:List Int):jr x S≤S.length:=(List.takeWhile_sublist _).length_le
theorem axd {x:Int}:∀{S:List Int} {j:Nat} {y:Int},j<jr x S→S[j]?=some y→y<x
 | [],j,y,h,hy=>by simp at hy
 | a::S,j,y,h,hy=>by
  unfold jr at h;rw [List.takeWhile_cons] at h;by_cases ha:a<x
  ·simp only [ha,decide_true,if_true,zai] at h;cases j with
   | zero=>simp at hy; omega
   | succ j=>exact axd (S:=S) (j:=j) (by unfold jr; omega) (by simpa using hy)
  ·simp [ha] at h
theorem aqh {x:Int}:∀{S:List Int},Up S→∀{j:Nat} {y:Int},jr x S≤j→S[j]?=some y→x≤y
 | [],_,j,y,h,hy=>by simp at hy
 | a::S,hS,j,y,h,hy=>by
  have h1:=List.pairwise_cons.1 hS;unfold jr at h;rw [List.takeWhile_cons] at h;by_cases ha:a<x
  ·simp only [ha,decide_true,if_true,zai] at h;obtain ⟨j',rfl⟩:∃j',j=j'+1:=⟨j-1,by omega⟩
   exact aqh (S:=S) h1.2 (j:=j') (by unfold jr; omega) (by simpa using hy)
  ·cases j with
   | zero=>simp at hy; omega
   | succ j=>
    have:=h1.1 y (zbm (by simpa using hy));omega
theorem bgn {x:Int} {S:List Int} (hS:Up S) {k:Nat} (hk:k≤S.length) (h1:∀j y,j<k→S[j]?=some y→y<x) (h2:∀j y,k≤j→S[j]?=some y→x≤y):jr x S=k:=by
 have hc:=bgm x S;rcases Nat.lt_trichotomy (jr x S) k with h | h | h
 ·obtain ⟨y,hy⟩:∃y,S[jr x S]?=some y:=⟨S[jr x S]'(by omega),by simp [show jr x S<S.length by omega]⟩
  have a:=h1 _ y h hy;have b:=aqh hS (zam _) hy;omega
 ·exact h
 ·obtain ⟨y,hy⟩:∃y,S[k]?=some y:=⟨S[k]'(by omega),by simp [show k<S.length by omega]⟩
  have a:=axd h hy;have b:=h2 k y (zam _) hy;omega
theorem bbu {x y:Int} {S:List Int}:y∈kb x S↔y=x∨y∈S:=by
 unfold kb;split
 ·rename_i h;constructor
  ·exact .inr
  ·rintro (rfl | h2)
   ·exact zbm h
   ·exact h2
 ·rw [zbd,zbb]
  conv=>rhs; rw [← List.take_append_drop (jr x S) S,zbd]
  constructor
  ·rintro (h | h | h)
   ·exact .inr (.inl h)
   ·exact .inl h
   ·exact .inr (.inr h)
  ·rintro (h | h | h)
   ·exact .inr (.inl h)
   ·exact .inl h
   ·exact .inr (.inr h)
theorem bf8 {x:Int} {S:List Int} (hS:Up S):Up (kb x S):=by
 unfold kb;split
 ·exact hS
 ·rename_i hne
  have hlo:∀y∈S.take (jr x S),y<x:=fun y hy=>by
   obtain ⟨j,hj⟩:=zbi hy;rw [List.getElem?_take] at hj;split at hj
   ·exact axd (by assumption) hj
   ·cases hj
  have hhi:∀y∈S.drop (jr x S),x<y:=fun y hy=>by
   obtain ⟨j,hj⟩:=zbi hy;rw [List.getElem?_drop] at hj;have h1:=aqh (x:=x) hS (by omega) hj
   have h0:x≠y:=fun e=>by
    subst e;have hc0:jr x S<S.length:=by have:=(zat.1 hj).1; omega
    obtain ⟨z,hz⟩:∃z,S[jr x S]?=some z:=⟨S[jr x S],by simp [hc0]⟩
    have h2:=aqh (x:=x) hS (zam _) hz;by_cases hj0:j=0
    ·subst hj0; exact hne hj
    ·have h3:=(zbw.1 hS) (jr x S) (jr x S+j) hc0 (by have:=(zat.1 hj).1; omega) (by omega);rw [(zat.1 hz).2,(zat.1 hj).2] at h3;omega
   omega
  unfold Up at *;rw [List.pairwise_append,List.pairwise_cons];refine ⟨hS.sublist (List.take_sublist ..),⟨hhi,hS.sublist (List.drop_sublist ..)⟩,fun a ha b hb=>?_⟩;rcases zbb.1 hb with rfl | hb
  ·exact hlo a ha
  ·have:=hlo a ha;have:=hhi b hb;omega
theorem aok:∀(ws S:List Int),Up S→Up (ws.foldl (fun S x=>kb x S) S)∧∀y,y∈ws.foldl (fun S x=>kb x S) S↔y∈S∨y∈ws
 | [],S,h=>⟨h,by simp⟩
 | x::ws,S,h=>by
  obtain ⟨h1,h2⟩:=aok ws (kb x S) (bf8 h);refine ⟨h1,fun y=>?_⟩;rw [List.foldl_cons,h2,bbu,zbb];constructor
  ·rintro ((h | h) | h)
   ·exact .inr (.inl h)
   ·exact .inl h
   ·exact .inr (.inr h)
  ·rintro (h | h | h)
   ·exact .inl (.inr h)
   ·exact .inl (.inl h)
   ·exact .inr h
theorem bbv (x:Int) (S:List Int):(kb x S).length≤S.length+1:=by
 unfold kb;split
 ·omega
 ·rw [zad,zai,zbc,zan];omega

section
variable {P:Program} {f:FuncId}
theorem bbl {args:List AV} {po os:List Ob} {sz:Nat} {z:RV} {y:Value} (hpo:po.length≤os.length) (hsh:∀o∈os,imO (rc os.length) o=o)
  (h:a8 P f args po (.tup [.nils sz z,.r (.v y)]) os):a8 P f args po (.tup [.own (1000000+os.length) 0 0 0,.r (.v y)]) (os++[.row sz z true true []]):=by
 intro w cargs ρ B hgl hB hM hcs hargs;refine (h w cargs ρ B hgl hB hM hcs hargs).mono ?_;rintro e w' ⟨c,ρ',rfl,hM',hr⟩
 obtain ⟨cs,rfl,hcl,hcr⟩:∃cs:Array Value,c=.tuple cs∧cs.size=2∧∀(i:Nat) (x:AV) (d:Value),([.nils sz z,.r (.v y)]:List AV)[i]?=some x→cs[i]?=some d→RelA w' (g8 B (ob0 os) ρ' w') (ob0 os) ρ' x d:=by
  cases hr with
  | tup _ cs hl h=>exact ⟨cs,rfl,hl,h⟩
 have hin:∀(x:Ob) (i:Nat) (o:Ob),os[i]?=some o→ob0 (os++[x]) (1000000+i)=some (0,o):=fun x i o ho=>j9 (by rw [zbl (zat.1 ho).1]; exact ho);have hla:∀x:Ob,ob0 (os++[x]) (1000000+os.length)=some (0,x):=fun x=>j9 (by simp)
 have hat:∀(y:Ob) (id:Nat) (x:Nat×Ob),ob0 (os++[y]) id=some x→(∃i o,i<os.length∧id=1000000+i∧os[i]?=some o∧x=(0,o))∨(id=1000000+os.length∧x=(0,y)):=fun y id x hx=>by
  obtain ⟨i,hi,rfl,ho,hv⟩:=bt hx;by_cases hlt:i<os.length
  ·rw [zbl hlt] at ho;exact .inl ⟨i,x.2,hlt,rfl,ho,by rw [← hv]⟩
  ·have:i=os.length:=by simp at hi; omega
   subst this;rw [List.getElem?_append_right (zam _)] at ho;simp at ho;exact .inr ⟨rfl,by rw [ho,← hv]⟩
 obtain ⟨ρ2,r1,r2,r3,r4⟩:∃ρ2:Pl→Option Nat,(∀i,i<os.length→ρ2 (.o (1000000+i))=ρ' (.o (1000000+i)))∧(∀i j,i<os.length→ρ2 (.s (1000000+i) j)=ρ' (.s (1000000+i) j))∧ρ2 (.o (1000000+os.length))=none∧(∀j,ρ2 (.s (1000000+os.length) j)=none):=
  ⟨fun | .o i=>if i=1000000+os.length then none else ρ' (.o i) | .s i j=>if i=1000000+os.length then none else ρ' (.s i j),fun i hi=>by simp only; rw [if_neg (by omega)],fun i j hi=>by simp only; rw [if_neg (by omega)],by simp,by simp⟩
 have hft:∀(id:Nat) (x:Nat×Ob) (b:Nat),ob0 (os++[Ob.row sz z true true []]) id=some x→foot ρ2 id x.2 b→ob0 os id=some x∧foot ρ' id x.2 b:=fun id x b hx hf=>by
  rcases hat _ id x hx with ⟨i,o,hi,rfl,ho,rfl⟩ | ⟨rfl,rfl⟩
  ·refine ⟨j9 ho,?_⟩;rcases hf with q | ⟨ha,j,q⟩
   ·exact .inl (by rw [← r1 i hi]; exact q)
   ·exact .inr ⟨ha,j,by rw [← r2 i j hi]; exact q⟩
  ·rcases hf with q | ⟨ha,j,q⟩
   ·rw [r3] at q; cases q
   ·cases ha
 have hfree:∀c,g8 B (ob0 os) ρ' w' c→g8 B (ob0 (os++[Ob.row sz z true true []])) ρ2 w' c:=fun c hc=>⟨hc.1,fun ⟨id,v,o,g1,g2,g3⟩=>by
  obtain ⟨q1,q2⟩:=hft id _ c g1 g3
  exact hc.2.1 ⟨id,v,o,q1,g2,q2⟩,hc.2.2⟩
 have hF:ae8 (ob0 os) (ob0 (os++[Ob.row sz z true true []])) ρ' ρ2 (rc os.length):=fun id ver j u hf=>by
  unfold rc at hf;split at hf
  ·rename_i hc;cases hf;obtain ⟨rfl,hc1,hc2⟩:=hc;obtain ⟨q,rfl⟩:∃q,id=1000000+q:=⟨id-1000000,by omega⟩
   have hq:os[q]?=some (os[q]'(by omega)):=by simp [show q<os.length by omega]
   exact ⟨_,_,j9 hq,hin _ q _ hq,r1 q (by omega),ag.refl _⟩
  ·cases hf
 refine ⟨_,ρ2,rfl,⟨fun id v o hx=>?_,fun id id' x x' b hx hx' hf hf'=>?_,hM'.keeps,fun id v o b hx hf=>?_,fun id b hp=>?_⟩,?_⟩
 ·rcases hat _ id _ hx with ⟨i,o',hi,rfl,ho,hx2⟩ | ⟨rfl,hx2⟩
  ·cases hx2;have:=(hM'.obj (1000000+i) 0 o (j9 ho)).im hfree hF (i:=1000000+i) (r1 i hi) (fun j=>r2 i j hi)
   rwa [hsh o (zbm ho)] at this
  ·cases hx2;exact .inl ⟨rfl,r3,rfl⟩
 ·obtain ⟨q1,q2⟩:=hft id x b hx hf;obtain ⟨q1',q2'⟩:=hft id' x' b hx' hf';exact hM'.inj id id' x x' b q1 q1' q2 q2'
 ·obtain ⟨q1,q2⟩:=hft id _ b hx hf;exact hM'.own id v o b q1 q2
 ·obtain ⟨q1,o,q2,q3⟩:=hM'.pin id b hp;obtain ⟨i,hi,rfl,ho,_⟩:=bt q2;exact ⟨by rw [r1 i hi]; exact q1,o,hin _ i o ho,q3⟩
 ·refine .tup _ cs hcl fun i x d hx hd=>?_
  match i,hx with
  | 0,hx=>
   simp at hx;subst hx;have h0:=hcr 0 _ d rfl hd;cases h0;exact .own _ _ _ _ _ rfl ⟨0,_,hla _,zam _,fun _=>⟨none,0,rfl,zam _,by simp,by simp,by simp⟩⟩
  | 1,hx=>
   simp at hx;subst hx;have h0:=hcr 1 _ d rfl hd;cases h0 with
   | r h0=>exact .r (h0.mono fun b hb=>⟨hfree b hb,rfl⟩)
end
theorem baa (L:List Pt) (hL:L.length<13) (hok:∀p∈L,p.ok) (t:Til) (ht:t.ok) (hti:tis t=true) (hf:fine t=false) :
  a8 P0 37 [t.v,.ptr 1000000 0 0] [.abs (sT L)] (.tup [.own 1000001 0 0 (dv L t).length,int .i64 0]) [.abs (sT L),j7 (dv L t)]:=by
 by_cases h:dv L t=[]
 ·have:=bbl (os:=[.abs (sT L)]) (by simp) (by simp [imO]) (vcells_t L hL hok t ht hti hf (.inl ⟨h,rfl,rfl⟩));rw [h];exact this
 ·exact vcells_t L hL hok t ht hti hf (.inr ⟨h,rfl,rfl⟩)

theorem bfg {M:List RV} {z x:RV} {r:Nat} (h:r≤M.length) :
  (c9 (M++[z]) (r+1) ((((M++[z]).drop r).take (M.length+1-r)).take (M.length+1-(r+1)))).set r x=M.take r++x::M.drop r:=by
 have e1:(((M++[z]).drop r).take (M.length+1-r)).take (M.length+1-(r+1))=M.drop r:=by
  rw [List.take_take,zbn (by omega),List.drop_append_of_le_length h,List.take_append_of_le_length (by rw [zan]; omega),zal (by rw [zan]; omega)]
 rw [e1];apply List.ext_getElem?;intro j;have hl:(M++[z]).length=M.length+1:=by simp
 have hd:(M.drop r).length=M.length-r:=by simp
 rw [List.getElem?_set,m9 (by rw [hl,hd]; omega),hl,z8 (by rw [hl,hd]; omega),hd,List.getElem?_append (l₁:=M.take r)];have ht:(M.take r).length=r:=by simp; omega
 rw [ht];by_cases h1:r=j
 ·subst h1;rw [if_pos rfl,if_pos (by omega),if_neg (by omega)];simp
 ·rw [if_neg h1];by_cases h2:j<r
  ·rw [if_neg (by omega),if_pos h2,zbl (by omega),List.getElem?_take,if_pos h2]
  ·rw [if_neg h2];obtain ⟨m,rfl⟩:∃m,j=r+1+m:=⟨j-(r+1),by omega⟩
   rw [show r+1+m-r=m+1 by omega,List.getElem?_cons_succ];by_cases h3:r+1+m<r+1+(M.length-r)
   ·rw [if_pos ⟨by omega,h3⟩,show r+1+m-(r+1)=m by omega]
   ·rw [if_neg (by omega),zbq (by rw [hl]; omega),zbq (by rw [hd]; omega)]
theorem baz {M:List RV} (z:RV) {r n:Nat} (hn:M.length=n) (h:r≤n) :
  ∃W,spl (M++[z]) (0+((r:Int)+1).toNat) (zah ((n:Int)+1-((r:Int)+1)).toNat (zah ((n:Int)+1-(r:Int)).toNat (zaq (0+((r:Int)).toNat) (M++[z]))))=W ∧
   W.length=n+1∧(∀x,W.set r x=M.take r++x::M.drop r)∧W[r]?=(M++[z])[r]?:=by
 refine ⟨_,rfl,?_⟩;subst hn;have e1:0+((r:Int)+1).toNat=r+1:=by omega
 have e2:((M.length:Int)+1-((r:Int)+1)).toNat=M.length+1-(r+1):=by omega
 have e3:((M.length:Int)+1-(r:Int)).toNat=M.length+1-r:=by omega
 have e4:0+((r:Int)).toNat=r:=by omega
 rw [e1,e2,e3,e4];unfold spl;have hl:(M++[z]).length=M.length+1:=by simp
 have hfit:r+1+(zah (M.length+1-(r+1)) (zah (M.length+1-r) (zaq r (M++[z])))).length≤(M++[z]).length:=by
  rw [zbc,zbc,zan,hl];omega
 refine ⟨by rw [m9 hfit,hl],fun x=>bfg h,?_⟩;rw [z8 hfit,if_neg (by omega)]
theorem az0 (C:List Int):zah C.length (aa C)=aa C:=zal (by rw [j6]; omega)
theorem a2y (ws:List Int) (k:Nat):∃x:Int,(aa ws).getD k (.v (.int .u64 0))=.v (.int .u64 x):=by
 rw [zaw];unfold aa;rw [zay];cases ws[k]? with
 | none=>exact ⟨0,rfl⟩
 | some x=>exact ⟨x,rfl⟩
theorem bf6 (S:List Int) {r:Nat} (h:r≤S.length) :
  ∃(W:List RV) (g:Int),spl (aa S++[.v (.int .u64 0)]) (0+((r:Int)+1).toNat) (zah ((S.length:Int)+1-((r:Int)+1)).toNat (zah ((S.length:Int)+1-(r:Int)).toNat (zaq (0+((r:Int)).toNat) (aa S++[.v (.int .u64 0)]))))=W ∧
   W.getD (0+((r:Int)).toNat) (.v (.int .u64 0))=.v (.int .u64 g)∧∀x:Int,W.set (0+((r:Int)).toNat) (.v (.int .u64 x))=aa (S.take r++x::S.drop r):=by
 obtain ⟨W,hW,hWl,hWs,hWr⟩:=baz (M:=aa S) (.v (.int .u64 0)) (r:=r) (n:=S.length) (j6 S) h
 obtain ⟨g,hg⟩:∃g:Int,W[r]?=some (.v (.int .u64 g)):=by
  rw [hWr];by_cases hrl2:r<S.length
  ·exact ⟨S[r],by rw [zbl (by rw [j6]; exact hrl2)]; simp [aa,hrl2]⟩
  ·exact ⟨0,by rw [List.getElem?_append_right (by rw [j6]; omega),j6]; simp [show r-S.length=0 by omega]⟩
 refine ⟨W,g,hW,by simp [zbh,hg],fun x=>?_⟩;rw [show 0+((r:Int)).toNat=r by omega,hWs];simp [aa,List.map_take,List.map_drop]
theorem ayt {x:Int} {S:List Int} {r:Nat} (h:kb x S=S.take r++x::S.drop r) (hr:r≤S.length):kb x S≠[]∧(kb x S).length=S.length+1:=by
 rw [h];refine ⟨by simp,?_⟩;rw [zad,zai,zbc,zan];omega
theorem ax0 {ws:List Int} {i:Nat} {x:Int} (h:ws[i]?=some x):ni (ws.take (i+1))=kb x (ni (ws.take i)):=by
 unfold ni;rw [zbj,h,List.foldl_append]
 rfl
theorem az8 (ws:List Int):(ni ws).length≤ws.length:=by
 have key:∀(l S:List Int),(l.foldl (fun S x=>kb x S) S).length≤S.length+l.length:=fun l=>by
  induction l with
  | nil=>intro S; simp
  | cons x l ih=>
   intro S;have:=ih (kb x S);have:=bbv x S;simp only [List.foldl_cons,zai];omega
 have:=key ws [];unfold ni;simpa using this
theorem beo (ws:List Int):Up (ni ws):=(aok ws [] List.Pairwise.nil).1
set_option maxHeartbeats 4000000 in
theorem set_t (ws : List Int) (hl : ws.length ≤ 1000) {res : AV} {ro : List Ob}
    (hres:(ni ws=[]∧res=.nils 1 (.v (.int .u64 0))∧ro=[])∨(ni ws≠[]∧res=.own 1000000 0 0 (ni ws).length∧ro=[j7 (ni ws)])) :
    a8 P0 93 [.r (.sl 1 (aa ws))] [] res ro:=by
  refine alt rfl (by decide) ?_;have hmx:=d7;simp only [afj,push_cast]
  refine run_loop [(4, false), (0, false), (3, false)] (fun vs pos los => ∃ i : Nat, i ≤ ws.length ∧ pos = [] ∧
      (ni (ws.take i)=[]∧vs=[int .i64 i,.r (.sl 1 (aa ws)),.nils 1 (.v (.int .u64 0))]∧los=[] ∨
       ni (ws.take i)≠[]∧vs=[int .i64 i,.r (.sl 1 (aa ws)),.own 2000000 0 0 (ni (ws.take i)).length]∧los=[j7 (ni (ws.take i))]))
    (fun vs _ _=>match vs with | .r (.v (.int _ j))::_=>(ws.length-j).toNat | _=>0) rfl ?_ ?_
  · simp only [push_cast,↓reduceIte,reduceCtorEq,zE,zA];exact ⟨0,by omega,.inl ⟨rfl,rfl⟩⟩
  · rintro vs pos los ⟨i,hi,rfl,⟨h0,rfl,rfl⟩ | ⟨h0,rfl,rfl⟩⟩
    · simp only [j6,push_cast,↓reduceIte,reduceCtorEq,zE];refine b6 (fun h=>?_) (fun h=>?_)
      · have hi':i<ws.length:=by simpa using h
        obtain ⟨x,hx⟩:∃x,ws[i]?=some x:=⟨ws[i],by simp [hi']⟩
        have wk:IntKind.i64.wrap ((i:Int)+1)=(i:Int)+1:=a5 (by omega);have hs:=ax0 hx;rw [h0] at hs;have hs1:ni (ws.take (i+1))=[x]:=by rw [hs]; rfl
        have d0:decide ((0:Int)<0)=false:=by decide
        simp only [push_cast,↓reduceIte,reduceCtorEq,zE];refine run_loop [(5,false),(6,false),(4,false),(0,false),(3,false)] (fun vs pos los=>vs=[int .i64 0,int .i64 0,int .i64 i,.r (.sl 1 (aa ws)),.nils 1 (.v (.int .u64 0))]∧pos=[]∧los=[]) (fun _ _ _=>0) rfl ?_ ?_
        · simp only [push_cast,↓reduceIte,reduceCtorEq,zE,zA]
        · rintro vs pos los ⟨rfl,rfl,rfl⟩;simp only [d0,u5 hx,j6,wk,push_cast,↓reduceIte,reduceCtorEq,zE,zA,zL,zD,zM]
          repeat refine And.intro (by first | decide | omega | exact fun _=>by decide | (simp +contextual; done) | kernel_rfl) ?_
          have w01:IntKind.i64.wrap (0+1)=1:=rfl;have hsp:spl [RV.v (Value.int IntKind.u64 0)] (0+zau 1) (zah (1-1:Int).toNat (zah (1-0:Int).toNat (zaq (0+zau 0) [RV.v (Value.int IntKind.u64 0)])))=[RV.v (Value.int IntKind.u64 0)]:=rfl;simp only [w01,hsp];refine ⟨⟨i+1,by omega,.inr ⟨by rw [hs1]; simp,?_⟩⟩,by omega⟩;rw [hs1];exact ⟨rfl,rfl⟩
      · have hi2:i=ws.length:=by
          have:¬i<ws.length:=by simpa using h
          omega
        rw [hi2,zas] at h0;rcases hres with ⟨g0,rfl,rfl⟩ | ⟨g0,rfl,rfl⟩
        · simp only [push_cast,↓reduceIte,reduceCtorEq,zE,zA]
        · exact absurd h0 g0
    · have hSl:=az8 (ws.take i);have hSl2:(ws.take i).length≤1000:=by simp; omega
      have hUp:=beo (ws.take i);simp only [j6,j7,push_cast,↓reduceIte,reduceCtorEq,zE];refine b6 (fun h=>?_) (fun h=>?_)
      · have hi':i<ws.length:=by simpa using h
        obtain ⟨x,hx⟩:∃x,ws[i]?=some x:=⟨ws[i],by simp [hi']⟩
        have wk:IntKind.i64.wrap ((i:Int)+1)=(i:Int)+1:=a5 (by omega);have hs:=ax0 hx;have hSi:=hs;generalize ni (ws.take i)=S at *;simp only [push_cast,↓reduceIte,reduceCtorEq,zE]
        refine run_loop [(5, false), (6, false), (4, false), (0, false), (3, false)] (fun vs pos los => ∃ lo hi : Nat, lo ≤ hi ∧ hi ≤ S.length ∧ (∀ j y, j < lo → S[j]? = some y → y < x) ∧ (∀ j y, hi ≤ j → S[j]? = some y → x ≤ y) ∧
            vs=[int .i64 lo,int .i64 hi,int .i64 i,.r (.sl 1 (aa ws)),.own 2000000 0 0 S.length]∧pos=[]∧los=[j7 S])
          (fun vs _ _=>match vs with | .r (.v (.int _ a)) :: .r (.v (.int _ b))::_=>(b-a).toNat | _=>0) rfl ?_ ?_
        · simp only [j7,push_cast,↓reduceIte,reduceCtorEq,zE,zA,zL,zD];refine ⟨0,S.length,by omega,by omega,fun j y hj=>by omega,fun j y hj hy=>?_,rfl⟩;rw [zbq (by omega)] at hy;cases hy
        · rintro vs pos los ⟨lo,hi2,g1,g2,g3,g4,rfl,rfl,rfl⟩;simp only [j7,push_cast,↓reduceIte,zE];refine b6 (fun hc=>?_) (fun hc=>?_)
          · have hlh:lo<hi2:=by simpa using hc
            obtain ⟨m,hm⟩:∃m,(lo+hi2)/2=m:=⟨_,rfl⟩
            have w1:IntKind.i64.wrap ((lo:Int)+hi2)=(lo:Int)+hi2:=a5 (by omega);have w2:((lo:Int)+hi2).tdiv 2=(m:Int):=by rw [zbr (by omega)]; omega
            have w3:IntKind.i64.wrap (m:Int)=(m:Int):=a5 (by omega);have w4:IntKind.i64.wrap ((m:Int)+1)=(m:Int)+1:=a5 (by omega);obtain ⟨ym,hym⟩:∃y,S[m]?=some y:=⟨S[m]'(by omega),by simp [show m<S.length by omega]⟩
            simp only [w1,w2,w3,u5 hx,t5 hym,j6,push_cast,↓reduceIte,reduceCtorEq,zE,zA,zL]
            repeat refine And.intro (by first | decide | omega | exact fun _=>by decide | (simp +contextual; done) | kernel_rfl) ?_
            refine b6 (fun hd=>?_) (fun hd=>?_)
            · have hlt:ym<x:=by simpa using hd
              simp only [w4,push_cast,↓reduceIte,reduceCtorEq,zE,zA,zL,zD];refine ⟨⟨m+1,hi2,by omega,by omega,fun j y hj hy=>?_,g4,by simp⟩,by omega⟩;by_cases hjm:j=m
              · subst hjm; rw [hym] at hy; cases hy; exact hlt
              · have:=(zbw.1 hUp) j m (zat.1 hy).1 (zat.1 hym).1 (by omega);rw [(zat.1 hy).2,(zat.1 hym).2] at this;omega
            · have hge:x≤ym:=by simpa using hd
              simp only [push_cast,↓reduceIte,reduceCtorEq,zE,zA,zL,zD];refine ⟨⟨lo,m,by omega,by omega,g3,fun j y hj hy=>?_,by simp⟩,by omega⟩;by_cases hjm:j=m
              · subst hjm; rw [hym] at hy; cases hy; exact hge
              · have:=(zbw.1 hUp) m j (zat.1 hym).1 (zat.1 hy).1 (by omega);rw [(zat.1 hy).2,(zat.1 hym).2] at this;omega
          · have hlh:lo=hi2:=by
              have:¬lo<hi2:=by simpa using hc
              omega
            subst hlh;have hcut:=bgn hUp g2 g3 g4;have wl:IntKind.i64.wrap ((lo:Int)+1)=(lo:Int)+1:=a5 (by omega);obtain ⟨W,gw,hW1,hW2,hW3⟩:=bf6 S g2;by_cases hlen:lo<S.length
            · obtain ⟨yl,hyl⟩:∃y,S[lo]?=some y:=⟨S[lo],by simp [hlen]⟩
              have d1:decide ((lo:Int)<S.length)=true:=by simp; omega
              by_cases hxy:yl=x
              · have d2:(yl == x)=true:=by simp [hxy]
                have hins:kb x S=S:=by unfold kb; rw [hcut,hyl,hxy,if_pos rfl]
                simp only [d1,d2,wk,u5 hx,t5 hyl,j6,push_cast,↓reduceIte,reduceCtorEq,zE,zA,zL,zD]
                repeat refine And.intro (by first | decide | omega | exact fun _=>by decide | (simp +contextual; done) | kernel_rfl) ?_
                exact ⟨⟨i+1,by omega,.inr ⟨by rw [hs,hins]; exact h0,by rw [hs,hins]; rfl,by rw [hs,hins]⟩⟩,by omega⟩
              · have d2:(yl == x)=false:=by simp [hxy]
                have hins:kb x S=S.take lo++x::S.drop lo:=by unfold kb; rw [hcut,hyl,if_neg (fun e=>hxy (Option.some.inj e))]
                obtain ⟨hne,hinl⟩:=ayt hins g2;simp only [d1,d2,wk,wl,u5 hx,t5 hyl,j6,az0,hW1,hW2,push_cast,↓reduceIte,reduceCtorEq,zE,zA,zL,zD]
                repeat refine And.intro (by first | decide | omega | exact fun _=>by decide | (simp +contextual; done) | kernel_rfl) ?_
                rw [hW3];exact ⟨⟨i+1,by omega,.inr ⟨by rw [hs]; exact hne,by rw [hs,hinl]; simp,by rw [hs,hins]⟩⟩,by omega⟩
            · have d1:decide ((lo:Int)<S.length)=false:=by simp; omega
              have hins:kb x S=S.take lo++x::S.drop lo:=by unfold kb; rw [hcut,zbq (by omega),if_neg (by simp)]
              obtain ⟨hne,hinl⟩:=ayt hins g2;obtain ⟨x0,hx0⟩:=a2y S (0+((lo:Int)).toNat);obtain ⟨x1,hx1⟩:=a2y S ((lo:Int)).toNat;simp only [d1,wk,wl,hx0,u5 hx,j6,az0,hW1,hW2,push_cast,↓reduceIte,reduceCtorEq,zE,zA,zL,zD]
              repeat refine And.intro (by first | decide | omega | exact fun _=>by decide | (simp +contextual; done) | kernel_rfl) ?_
              rw [hW3];exact ⟨⟨i+1,by omega,.inr ⟨by rw [hs]; exact hne,by rw [hs,hinl]; simp,by rw [hs,hins]⟩⟩,by omega⟩
      · have hi2:i=ws.length:=by
          have:¬i<ws.length:=by simpa using h
          omega
        rw [hi2,zas] at h0 ⊢;rcases hres with ⟨g0,rfl,rfl⟩ | ⟨g0,rfl,rfl⟩
        · exact absurd g0 h0
        · simp only [j7,push_cast,↓reduceIte,reduceCtorEq,zE,zA,zL,zD]

open Go.RowKit
def zig (n:Int):Int:=if 0≤n then 2*n else -2*n-1
theorem azo (x:BitVec 64):(x ^^^ zae 64 18446744073709551615).toNat=18446744073709551615-x.toNat:=by
 have h:zae 64 18446744073709551615=BitVec.allOnes 64:=by decide
 rw [h,BitVec.xor_allOnes,BitVec.toNat_not]
theorem a97 (n:Int) (h1:-9223372036854775808≤n) (h2:n≤9223372036854775807) :
  bits BinOp.xor IntKind.u64 (IntKind.u64.wrap (wrap64 (n*2))) (IntKind.u64.wrap (n/9223372036854775808))=zig n:=by
 have e:IntKind.u64.wrap (wrap64 (n*2))=(n*2)%18446744073709551616:=by
  rw [IntKind.wrap_u64]; unfold wrap64; omega
 rw [e];unfold zig;by_cases h:0≤n
 ·have e2:n/9223372036854775808=0:=by omega
  rw [e2,if_pos h,u64_xor _ _ (by omega) (by omega) (by decide) (by decide)];have e3:(IntKind.u64.wrap 0).toNat=0:=by decide
  rw [e3,Nat.xor_zero];omega
 ·have e2:n/9223372036854775808=-1:=by omega
  have e3:IntKind.u64.wrap (-1)=18446744073709551615:=by decide
  rw [e2,if_neg h,e3];show IntKind.u64.wrap ((zae 64 _ ^^^ zae 64 18446744073709551615).toNat:Int) = _;rw [azo,zbx,IntKind.wrap_u64];omega
def rj:Nat→Nat→List UInt8
 | 0,_=>[]
 | f+1,n=>if n<128 then [zap n] else zap (n%128+128)::rj f (n/128)
def m6 (n:Nat):List UInt8:=rj 10 n
theorem bac (f:Nat):∀n,(rj f n).length≤f:=by
 induction f with
 | zero=>intro n; exact zam _
 | succ f ih=>
  intro n;rw [rj];split
  ·simp
  ·have:=ih (n/128); simp; omega
theorem ak (n:Nat):(m6 n).length≤10:=bac 10 n
theorem agw {f n:Nat} (h:127<n) (hf:n<128^f):∃f',f=f'+1∧1≤f'∧n/128<128^f'∧rj f n=zap (n%128+128)::rj f' (n/128):=by
 match f with
 | 0=>simp at hf; omega
 | f'+1=>
  refine ⟨f',rfl,?_,?_,?_⟩
  ·match f' with
   | 0=>simp at hf; omega
   | k+1=>omega
  ·rw [Nat.pow_succ] at hf;omega
  ·rw [rj,if_neg (by omega)]
theorem zp {f n:Nat} (h:n≤127) (hf:1≤f):rj f n=[zap n]:=by
 match f with
 | f'+1=>rw [rj,if_pos (by omega)]
def fv:Nat→Nat→List UInt8→Nat×Nat
 | _,_,[]=>(0,0)
 | i,n,c::t=>
  if (i=9∧1<c.toNat)∨(0<i∧c.toNat=0) then (0,0)
  else if c.toNat<128 then (n+c.toNat%128*2^(7*i),i+1) else fv (i+1) (n+c.toNat%128*2^(7*i)) t
def take (l:List UInt8):Nat×Nat:=fv 0 0 l
theorem atz (k m:Nat) (bs:List UInt8) (h:bs.length≤k):fv k m (bs.drop k)=(0,0):=by
 rw [List.drop_eq_nil_of_le h]; rfl
theorem asd {k m b:Nat} {bs:List UInt8} (h:k<bs.length) (hb:bs[k].toNat=b) (hc:(k=9∧1<b)∨(0<k∧b=0)):fv k m (bs.drop k)=(0,0):=by
 rw [zby h,fv,hb,if_pos hc]
theorem axw {k m b:Nat} {bs:List UInt8} (h:k<bs.length) (hb:bs[k].toNat=b) (hc:¬((k=9∧1<b)∨(0<k∧b=0))) (h2:b<128) :
  fv k m (bs.drop k)=(m+b%128*2^(7*k),k+1):=by
 rw [zby h,fv,hb,if_neg hc,if_pos h2]
theorem az1 {k m b:Nat} {bs:List UInt8} (h:k<bs.length) (hb:bs[k].toNat=b) (hc:¬((k=9∧1<b)∨(0<k∧b=0))) (h2:¬b<128) :
  fv k m (bs.drop k)=fv (k+1) (m+b%128*2^(7*k)) (bs.drop (k+1)):=by
 rw [zby h,fv,hb,if_neg hc,if_neg h2]
theorem axv {k m b:Nat} (hk:k≤9) (hm:m<2^(7*k)) (hb:b<256) (h9:k=9→b≤1) :
  bits BinOp.or IntKind.u64 (m:Int) (IntKind.u64.wrap (IntKind.u64.wrap (bits BinOp.and IntKind.u8 (b:Int) 127)*2^(7*k)))=((m+b%128*2^(7*k):Nat):Int):=by
 have e1:bits BinOp.and IntKind.u8 (b:Int) 127=((b%128:Nat):Int):=by
  have:=u8_and_nat b 127 hb (by decide);rw [nat_mask7] at this;exact this
 have hp:2^(7*k)≤2^63:=zbz (by decide) (by omega)
 have hq:b%128*2^(7*k)≤2^63:=by
  by_cases h:k=9
  ·have:=h9 h;exact Nat.le_trans (zca _ (show b%128≤1 by omega)) (by omega)
  ·have h8:2^(7*k)≤2^56:=zbz (by decide) (by omega);exact Nat.le_trans (Nat.mul_le_mul (show b%128≤127 by omega) h8) (by decide)
 have e2:IntKind.u64.wrap ((b%128:Nat):Int)=((b%128:Nat):Int):=by rw [IntKind.wrap_u64]; omega
 have e3:IntKind.u64.wrap (((b%128:Nat):Int)*2^(7*k))=((b%128*2^(7*k):Nat):Int):=by
  have e4:((b%128:Nat):Int)*2^(7*k)=((b%128*2^(7*k):Nat):Int):=by simp
  rw [e4,IntKind.wrap_u64];generalize b%128*2^(7*k)=x at *;omega
 rw [e1,e2,e3,u64_or_nat _ _ (by omega) (by omega)];congr 1;rw [Nat.or_comm,nat_join (7*k) _ _ (Nat.mul_mod_left _ _) hm,Nat.add_comm]
theorem adq {k m b:Nat} (hm:m<2^(7*k)):m+b%128*2^(7*k)<2^(7*(k+1)):=by
 have h:b%128*2^(7*k)≤127*2^(7*k):=zca _ (by omega);rw [show 7*(k+1)=7*k+7 from by omega,Nat.pow_add];omega
theorem a19:∀(l:List UInt8) (i n:Nat),i≤9→n<2^(7*i)→(fv i n l).1<18446744073709551616∧(fv i n l).2≤10∧((fv i n l).2=0∨(fv i n l).2≤i+l.length):=by
 intro l
 induction l with
 | nil=>intro i n _ _; simp [fv]
 | cons c t ih=>
  intro i n hi hn;have hc:=c.toNat_lt;rw [fv];split
  ·simp
  ·rename_i h1;split
   ·rename_i h2;refine ⟨?_,by simp; omega,by simp⟩;have:=adq (k:=i) (m:=n) (b:=c.toNat) hn;by_cases h9:i=9
    ·subst h9;have h3:c.toNat≤1:=by omega
     have h4:c.toNat%128*2^(7*9)≤1*2^(7*9):=zca _ (by omega);simp only at h4 ⊢;omega
    ·have:2^(7*(i+1))≤2^63:=zbz (by decide) (by omega);simp only;omega
   ·rename_i h2;have h9:i≠9:=by omega
    obtain ⟨a,b,d⟩:=ih (i+1) _ (by omega) (adq (k:=i) (m:=n) (b:=c.toNat) hn);refine ⟨a,b,?_⟩;simp only [zai];omega
theorem dq (l:List UInt8):(take l).1<18446744073709551616∧(take l).2≤10∧(take l).2≤l.length:=by
 obtain ⟨a,b,c⟩:=a19 l 0 0 (by omega) (by decide);unfold take;exact ⟨a,b,by omega⟩
abbrev Fld:=Nat×Nat×Nat×List UInt8
def t6 (l:List UInt8):Option (Fld×Nat):=
 if (take l).2=0∨(take l).1/8<1∨1000<(take l).1/8 then none
 else if (take (l.drop (take l).2)).2=0 then none
 else if (take l).1%8=0 then some (((take l).1/8,0,(take (l.drop (take l).2)).1,[]),(take l).2+(take (l.drop (take l).2)).2)
 else if (take l).1%8=2∧(take (l.drop (take l).2)).1≤l.length-(take l).2-(take (l.drop (take l).2)).2 then
  some (((take l).1/8,2,0,(l.drop ((take l).2+(take (l.drop (take l).2)).2)).take (take (l.drop (take l).2)).1),(take l).2+(take (l.drop (take l).2)).2+(take (l.drop (take l).2)).1)
 else none
def dp:Nat→List UInt8→Option (List Nat)
 | _,[]=>some []
 | 0,_::_=>none
 | f+1,c::l=>if (take (c::l)).2=0 then none else (dp f ((c::l).drop (take (c::l)).2)).map ((take (c::l)).1 :: ·)
def au (l:List UInt8):Option (List Nat):=dp l.length l
def ez:Nat→List UInt8→Option (List Fld)
 | _,[]=>some []
 | 0,_::_=>none
 | f+1,c::l=>match t6 (c::l) with
  | none=>none
  | some (x,k)=>(ez f ((c::l).drop k)).map (x :: ·)
def r7 (l:List UInt8):Option (List Fld):=ez l.length l
theorem je (f:Nat):dp f []=some []:=by cases f<;>rfl
theorem agv {f:Nat} {l:List UInt8} (h:0<l.length) (h2:(take l).2=0):dp f l=none:=by
 match f,l,h with
 | 0,c::l,_=>rfl
 | f+1,c::l,_=>rw [dp,if_pos h2]
theorem acb {f n k:Nat} {l:List UInt8} (h:0<l.length) (hf:l.length≤f) (h1:take l=(n,k)) (h2:k≠0):∃f',f=f'+1∧dp f l=(dp f' (l.drop k)).map (n :: ·):=by
 match f,l,h with
 | 0,c::l,_=>simp at hf
 | f+1,c::l,_=>exact ⟨f,rfl,by rw [dp,h1,if_neg h2]⟩
theorem jg (f:Nat):ez f []=some []:=by cases f<;>rfl
theorem amh {f:Nat} {l:List UInt8} (h:0<l.length) (h2:t6 l=none):ez f l=none:=by
 match f,l,h with
 | 0,c::l,_=>rfl
 | f+1,c::l,_=>rw [ez,h2]
theorem rq {f k:Nat} {x:Fld} {l:List UInt8} (h:0<l.length) (hf:l.length≤f) (h1:t6 l=some (x,k)):∃f',f=f'+1∧ez f l=(ez f' (l.drop k)).map (x :: ·):=by
 match f,l,h with
 | 0,c::l,_=>simp at hf
 | f+1,c::l,_=>exact ⟨f,rfl,by rw [ez,h1]⟩
theorem aaj {l:List UInt8} {x:Fld} {k:Nat} (h:t6 l=some (x,k)):2≤k∧k≤l.length:=by
 obtain ⟨_,_,t3⟩:=dq l;obtain ⟨_,_,s3⟩:=dq (l.drop (take l).2);rw [zan] at s3;unfold t6 at h;split at h
 ·cases h
 ·split at h
  ·cases h
  ·split at h
   ·simp only [Option.some.injEq,Prod.mk.injEq] at h;omega
   ·split at h
    ·simp only [Option.some.injEq,Prod.mk.injEq] at h;omega
    ·cases h
theorem afd {n:Nat} (h:n<256):(zap n).toNat=n:=by simp; omega
theorem a6x:∀(f i n m:Nat) (rest:List UInt8),1≤f→i≤9→n<128^f→(0<i→0<n)→m<2^(7*i)→m+n*2^(7*i)<18446744073709551616 →
  fv i m (rj f n++rest)=(m+n*2^(7*i),i+(rj f n).length):=by
 intro f
 induction f with
 | zero=>intro i n m rest h; omega
 | succ f ih=>
  intro i n m rest _ hi hn h0 hm hb
  have h9:i=9→n≤1:=by
   rintro rfl;rw [show 2^(7*9)=9223372036854775808 from by decide] at hb;omega
  rw [rj];split
  ·rename_i hs;rw [List.singleton_append,fv,afd (by omega),if_neg (by omega),if_pos hs,Nat.mod_eq_of_lt hs]
   rfl
  ·rename_i hs;have hi9:i≠9:=fun h=>by have:=h9 h; omega
   have e:(zap (n%128+128)).toNat=n%128+128:=afd (by omega);have e2:(n%128+128)%128=n%128:=by omega
   rw [List.cons_append,fv,e,if_neg (by omega),if_neg (by omega),e2]
   have hsum:m+n%128*2^(7*i)+n/128*2^(7*(i+1))=m+n*2^(7*i):=by
    rw [show 7*(i+1)=7*i+7 from by omega,Nat.pow_add];generalize 2^(7*i)=p;have:n/128*(p*2^7)=(n/128*128)*p:=by rw [Nat.mul_comm p,← Nat.mul_assoc]
    rw [this,Nat.add_assoc,← Nat.add_mul];congr 2;omega
   have hf:1≤f:=by
    match f with
    | 0=>simp at hn; omega
    | k+1=>omega
   rw [ih (i+1) (n/128) _ rest hf (by omega) (by rw [Nat.pow_succ] at hn; omega) (by omega) (adq hm) (by rw [hsum]; exact hb),hsum];simp;omega
theorem al9 (n:Nat) (rest:List UInt8) (h:n<18446744073709551616):take (m6 n++rest)=(n,(m6 n).length):=by
 unfold take m6;rw [a6x 10 0 n 0 rest (by omega) (by omega) (Nat.lt_of_lt_of_le h (by decide)) (by omega) (by decide) (by simpa using h)];simp
theorem bab (f n:Nat) (h:1≤f):0<(rj f n).length:=by
 match f with
 | f+1=>rw [rj]; split<;>simp
theorem al3 (n:Nat):0<(m6 n).length:=bab 10 n (by omega)
theorem a4m {l:List UInt8} {n k:Nat} (h:0<l.length) (h1:take l=(n,k)) (h2:k≠0):au l=(dp (l.length-1) (l.drop k)).map (n :: ·):=by
 obtain ⟨f',hf,e⟩:=acb h (zam _) h1 h2;unfold au;rw [e];congr 1;congr 1;omega

open Go.RowKit
def bjk:Nat→Nat→Nat
 | 0,_=>0
 | f+1,m=>if m=0 then 0 else 1+bjk f (m/128)
theorem a6b {b:Nat} (hb:b<256):bits BinOp.and IntKind.u64 (b:Int) 127=IntKind.u64.wrap (bits BinOp.and IntKind.u8 (b:Int) 127):=by
 have h1:=u8_and_nat b 127 hb (by decide);have h2:=u64_and_nat b 127 (by omega) (by decide);rw [show ((127:Nat):Int)=127 from rfl,nat_mask7] at h1 h2;rw [h1,h2,IntKind.wrap_u64];omega
theorem a18 {k m b:Nat} (hk:k≤9) (hm:m<2^(7*k)) (hb:b<256) (h9:k=9→b≤1) :
  bits BinOp.or IntKind.u64 (m:Int) (IntKind.u64.wrap (bits BinOp.and IntKind.u64 (b:Int) 127*2^(7*k)))=((m+b%128*2^(7*k):Nat):Int):=by
 rw [a6b hb];exact axv hk hm hb h9
theorem a48 {l:List UInt8} {tag k:Nat} (ht:take l=(tag,k)) (h:k=0∨tag/8<1∨1000<tag/8):t6 l=none:=by
 unfold t6; rw [ht,if_pos h]
theorem aus {l:List UInt8} {tag k n:Nat} (ht:take l=(tag,k)) (hn:take (l.drop k)=(n,0)):t6 l=none:=by
 unfold t6; rw [ht]; simp only [hn]; split<;>rfl
theorem aur {l:List UInt8} {tag k:Nat} (ht:take l=(tag,k)) (h0:tag%8≠0) (h2:tag%8≠2):t6 l=none:=by
 unfold t6; rw [ht]; simp only [if_neg h0,h2,false_and,if_false]; split<;>(try rfl); split<;>rfl
theorem auq {l:List UInt8} {tag k n j:Nat} (ht:take l=(tag,k)) (hn:take (l.drop k)=(n,j)) (h0:tag%8≠0) (h2:l.length-k-j<n):t6 l=none:=by
 unfold t6; rw [ht]; simp only [hn,if_neg h0];rw [if_neg (show ¬(tag%8=2∧n≤l.length-k-j) by omega)];split<;>(try rfl); split<;>rfl
theorem a0p {l:List UInt8} {tag k n j:Nat} (ht:take l=(tag,k)) (hn:take (l.drop k)=(n,j)) (h1:¬(k=0∨tag/8<1∨1000<tag/8)) (hj:j≠0) (h0:tag%8=0) :
  t6 l=some ((tag/8,0,n,[]),k+j):=by
 unfold t6; rw [ht]; simp only [hn,if_neg h1,if_neg hj,if_pos h0]
theorem ayk {l:List UInt8} {tag k n j:Nat} (ht:take l=(tag,k)) (hn:take (l.drop k)=(n,j)) (h1:¬(k=0∨tag/8<1∨1000<tag/8)) (hj:j≠0) (h0:tag%8=2) (h2:n≤l.length-k-j) :
  t6 l=some ((tag/8,2,0,(l.drop (k+j)).take n),k+j+n):=by
 unfold t6; rw [ht]; simp only [hn,if_neg h1,if_neg hj,h0];rw [if_neg (by omega),if_pos ⟨trivial,h2⟩]

def ayg:Mk P0 f102:={ x:=_ }
theorem azd:b8 102 1 ayg:=b7 func102
def aug:Mk P0 f101:={ x:=_ }
theorem awk:b8 101 1 aug:=b7 func101
def vr:Mk P0 f103:={ x:=_ }
theorem yt:b8 103 2 vr:=b7 func103
def aui:Mk P0 f31:={ x:=_ }
theorem awm:b8 31 1 aui:=b7 func31
def auj:Mk P0 f33:={ x:=_ }
theorem awn:b8 33 1 auj:=b7 func33
def aun:Mk P0 f55:={ x:=_ }
theorem awo:b8 55 3 aun:=b7 func55
def aow:Mk P0 f79:={ x:=_ }
theorem asq:b8 79 3 aow:=b7 func79
def ari:Mk P0 f56:={ x:=_ }
theorem aum:b8 56 3 ari:=b7 func56
def arf:Mk P0 f189:={ x:=_ }
theorem auf:b8 189 1 arf:=b7 func189
def arg:Mk P0 f148:={ x:=_ }
theorem auk:b8 148 1 arg:=b7 func148
def auh:Mk P0 f147:={ x:=_ }
theorem awl:b8 147 1 auh:=b7 func147
def arh:Mk P0 f89:={ x:=_ }
theorem aul:b8 89 1 arh:=b7 func89
def okB (f:Int):Bool:=decide (1≤f∧f≤1000)
theorem bdt (f:Int):a8 P0 102 [int .i64 f] [] (bl (okB f)) []:=by
 refine azd rfl (by decide) ?_
 push_cast [ayg,zab]
 repeat refine And.intro (by simp +contextual) ?_
 refine ei ?_;simp [okB]
theorem bdi (l:List UInt8) (hl:l.length≤140737488355328):a8 P0 101 [sb l] [] (.ptr 1000000 0 0) [.box [.own 1000001 0 0 l.length],oi l]:=by
 refine awk rfl (by decide) ?_
 push_cast [aug,zab]
 have:=d7;refine ⟨by simp,by omega,by rw [zaa]⟩
theorem bk7:∀x:Fin 128,(zae 8 (x.val:Int) ||| zae 8 128).toNat=x.val+128:=by decide +kernel
theorem ao3 (U:Int) (h0:0≤U) (h1:U<18446744073709551616) :
  RV.v (.int .u8 (IntKind.u8.wrap ((zae IntKind.u8.bits (IntKind.u8.wrap (IntKind.u64.wrap ((zae IntKind.u64.bits U &&& zae IntKind.u64.bits 127).toNat))) ||| zae IntKind.u8.bits 128).toNat)))=by8 (zap (U.toNat%128+128)):=by
 rw [agi U 127 7 (by decide) (by decide) h0 h1,IntKind.wrap_u8 (U%2^7)];have e:U%2^7%256=((U.toNat%128:Nat):Int):=by omega
 have:=bk7 ⟨U.toNat%128,Nat.mod_lt _ (by decide)⟩;simp only at this;rw [e,show IntKind.u8.bits=8 from rfl,this,IntKind.wrap_u8];simp only [by8];congr 2
theorem ady (U:Int) (h0:0≤U) (h1:U≤127):RV.v (.int .u8 (IntKind.u8.wrap U))=by8 (zap U.toNat):=by
 rw [IntKind.wrap_u8];simp only [by8];congr 2;simp;omega
theorem wvar_t (l : List UInt8) (n : Int) (n0 : 0 ≤ n) (hn : n < 18446744073709551616) (hl : l.length ≤ 140000000000000) :
    a8 P0 103 [.ptr 1000000 0 0,int .u64 n] [.box [.own 1000001 0 0 l.length],oi l] (.tup []) [.box [.own 1000001 0 0 (l++m6 n.toNat).length],oi (l++m6 n.toNat)]:=by
  refine yt rfl (by simp) ?_;simp only [vr,push_cast,zA];have hmax:=d7
  refine run_loop [(0,false),(1,false)] (fun vs pos los=>∃(U:Int) (f:Nat) (r:List UInt8),0≤U∧U<18446744073709551616∧1≤f∧f≤10∧U.toNat<128^f∧r++rj f U.toNat=l++m6 n.toNat ∧
    vs=[.ptr 1000000 0 0,int .u64 U]∧pos=[.box [.own 1000001 0 0 r.length],oi r]∧los=[])
    (fun vs _ _=>match vs with | [_,.r (.v (.int _ j))]=>j.toNat | _=>0) rfl ?_ ?_
  · simp only [push_cast,↓reduceIte,reduceCtorEq,zB,zE,zA,zS,zL,zD];exact ⟨n,10,l,n0,hn,by decide,by decide,by omega,rfl,rfl,rfl⟩
  · rintro vs pos los ⟨U,f,r,U0,U1,f1,f10,Uf,hr,rfl,rfl,rfl⟩
    have hrl:r.length≤l.length+10:=by
      have h1:=congrArg zbe hr;have h2:=ak n.toNat;rw [zad,zad] at h1;omega
    simp only [push_cast,↓reduceIte,reduceCtorEq,zA];refine b6 (fun h=>?_) (fun h=>?_)
    · have h1:127<U:=by simpa using h
      obtain ⟨f',rfl,hf',hUf,hv⟩:=agw (f:=f) (n:=U.toNat) (by omega) Uf;have hs:U.fdiv (2^min (zau 7) IntKind.u64.bits)=U/128:=amd U 7 (by decide);have hU:(U/128).toNat=U.toNat/128:=by omega
      simp only [hs,push_cast,↓reduceIte,reduceCtorEq,zB,zE,zA,zS,zL,zD];rw [ao3 U U0 U1];refine ⟨by simp,by omega,by omega,⟨U/128,f',r++[zap (U.toNat%128+128)],by omega,by omega,hf',by omega,by rw [hU]; exact hUf,?_,rfl,by simp⟩,by omega⟩;rw [← hr,hv,hU,zbf]; rfl
    · have h1 : U ≤ 127 := by have : ¬ (U > 127) := by simpa using h
                              omega
      have hv:=zp (f:=f) (n:=U.toNat) (by omega) f1;rw [hv] at hr;simp only [← hr,push_cast,↓reduceIte,reduceCtorEq,zB,zE,zA,zS,zL,zD];rw [ady U U0 h1]
      have e:r.length+1=l.length+(m6 n.toNat).length:=by
        have:=congrArg zbe hr;simpa using this
      refine ⟨by simp,by omega,?_⟩;rw [e];simp

open Go Go.RowKit
theorem wvarN_t (n : Int) (n0 : 0 ≤ n) (hn : n < 18446744073709551616) :
    a8 P0 103 [.ptr 1000000 0 0,int .u64 n] [.box [.nils 1 (.v (.int .u8 0))]] (.tup []) [.box [.own 1000001 0 0 (m6 n.toNat).length],oi (m6 n.toNat)]:=by
  refine yt rfl (by simp) ?_;simp only [vr,push_cast,zA];have hmax:=d7
  refine run_loop [(0,false),(1,false)] (fun vs pos los=>∃(U:Int) (f:Nat) (r:List UInt8),0≤U∧U<18446744073709551616∧1≤f∧f≤10∧U.toNat<128^f∧r++rj f U.toNat=m6 n.toNat ∧
    vs=[.ptr 1000000 0 0,int .u64 U]∧((r=[]∧pos=[.box [.nils 1 (.v (.int .u8 0))]]∧los=[])∨(pos=[.box [.own 2000000 0 0 r.length]]∧los=[oi r])))
    (fun vs _ _=>match vs with | [_,.r (.v (.int _ j))]=>j.toNat | _=>0) rfl ?_ ?_
  · simp only [push_cast,↓reduceIte,reduceCtorEq,zA,zS,zL,zD];exact ⟨n,10,[],n0,hn,by decide,by decide,by omega,rfl,rfl,.inl rfl⟩
  · rintro vs pos los ⟨U,f,r,U0,U1,f1,f10,Uf,hr,rfl,hc⟩
    have hrl:r.length≤10:=by
      have h1:=congrArg zbe hr;have h2:=ak n.toNat;rw [zad] at h1;omega
    have hs:U.fdiv (2^min (zau 7) IntKind.u64.bits)=U/128:=amd U 7 (by decide);have hU:(U/128).toNat=U.toNat/128:=by omega
    rcases hc with ⟨rfl,rfl,rfl⟩ | ⟨rfl,rfl⟩
    · simp only [push_cast,↓reduceIte,reduceCtorEq];refine b6 (fun h=>?_) (fun h=>?_)
      · have h1:127<U:=by simpa using h
        obtain ⟨f',rfl,hf',hUf,hv⟩:=agw (f:=f) (n:=U.toNat) (by omega) Uf;simp only [hs,push_cast,↓reduceIte,reduceCtorEq,zB,zE,zA,zS,zL,zD,zM];rw [ao3 U U0 U1];refine ⟨by simp,by omega,by omega,⟨U/128,f',[zap (U.toNat%128+128)],by omega,by omega,hf',by omega,by rw [hU]; exact hUf,?_,rfl,.inr ⟨rfl,rfl⟩⟩,by omega⟩;rw [← hr,hv,hU]; rfl
      · have h1 : U ≤ 127 := by have : ¬ (U > 127) := by simpa using h
                                omega
        have hv:=zp (f:=f) (n:=U.toNat) (by omega) f1;rw [hv] at hr;simp only [← hr,push_cast,↓reduceIte,reduceCtorEq,zB,zE,zA,zS,zL,zD,zM];rw [ady U U0 h1];refine ⟨by simp,by omega,?_⟩;simp
    · simp only [push_cast,↓reduceIte,reduceCtorEq];refine b6 (fun h=>?_) (fun h=>?_)
      · have h1:127<U:=by simpa using h
        obtain ⟨f',rfl,hf',hUf,hv⟩:=agw (f:=f) (n:=U.toNat) (by omega) Uf;simp only [hs,push_cast,↓reduceIte,reduceCtorEq,zB,zE,zA,zS,zL,zD];rw [ao3 U U0 U1];refine ⟨by simp,by omega,by omega,⟨U/128,f',r++[zap (U.toNat%128+128)],by omega,by omega,hf',by omega,by rw [hU]; exact hUf,?_,rfl,.inr ⟨by simp,by simp⟩⟩,by omega⟩;rw [← hr,hv,hU,zbf]; rfl
      · have h1 : U ≤ 127 := by have : ¬ (U > 127) := by simpa using h
                                omega
        have hv:=zp (f:=f) (n:=U.toNat) (by omega) f1;rw [hv] at hr;simp only [← hr,push_cast,↓reduceIte,reduceCtorEq,zB,zE,zA,zS,zL,zD];rw [ady U U0 h1];refine ⟨by simp,by omega,?_⟩;simp
theorem bhl (n:Int) (hn:in64 n):IntKind.u64.wrap ((zae IntKind.u64.bits (IntKind.u64.wrap (IntKind.i64.wrap (n*2))) ^^^ zae IntKind.u64.bits (IntKind.u64.wrap (n/9223372036854775808))).toNat)=zig n:=by
 have:=a97 n hn.1 hn.2;rw [show wrap64 (n*2)=IntKind.i64.wrap (n*2) by rw [IntKind.wrap_i64]; unfold wrap64; omega] at this;exact this
theorem atl (n:Int) (hn:in64 n):a8 P0 31 [int .i64 n] [] (int .u64 (zig n)) []:=by
 refine awm rfl (by decide) ?_;simp only [aui,push_cast,↓reduceIte,reduceCtorEq,zE,zA];have e1:n.fdiv (2^min (zau 63) IntKind.i64.bits)=n/9223372036854775808:=bc9 n 63 (by decide);have e2:n*2^min (zau 1) IntKind.i64.bits=n*2:=rfl;refine ⟨by decide,by decide,?_⟩;rw [e1,e2,bhl n hn]
def o6 (f n:Int):List UInt8:=if okB f then m6 (f*8).toNat++m6 n.toNat else []
def zag (n:Int):Int:=if n%2=0 then n/2 else -(n/2)-1
theorem bhm (n:Int) (h0:0≤n) (h1:n<18446744073709551616):IntKind.i64.wrap ((zae IntKind.i64.bits (IntKind.i64.wrap (n/2)) ^^^ zae IntKind.i64.bits (IntKind.i64.wrap (0-IntKind.i64.wrap (n%2)))).toNat)=zag n:=by
 rw [show IntKind.i64.bits=64 from rfl,a5 (x:=n/2) (by omega),a5 (x:=n%2) (by omega),a5 (x:=0-n%2) (by omega)];unfold zag;split
 ·rename_i h;rw [h,show (0:Int)-0=0 by omega,show zae 64 0=0#64 from rfl,BitVec.xor_zero,zbx,IntKind.wrap_i64];omega
 ·rename_i h;rw [show n%2=1 by omega,show zae 64 (0-1)=zae 64 18446744073709551615 by decide,azo,zbx,IntKind.wrap_i64];omega
theorem bcz (n:Int) (h0:0≤n) (h1:n<18446744073709551616):a8 P0 33 [int .u64 n] [] (int .i64 (zag n)) []:=by
 refine awn rfl (by decide) ?_;simp only [auj,push_cast,↓reduceIte,reduceCtorEq,zE,zA];have e1:n.fdiv (2^min (zau 1) IntKind.u64.bits)=n/2:=amd n 1 (by decide);have e2:=agi n 1 1 (by decide) (by decide) h0 h1;rw [show (2:Int)^1=2 from rfl] at e2;refine ⟨by decide,?_⟩;rw [e1,e2,bhm n h0 h1]
theorem agn (n:Int):zag (zig n)=n:=by unfold zag zig; split<;>split<;>omega
theorem atm (n:Int) (h0:0≤n) (h1:n<18446744073709551616):in64 (zag n):=by unfold zag in64; split<;>omega
theorem aut (l:List UInt8) (f n:Int) (hf:in64 f) (n0:0≤n) (hn:n<18446744073709551616) (hl:l.length≤130000000000000) :
  a8 P0 55 [sb l,int .i64 f,int .u64 n] [] (.own 1000000 0 0 (l++o6 f n).length) [oi (l++o6 f n)]:=by
 refine awo rfl (by decide) ?_
 push_cast [aun,zab]
 refine a6 (bdi l (by omega)) rfl trivial ?_
 push_cast
 refine a6 (bdt f) rfl trivial ?_;cases hk:okB f with
 | false=>
  push_cast [o6,hk]
  rw [Nat.add_zero]
 | true=>
  have h1:1≤f∧f≤1000:=by simpa [okB] using hk
  have e1:IntKind.u64.wrap f=f:=by rw [IntKind.wrap_u64]; omega
  have e2:IntKind.u64.wrap (f*8)=f*8:=by rw [IntKind.wrap_u64]; omega
  push_cast [o6,hk,e1,e2]
  refine ⟨by kernel_rfl,?_⟩;refine a6 (wvar_t l (f*8) (by omega) (by omega) (by omega)) rfl ⟨rfl,trivial⟩ ?_;have h2:=ak (f*8).toNat;have h3:(l++m6 (f*8).toNat).length≤140000000000000:=by rw [zad]; omega
  generalize hm:l++m6 (f*8).toNat=m at h3
  push_cast [hk,e1,e2]
  refine ⟨by kernel_rfl,?_⟩;refine a6 (wvar_t m n n0 hn (by omega)) rfl ⟨rfl,trivial⟩ ?_;rw [← hm,zbf]
  push_cast
def k8 (f:Int) (x:List UInt8):List UInt8:=if okB f then m6 (f*8+2).toNat++(m6 x.length++x) else []
theorem ac5 (l:List UInt8) (f:Int) (x:List UInt8) (hf:in64 f) (hx:x.length≤1000000000000) (hl:l.length≤130000000000000) :
  a8 P0 79 [sb l,int .i64 f,sb x] [] (.own 1000000 0 0 (l++k8 f x).length) [oi (l++k8 f x)]:=by
 refine asq rfl (by decide) ?_
 push_cast [aow,zab]
 refine a6 (bdi l (by omega)) rfl trivial ?_
 push_cast
 refine a6 (bdt f) rfl trivial ?_;have hmax:=d7;cases hk:okB f with
 | false=>
  push_cast [k8,hk]
  rw [Nat.add_zero]
 | true=>
  have h1:1≤f∧f≤1000:=by simpa [okB] using hk
  have e1:IntKind.u64.wrap f=f:=by rw [IntKind.wrap_u64]; omega
  have e2:IntKind.u64.wrap (f*8)=f*8:=by rw [IntKind.wrap_u64]; omega
  have e3:IntKind.u64.wrap (f*8+2)=f*8+2:=by rw [IntKind.wrap_u64]; omega
  obtain ⟨X,hX,X0,X1⟩:∃X:Int,X=x.length∧0≤X∧X≤1000000000000:=⟨_,rfl,by omega,by omega⟩
  have e4:IntKind.u64.wrap X=X:=by rw [IntKind.wrap_u64]; omega
  have eX:m6 x.length=m6 X.toNat:=by rw [hX]; rfl
  push_cast [k8,hk,e1,e2,e3,eX,← hX]
  refine ⟨by kernel_rfl,?_⟩;refine a6 (wvar_t l (f*8+2) (by omega) (by omega) (by omega)) rfl ⟨rfl,trivial⟩ ?_;have h2:=ak (f*8+2).toNat;have h3:(l++m6 (f*8+2).toNat).length≤130000000000010:=by rw [zad]; omega
  rw [← zbf l];generalize hm:l++m6 (f*8+2).toNat=m at h3;have hm':=congrArg zbe hm;rw [zad] at hm';clear hm
  push_cast [hk,e1,e2,e4,← hX]
  refine ⟨by kernel_rfl,?_⟩;refine a6 (wvar_t m X X0 (by omega) (by omega)) rfl ⟨rfl,trivial⟩ ?_;have h4:=ak X.toNat;have h5:(m++m6 X.toNat).length≤130000000000020:=by rw [zad]; omega
  rw [← zbf m];generalize hm2:m++m6 X.toNat=m2 at h5;have hm2':=congrArg zbe hm2;rw [zad] at hm2';clear hm2
  push_cast [← hX]
  refine ⟨by omega,?_⟩;simp;omega
theorem pack_t (l : List UInt8) (f : Int) (ns : List Int) (hf : in64 f) (hn : ∀ n ∈ ns, 0 ≤ n ∧ n < 18446744073709551616) (hns : ns.length ≤ 1000000000) (hl : l.length ≤ 130000000000000) :
    a8 P0 56 [sb l,int .i64 f,.r (.sl 1 (ns.map fun n=>.v (.int .u64 n)))] [] (.own 1000000 0 0 (l++k8 f (ns.flatMap fun n=>m6 n.toNat)).length) [oi (l++k8 f (ns.flatMap fun n=>m6 n.toNat))]:=by
  refine aum rfl (by decide) ?_
  push_cast [ari,zab]
  have hmax:=d7;obtain ⟨N,hN,N0,N1⟩:∃N:Int,N=ns.length∧0≤N∧N≤1000000000:=⟨_,rfl,by omega,by omega⟩
  simp only [← hN]
  have hlen:∀i:Nat,((ns.take i).flatMap fun n=>m6 n.toNat).length≤10*i:=fun i=>by
    induction i with
    | zero=>simp
    | succ i ih=>
      rw [zbj,zbo,zad]
      have:((ns[i]?.toList).flatMap fun n=>m6 n.toNat).length≤10:=by
        cases ns[i]? with
        | none=>simp
        | some n=>simpa using ak n.toNat
      omega
  refine run_loop [(0,false),(1,false),(7,false),(12,false),(13,false),(14,false)] (fun vs pos los=>∃(i:Int) (r:List UInt8),0≤i∧i≤N∧r=(ns.take i.toNat).flatMap (fun n=>m6 n.toNat) ∧
    vs=[sb l,int .i64 f,.ptr 2000000 0 0,.r (.sl 1 (ns.map fun n=>.v (.int .u64 n))),int .i64 N,int .i64 i]∧pos=[] ∧
    ((r=[]∧los=[.box [.nils 1 (.v (.int .u8 0))]])∨los=[.box [.own 2000001 0 0 r.length],oi r]))
    (fun vs _ _=>match vs with | [_,_,_,_,_,.r (.v (.int _ j))]=>(N-j).toNat | _=>0) rfl ?_ ?_
  · push_cast
    exact ⟨0,[],by omega,by omega,rfl,rfl,.inl rfl⟩
  · rintro vs pos los ⟨i,r,i0,iN,hr,rfl,rfl,hc⟩;have hrl:=hlen i.toNat;rw [← hr] at hrl;rcases hc with ⟨rfl,rfl⟩ | rfl
    · push_cast
      refine b6 (fun h=>?_) (fun h=>?_)
      · have hi:i<N:=by simpa using h
        have hin:i.toNat<ns.length:=by omega
        have hb:=hn _ (List.getElem_mem hin);have hg:(zar (fun n=>RV.v (.int .u64 n)) ns).getD i.toNat (.v (.int .u64 0))=.v (.int .u64 ns[i.toNat]):=by simp [zbh,hin]
        have w4:IntKind.i64.wrap (i+1)=i+1:=a5 (by omega)
        push_cast [hg,← hN]
        refine ⟨⟨i0,hi⟩,?_⟩;refine a6 (wvarN_t _ hb.1 hb.2) rfl ⟨rfl,trivial⟩ ?_
        push_cast [w4]
        refine ⟨⟨i+1,m6 (ns[i.toNat]).toNat,by omega,by omega,?_,rfl,.inr rfl⟩,by omega⟩;rw [show (i+1).toNat=i.toNat+1 by omega,zcb hin,zbo,← hr];simp
      · have hi : i = N := by have : ¬ i < N := by simpa using h
                              omega
        rw [hi,show N.toNat=ns.length by omega,zas] at hr
        push_cast
        refine b5 (as':=[sb l,int .i64 f,sb []]) rfl ?_;refine a6 (ac5 l f [] hf (by simp) hl) rfl trivial ?_;rw [← hr]
        push_cast
    · push_cast
      refine b6 (fun h=>?_) (fun h=>?_)
      · have hi:i<N:=by simpa using h
        have hin:i.toNat<ns.length:=by omega
        have hb:=hn _ (List.getElem_mem hin);have hg:(zar (fun n=>RV.v (.int .u64 n)) ns).getD i.toNat (.v (.int .u64 0))=.v (.int .u64 ns[i.toNat]):=by simp [zbh,hin]
        have w4:IntKind.i64.wrap (i+1)=i+1:=a5 (by omega)
        push_cast [hg,← hN]
        refine ⟨⟨i0,hi⟩,?_⟩;refine a6 (wvar_t r _ hb.1 hb.2 (by omega)) rfl ⟨rfl,trivial⟩ ?_;generalize hq:r++m6 (ns[i.toNat]).toNat=q
        push_cast [w4]
        refine ⟨⟨i+1,q,by omega,by omega,?_,rfl,.inr rfl⟩,by omega⟩;rw [show (i+1).toNat=i.toNat+1 by omega,zcb hin,zbo,← hr,← hq];simp
      · have hi : i = N := by have : ¬ i < N := by simpa using h
                              omega
        rw [hi,show N.toNat=ns.length by omega,zas] at hr
        push_cast [← hr]
        refine i9 ?_
        push_cast
        refine b5 (as':=[sb l,int .i64 f,sb r]) rfl ?_;refine a6 (ac5 l f r hf (by omega) hl) rfl trivial ?_
        push_cast

open Go Go.RowKit
theorem bkw {U i C:Int} {m k b:Nat} (hU:U=m) (hi:i=k) (hC:C=b) (hk:k≤9) (hm:m<2^(7*k)) (hb:b<256) (h9:k=9→b≤1) :
  IntKind.u64.wrap ((zae IntKind.u64.bits U ||| zae IntKind.u64.bits (IntKind.u64.wrap (IntKind.u64.wrap (IntKind.u8.wrap ((zae IntKind.u8.bits C &&& zae IntKind.u8.bits 127).toNat))*2^min (IntKind.u64.wrap (IntKind.i64.wrap (7*i))).toNat IntKind.u64.bits))).toNat)=((m+b%128*2^(7*k):Nat):Int):=by
 have e1:IntKind.i64.wrap (7*i)=7*i:=a5 (by omega);have e2:IntKind.u64.wrap (7*i)=7*i:=by rw [IntKind.wrap_u64]; omega
 rw [e1,e2,show (7*i).toNat=7*k by omega,show min (7*k) IntKind.u64.bits=7*k from zbn (by simp [IntKind.bits]; omega),hU,hC];exact axv hk hm hb h9
theorem bb3 (l:List UInt8) (i:Nat) (z:RV) (hi:i<l.length):(zar by8 l).getD i z=.v (.int .u8 (l[i].toNat:Int)):=by
 simp [zbh,hi,by8]
theorem aoc (l:List UInt8) (hl:l.length≤140737488355328):a8 P0 189 [sb l] [] (.tup [int .u64 (take l).1,int .i64 (take l).2]) []:=by
 refine auf rfl (by decide) ?_;obtain ⟨N,hN,N0,N1⟩:∃N:Int,N=l.length∧0≤N∧N≤140737488355328:=⟨_,rfl,by omega,by omega⟩
 push_cast [arf,zab,← hN]
 refine run_loop [(4,false),(7,false),(8,false),(9,false)] (fun vs pos los=>∃(i U:Int) (k m:Nat),i=k∧U=m∧k≤l.length∧k≤9∧m<2^(7*k)∧take l=fv k m (l.drop k) ∧
  vs=[int .u64 U,sb l,int .i64 N,int .i64 i]∧pos=[]∧los=[])
  (fun vs _ _=>match vs with | [_,_,_,.r (.v (.int _ j))]=>(N-j).toNat | _=>0) rfl ?_ ?_
 ·push_cast
  exact ⟨0,0,0,0,rfl,rfl,by omega,by omega,by decide,rfl,rfl⟩
 ·rintro vs pos los ⟨i,U,k,m,hik,hUm,hkl,hk9,hm,ht,rfl,rfl,rfl⟩
  push_cast
  refine b6 (fun h=>?_) (fun h=>?_)
  ·have hi:i<N:=by simpa using h
   have hin:k<l.length:=by omega
   have hit:i.toNat=k:=by omega
   obtain ⟨b,hb⟩:∃b,l[k].toNat=b:=⟨_,rfl⟩
   have hb2:b<256:=by rw [← hb]; exact l[k].toNat_lt
   obtain ⟨C,hC⟩:∃C:Int,C=b:=⟨_,rfl⟩
   have hg:(zar by8 l).getD i.toNat (.v (.int .u8 0))=.v (.int .u8 C):=by
    rw [hit,bb3 l k _ hin,hC,hb]
   have w4:IntKind.i64.wrap (i+1)=i+1:=a5 (by omega)
   push_cast [hg]
   refine ⟨⟨by omega,by omega⟩,?_⟩
   repeat refine And.intro (by by_cases c1:i=9<;>by_cases c2:C>1<;>by_cases c3:i>0<;>by_cases c4:C=0<;>simp [c1,c2,c3,c4]<;>omega) ?_
   refine b6 (fun h2=>?_) (fun h2=>?_)
   ·have hc:(k=9∧1<b)∨(0<k∧b=0):=by
     by_cases c1:i=9<;>by_cases c2:C>1<;>by_cases c3:i>0<;>by_cases c4:C=0<;>simp [c1,c2,c3,c4] at h2<;>omega
    push_cast
    rw [ht,asd hin hb hc]
    rfl
   ·have hc:¬((k=9∧1<b)∨(0<k∧b=0)):=by
     intro hc;by_cases c1:i=9<;>by_cases c2:C>1<;>by_cases c3:i>0<;>by_cases c4:C=0<;>simp [c1,c2,c3,c4] at h2<;>omega
    have hv:=bkw hUm hik hC hk9 hm hb2 (fun h9=>by omega);have hml:=adq (b:=b) hm;have hw7:0≤IntKind.u64.wrap (IntKind.i64.wrap (7*i)):=by rw [IntKind.wrap_u64]; omega
    generalize hm':m+b%128*2^(7*k)=m' at hv hml;generalize hV:((m':Nat):Int)=V at hv
    push_cast [hv]
    by_cases c1:C<128
    ·have g1:decide (C<128)=true:=by simp [c1]
     push_cast [g1,w4]
     refine ⟨hw7,?_⟩;rw [ht,axw hin hb hc (by omega),hm'];refine congrArg AV.tup ?_;rw [← hV,show i+1=((k+1:Nat):Int) by omega]
    ·have g1:decide (C<128)=false:=by simp; omega
     push_cast [g1,w4]
     refine ⟨hw7,⟨i+1,V,k+1,m',by omega,by omega,by omega,by omega,hml,?_,rfl⟩,by omega⟩;rw [ht,az1 hin hb hc (by omega),hm']
  ·have hi:¬i<N:=by simpa using h
   push_cast
   rw [ht,atz k m l (by omega)]
   rfl
theorem jf {x:Int} {n:Nat} (h:x=n):x.toNat=n:=by omega
def da (ns:List Nat):List RV:=ns.map fun n:Nat=>RV.v (.int .u64 (n:Int))
abbrev awh (ns:List Nat):Ob:=.row 1 (.v (.int .u64 0)) true true (da ns)
def zn:Option (List Nat)→AV
 | none=>.tup [.nils 1 (.v (.int .u64 0)),int .i64 10]
 | some []=>.tup [.nils 1 (.v (.int .u64 0)),int .i64 0]
 | some (n::ns)=>.tup [.own 1000000 0 0 (n::ns).length,int .i64 0]
def zo:Option (List Nat)→List Ob
 | none=>[]
 | some []=>[]
 | some (n::ns)=>[awh (n::ns)]
theorem ayl (ns:List Nat) (n:Nat):da ns++[.v (.int .u64 (n:Int))]=da (ns++[n]):=by simp [da]
theorem bbk (ns:List Nat):(da ns).length=ns.length:=by simp [da]
theorem adp (ns:List Nat):zah ns.length (da ns)=da ns:=zal (by rw [bbk]; exact zam _)
theorem ahe (l:List UInt8) (k:Nat):zaq k (zar by8 l)=zar by8 (l.drop k):=by rw [List.map_drop]
theorem bhq (l:List UInt8) (hl:l.length≤1000000000):a8 P0 148 [sb l] [] (zn (au l)) (zo (au l)):=by
  refine auk rfl (by decide) ?_
  push_cast [arg,zab]
  have hmax:=d7
  refine run_loop [(0,false),(4,false)] (fun vs pos los=>∃(r:List UInt8) (f:Nat) (ns:List Nat),r.length≤f∧r.length+ns.length≤l.length∧au l=(dp f r).map (ns ++ ·)∧pos=[] ∧
    ((ns=[]∧vs=[sb r,.nils 1 (.v (.int .u64 0))]∧los=[])∨(ns≠[]∧vs=[sb r,.own 2000000 0 0 ns.length]∧los=[awh ns])))
    (fun vs _ _=>match vs with | .r (.sl _ xs)::_=>xs.length | _=>0) rfl ?_ ?_
  · push_cast
    refine ⟨l,l.length,[],zam _,by simp,?_,.inl ⟨rfl,rfl⟩⟩;show dp l.length l = _;cases dp l.length l<;>simp
  · rintro vs pos los ⟨r,f,ns,hf,hlen,hv,rfl,hc⟩;obtain ⟨R,hR,R0⟩:∃R:Int,R=r.length∧0≤R:=⟨_,rfl,by omega⟩
    have hb:=dq r;obtain ⟨U,hU⟩:∃U:Int,U=(take r).1:=⟨_,rfl⟩
    obtain ⟨K,hK⟩:∃K:Int,K=(take r).2:=⟨_,rfl⟩
    have hdr:zaq (take r).2 (zah R.toNat (bys r))=bys (r.drop (take r).2):=by
      rw [zal (by simp; omega)];exact ahe r _
    have hdl:(r.drop (take r).2).length=r.length-(take r).2:=zan;have hsnoc:da ns++[.v (.int .u64 U)]=da (ns++[(take r).1]):=by rw [hU]; exact ayl _ _
    rcases hc with ⟨rfl,rfl,rfl⟩ | ⟨hns,rfl,rfl⟩
    · push_cast [← hR]
      refine b6 (fun h=>?_) (fun h=>?_)
      · have hr0 : 0 < r.length := by have : R > 0 := by simpa using h
                                      omega
        push_cast [← hR]
        refine a6 (aoc r (by omega)) rfl trivial ?_;rw [← hU,← hK]
        push_cast [← hR]
        by_cases k0:K=0
        · have g0:(K == 0)=true:=by simp [k0]
          push_cast [g0]
          rw [hv,agv hr0 (by omega)];exact ⟨rfl,rfl⟩
        · have g0:(K == 0)=false:=by simp [k0]
          obtain ⟨f',hf',hv'⟩:=acb (n:=(take r).1) (k:=(take r).2) hr0 hf rfl (by omega)
          push_cast [g0,← hR,ahe,jf hK]
          rw [hdr];refine ⟨by simp,by omega,⟨by omega,by omega,by omega⟩,⟨r.drop (take r).2,f',[(take r).1],by omega,by simp only [zai,zab] at hlen ⊢; omega,?_,.inr ⟨by simp,rfl,by rw [hU]; rfl⟩⟩,by simp only [zao]; omega⟩;rw [hv,hv',zaz];congr 1
      · have hr0:r=[]:=by
          have:¬R>0:=by simpa using h
          exact zbs (by omega)
        push_cast
        rw [hv,hr0,je];exact ⟨rfl,rfl⟩
    · push_cast [← hR]
      have hout:∀m:List Nat,m≠[]→zn (some m)=.tup [.own 1000000 0 0 m.length,int .i64 0]∧zo (some m)=[awh m]:=fun m hm=>by
        cases m with
        | nil=>exact absurd rfl hm
        | cons=>exact ⟨rfl,rfl⟩
      refine b6 (fun h=>?_) (fun h=>?_)
      · have hr0 : 0 < r.length := by have : R > 0 := by simpa using h
                                      omega
        push_cast [← hR]
        refine a6 (aoc r (by omega)) rfl trivial ?_;rw [← hU,← hK]
        push_cast [← hR]
        by_cases k0:K=0
        · have g0:(K == 0)=true:=by simp [k0]
          push_cast [g0]
          rw [hv,agv hr0 (by omega)];exact ⟨rfl,rfl⟩
        · have g0:(K == 0)=false:=by simp [k0]
          obtain ⟨f',hf',hv'⟩:=acb (n:=(take r).1) (k:=(take r).2) hr0 hf rfl (by omega)
          push_cast [g0,← hR,ahe,jf hK,adp]
          rw [hdr,hsnoc];refine ⟨by simp,by omega,⟨by omega,by omega,by omega⟩,⟨r.drop (take r).2,f',ns++[(take r).1],by omega,by rw [zad,hdl,zbg]; omega,?_,.inr ⟨by simp,by simp,rfl⟩⟩,by simp only [zao]; omega⟩;rw [hv,hv',zaz];congr 1;funext x;simp
      · have hr0:r=[]:=by
          have:¬R>0:=by simpa using h
          exact zbs (by omega)
        push_cast
        rw [hv,hr0,je,zbt,zbu,(hout ns hns).1,(hout ns hns).2];exact ⟨rfl,rfl⟩

open Go Go.RowKit
theorem bet (l:List UInt8) (a n:Nat):zaq a (zah (a+n) (bys l))=bys ((l.drop a).take n):=by
 show zaq a (zah (a+n) (zar by8 l))=zar by8 ((l.drop a).take n);rw [List.drop_take,← List.map_drop,← List.map_take,Nat.add_sub_cancel_left]
def bj (x:Fld):RV:=.agg [.v (.int .i64 (x.1:Nat)),.v (.int .i64 (x.2.1:Nat)),.v (.int .u64 (x.2.2.1:Nat)),.sl 1 (bys x.2.2.2)]
def aoy:Option (Fld×Nat)→AV
 | none=>.tup [.r (bj (0,0,0,[])),int .i64 0]
 | some (x,k)=>.tup [.r (bj x),int .i64 (k:Nat)]
theorem ai2:AV.tup [.r (.agg [.v (.int .i64 0),.v (.int .i64 0),.v (.int .u64 0),.sl 1 []]),.r (.v (.int .i64 0))]=aoy none:=rfl
theorem ayj {a b c k:Int} {x:Fld} {n:Nat} {d:List RV} (ha:a=(x.1:Nat)) (hb:b=(x.2.1:Nat)) (hc:c=(x.2.2.1:Nat)) (hd:d=bys x.2.2.2) (hk:k=(n:Nat)) :
  AV.tup [.r (.agg [.v (.int .i64 a),.v (.int .i64 b),.v (.int .u64 c),.sl 1 d]),.r (.v (.int .i64 k))]=aoy (some (x,n)):=by
 rw [ha,hb,hc,hd,hk]; rfl
theorem bdj (l:List UInt8) (hl:l.length≤1000000000):a8 P0 147 [sb l] [] (aoy (t6 l)) []:=by
 refine awl rfl (by decide) ?_;have hmax:=d7;obtain ⟨R,hR,R0⟩:∃R:Int,R=l.length∧0≤R:=⟨_,rfl,by omega⟩
 obtain ⟨ht1,ht2,ht3⟩:=dq l;obtain ⟨T,hT⟩:∃U:Int,U=(take l).1:=⟨_,rfl⟩
 obtain ⟨K,hK⟩:∃K:Int,K=(take l).2:=⟨_,rfl⟩
 have m8:IntKind.i64.wrap (T.tmod 8)=T%8:=by rw [zbp (by omega)]; exact a5 (by omega)
 have d8:IntKind.u64.wrap (T.tdiv 8)=T/8:=by rw [zbr (by omega),IntKind.wrap_u64]; omega
 have d8i:IntKind.i64.wrap (T/8)=T/8:=a5 (by omega);simp only [auh,push_cast,↓reduceIte,reduceCtorEq];refine a6 (aoc l (by omega)) rfl trivial ?_;rw [← hT,← hK];simp only [m8,d8,push_cast,↓reduceIte,zE,zA,zL,zD]
 repeat refine And.intro (by by_cases c1:K=0<;>by_cases c2:T/8<1<;>by_cases c3:T/8>1000<;>simp [c1,c2]<;>omega) ?_
 refine b6 (fun h=>?_) (fun h=>?_)
 ·have hc:(take l).2=0∨(take l).1/8<1∨1000<(take l).1/8:=by
   by_cases c1:K=0<;>by_cases c2:T/8<1<;>by_cases c3:T/8>1000<;>simp [c1,c2,c3] at h<;>omega
  have hone:t6 l=none:=if_pos hc;simp only [push_cast,↓reduceIte,zE,zA,zD];rw [hone];exact ai2
 ·have hc:¬((take l).2=0∨(take l).1/8<1∨1000<(take l).1/8):=by
   intro hc;by_cases c1:K=0<;>by_cases c2:T/8<1<;>by_cases c3:T/8>1000<;>simp [c1,c2,c3] at h<;>omega
  have hdr:zaq K.toNat (zah R.toNat (bys l))=bys (l.drop (take l).2):=by
   rw [zal (by simp; omega),jf hK];exact ahe l _
  obtain ⟨hn1,hn2,hn3⟩:=dq (l.drop (take l).2);have hdl:(l.drop (take l).2).length=l.length-(take l).2:=zan;obtain ⟨U,hU⟩:∃U:Int,U=(take (l.drop (take l).2)).1:=⟨_,rfl⟩
  obtain ⟨J,hJ⟩:∃U:Int,U=(take (l.drop (take l).2)).2:=⟨_,rfl⟩
  have hkj:IntKind.i64.wrap (K+J)=K+J:=a5 (by omega);simp only [d8,d8i,← hR,push_cast,↓reduceIte,reduceCtorEq,zE,zA,zD];rw [hdr];refine ⟨by omega,⟨by omega,by omega,by omega⟩,?_⟩;refine a6 (aoc (l.drop (take l).2) (by omega)) rfl trivial ?_;rw [← hU,← hJ];simp only [push_cast,↓reduceIte,zE,zA,zL];by_cases j0:J=0
  ·have g:(J == 0)=true:=by simp [j0]
   have hone:t6 l=none:=by
    rw [t6,if_neg hc,if_pos (by omega)]
   simp only [g,push_cast,↓reduceIte,zE,zA,zD];rw [hone];exact ai2
  ·have g:(J == 0)=false:=by simp [j0]
   simp only [g,push_cast,↓reduceIte,zE,zA,zL];by_cases t0:T%8=0
   ·have g2:(T%8 == 0)=true:=by simp [t0]
    have hone:t6 l=some (((take l).1/8,0,(take (l.drop (take l).2)).1,[]),(take l).2+(take (l.drop (take l).2)).2):=by
     rw [t6,if_neg hc,if_neg (by omega),if_pos (by omega)]
    simp only [g2,hkj,push_cast,↓reduceIte,zE,zA,zD];rw [hone];exact ayj (by dsimp only; omega) (by dsimp only; omega) (by dsimp only; omega) rfl (by omega)
   ·have g2:(T%8 == 0)=false:=by simp [t0]
    simp only [g2,push_cast,↓reduceIte,reduceCtorEq,zE,zA,zL];by_cases t2:T%8=2
    ·have g3:(T%8 == 2)=true:=by simp [t2]
     have wR:IntKind.u64.wrap (IntKind.i64.wrap (IntKind.i64.wrap (R-K)-J))=R-K-J:=by
      rw [a5 (x:=R-K) (by omega),a5 (x:=R-K-J) (by omega),IntKind.wrap_u64]; omega
     simp only [g3,← hR,push_cast];rw [wR];by_cases un:U≤R-K-J
     ·have g4:decide (U≤R-K-J)=true:=by simp [un]
      have wU:IntKind.i64.wrap U=U:=a5 (by omega);have wS:IntKind.i64.wrap (K+J+U)=K+J+U:=a5 (by omega)
      have hone:t6 l=some (((take l).1/8,2,0,(l.drop ((take l).2+(take (l.drop (take l).2)).2)).take (take (l.drop (take l).2)).1),(take l).2+(take (l.drop (take l).2)).2+(take (l.drop (take l).2)).1):=by
       rw [t6,if_neg hc,if_neg (by omega),if_neg (by omega),if_pos ⟨by omega,by omega⟩]
      simp only [g4,hkj,wU,wS,← hR,push_cast,↓reduceIte,reduceCtorEq,zE,zA,zL,zD]
      have hseg:zaq (K+J).toNat (zah (K+J+U).toNat (bys l))=bys ((l.drop ((take l).2+(take (l.drop (take l).2)).2)).take (take (l.drop (take l).2)).1):=by
       rw [show (K+J+U).toNat=(take l).2+(take (l.drop (take l).2)).2+(take (l.drop (take l).2)).1 by omega,show (K+J).toNat=(take l).2+(take (l.drop (take l).2)).2 by omega,bet]
      have hsl:(bys ((l.drop ((take l).2+(take (l.drop (take l).2)).2)).take (take (l.drop (take l).2)).1)).length≤1000000000:=by
       rw [zao,zbc,zan]; omega
      rw [hone,hseg]
      have hfin:∀s:List RV,s=bys ((l.drop ((take l).2+(take (l.drop (take l).2)).2)).take (take (l.drop (take l).2)).1)→AV.tup [.r (.agg [.v (.int .i64 (T/8)),.v (.int .i64 (T%8)),.v (.int .u64 0),.sl 1 s]),.r (.v (.int .i64 (K+J+U)))]=aoy (some (((take l).1/8,2,0,(l.drop ((take l).2+(take (l.drop (take l).2)).2)).take (take (l.drop (take l).2)).1),(take l).2+(take (l.drop (take l).2)).2+(take (l.drop (take l).2)).1)):=
       fun s hs=>ayj (by dsimp only; omega) (by dsimp only; omega) rfl hs (by omega)
      generalize hsg:bys ((l.drop ((take l).2+(take (l.drop (take l).2)).2)).take (take (l.drop (take l).2)).1)=sg at hsl hfin;refine ⟨by simp,⟨by omega,by omega,by omega,by omega⟩,⟨by omega,by omega⟩,?_⟩;refine hfin _ ?_;rw [zaa,zas]
     ·have g4:decide (U≤R-K-J)=false:=by simp; omega
      have hone:t6 l=none:=by
       rw [t6,if_neg hc,if_neg (by omega),if_neg (by omega),if_neg (by omega)]
      simp only [g4,push_cast,↓reduceIte,zE,zA,zD];rw [hone];exact ai2
    ·have g3:(T%8 == 2)=false:=by simp [t2]
     have hone:t6 l=none:=by
      rw [t6,if_neg hc,if_neg (by omega),if_neg (by omega),if_neg (by omega)]
     simp only [g3,push_cast,↓reduceIte,zE,zA,zD];rw [hone];exact ai2

open Go Go.RowKit
abbrev awi (fs:List Fld):Ob:=.row 4 (.agg [.v (.int .i64 0),.v (.int .i64 0),.v (.int .u64 0),.sl 1 []]) true true (fs.map bj)
abbrev asy:AV:=.nils 4 (.agg [.v (.int .i64 0),.v (.int .i64 0),.v (.int .u64 0),.sl 1 []])
def ca:Option (List Fld)→AV
 | none=>.tup [asy,int .i64 10]
 | some []=>.tup [asy,int .i64 0]
 | some (n::ns)=>.tup [.own 1000000 0 0 (n::ns).length,int .i64 0]
def dx:Option (List Fld)→List Ob
 | none=>[]
 | some []=>[]
 | some (n::ns)=>[awi (n::ns)]
theorem o5 {m:List Fld} (hm:m≠[]):ca (some m)=.tup [.own 1000000 0 0 m.length,int .i64 0]∧dx (some m)=[awi m]:=by
 cases m with
 | nil=>exact absurd rfl hm
 | cons=>exact ⟨rfl,rfl⟩
theorem aua (l:List UInt8) (hl:l.length≤100000000):a8 P0 89 [sb l] [] (ca (r7 l)) (dx (r7 l)):=by
  refine aul rfl (by decide) ?_
  push_cast [arh,zab]
  have hmax:=d7
  refine run_loop [(0,false),(4,false)] (fun vs pos los=>∃(r:List UInt8) (f:Nat) (ns:List Fld),r.length≤f∧r.length+ns.length≤l.length∧r7 l=(ez f r).map (ns ++ ·)∧pos=[] ∧
    ((ns=[]∧vs=[sb r,asy]∧los=[])∨(ns≠[]∧vs=[sb r,.own 2000000 0 0 ns.length]∧los=[awi ns])))
    (fun vs _ _=>match vs with | .r (.sl _ xs)::_=>xs.length | _=>0) rfl ?_ ?_
  · push_cast
    refine ⟨l,l.length,[],zam _,by simp,?_,.inl ⟨rfl,rfl⟩⟩;show ez l.length l = _;cases ez l.length l<;>simp
  · rintro vs pos los ⟨r,f,ns,hf,hlen,hv,rfl,hc⟩;obtain ⟨R,hR,R0⟩:∃R:Int,R=r.length∧0≤R:=⟨_,rfl,by omega⟩
    have hdr:∀k:Nat,zaq k (zah R.toNat (bys r))=bys (r.drop k):=fun k=>by
      rw [zal (by simp; omega)];exact ahe r _
    have hdl:∀k:Nat,(r.drop k).length=r.length-k:=fun k=>zan;rcases hc with ⟨rfl,rfl,rfl⟩ | ⟨hns,rfl,rfl⟩
    · push_cast [← hR]
      refine b6 (fun h=>?_) (fun h=>?_)
      · have hr0 : 0 < r.length := by have : R > 0 := by simpa using h
                                      omega
        push_cast [← hR]
        refine a6 (bdj r (by omega)) rfl trivial ?_;cases ho:t6 r with
        | none=>
          push_cast [aoy,bj]
          rw [hv,amh hr0 ho];exact ⟨rfl,rfl⟩
        | some p=>
          obtain ⟨x,k⟩:=p;have hb:=aaj ho;obtain ⟨K,hK⟩:∃K:Int,K=k:=⟨_,rfl⟩
          have g0:(K == 0)=false:=by rw [beq_eq_false_iff_ne]; omega
          obtain ⟨f',hf',hv'⟩:=rq hr0 hf ho;have hdk:=hdl k
          push_cast [aoy,← hK,g0,← hR,bj]
          rw [hdr,jf hK];refine ⟨by simp,by omega,⟨by omega,by omega,by omega⟩,⟨r.drop k,f',[x],by omega,by simp only [zai,zab] at hlen ⊢; omega,?_,.inr ⟨by simp,rfl,rfl⟩⟩,by simp only [zao]; omega⟩;rw [hv,hv',zaz];congr 1
      · have hr0:r=[]:=by
          have:¬R>0:=by simpa using h
          exact zbs (by omega)
        push_cast
        rw [hv,hr0,jg];exact ⟨rfl,rfl⟩
    · push_cast [← hR]
      refine b6 (fun h=>?_) (fun h=>?_)
      · have hr0 : 0 < r.length := by have : R > 0 := by simpa using h
                                      omega
        push_cast [← hR]
        refine a6 (bdj r (by omega)) rfl trivial ?_;cases ho:t6 r with
        | none=>
          push_cast [aoy,bj]
          rw [hv,amh hr0 ho];exact ⟨rfl,rfl⟩
        | some p=>
          obtain ⟨x,k⟩:=p;have hb:=aaj ho;obtain ⟨K,hK⟩:∃K:Int,K=k:=⟨_,rfl⟩
          have g0:(K == 0)=false:=by rw [beq_eq_false_iff_ne]; omega
          obtain ⟨f',hf',hv'⟩:=rq hr0 hf ho;have hdk:=hdl k;have hx:bj x=.agg [.v (.int .i64 (x.1:Nat)),.v (.int .i64 (x.2.1:Nat)),.v (.int .u64 (x.2.2.1:Nat)),.sl 1 (bys x.2.2.2)]:=rfl
          push_cast [aoy,← hK,g0,← hR,hx,ng]
          rw [hdr,jf hK];refine ⟨by simp,by omega,⟨by omega,by omega,by omega⟩,⟨r.drop k,f',ns++[x],by omega,by rw [zad,hdk,zbg]; omega,?_,.inr ⟨by simp,by simp,by simp [bj]⟩⟩,by simp only [zao]; omega⟩;rw [hv,hv',zaz];congr 1;funext y;simp
      · have hr0:r=[]:=by
          have:¬R>0:=by simpa using h
          exact zbs (by omega)
        push_cast
        rw [hv,hr0,jg,zbt,zbu,(o5 hns).1,(o5 hns).2];exact ⟨rfl,rfl⟩

open Go Go.RowKit
def aeh:Mk P0 f105:={ x:=_ }
theorem akh:b8 105 1 aeh:=b7 func105
def abe:Mk P0 f92:={ x:=_ }
theorem ahv:b8 92 1 abe:=b7 func92
def aef:Mk P0 f34:={ x:=_ }
theorem akf:b8 34 1 aef:=b7 func34
def xg:Mk P0 f104:={ x:=_ }
theorem ae6:b8 104 1 xg:=b7 func104
def aei:Mk P0 f57:={ x:=_ }
theorem aki:b8 57 2 aei:=b7 func57
def abf:Mk P0 f88:={ x:=_ }
theorem ahx:b8 88 2 abf:=b7 func88
def ab1:Mk P0 f58:={ x:=_ }
theorem aij:b8 58 2 ab1:=b7 func58
def ab0:Mk P0 f49:={ x:=_ }
theorem aih:b8 49 1 ab0:=b7 func49
def zk:Mk P0 f48:={ x:=_ }
theorem agf:b8 48 1 zk:=b7 func48
theorem bk6:∀x:Fin 256,(zae 8 (x.val:Int) ||| zae 8 128).toNat=x.val%128+128:=by decide +kernel
theorem ark (U:Int) (h0:0≤U) (h1:U<18446744073709551616) :
  RV.v (.int .u8 (IntKind.u8.wrap ((zae IntKind.u8.bits (IntKind.u8.wrap U) ||| zae IntKind.u8.bits 128).toNat)))=by8 (zap (U.toNat%128+128)):=by
 have e:IntKind.u8.wrap U=((U.toNat%256:Nat):Int):=by rw [IntKind.wrap_u8]; omega
 have:=bk6 ⟨U.toNat%256,Nat.mod_lt _ (by decide)⟩;simp only at this;rw [e,show IntKind.u8.bits=8 from rfl,this,IntKind.wrap_u8];simp only [by8];congr 2;rw [UInt8.toNat_ofNat'];omega
theorem a6u (r:List UInt8) (c:UInt8):zah (r.length+1) (bys r++[by8 c])=bys (r++[c]):=by
 rw [zal (by simp)]; simp
theorem aom (n:Int) (n0:0≤n) (hn:n<18446744073709551616):a8 P0 105 [int .u64 n] [] (z7 (l9 (m6 n.toNat))) []:=by
  refine akh rfl (by decide) ?_;simp only [aeh,push_cast];have hmax:=d7
  refine run_loop [(0,false),(3,false)] (fun vs pos los=>∃(U:Int) (f:Nat) (r:List UInt8),0≤U∧U<18446744073709551616∧1≤f∧f≤10∧U.toNat<128^f∧r++rj f U.toNat=m6 n.toNat∧pos=[] ∧
    ((r=[]∧vs=[int .u64 U,.nils 1 (.v (.int .u8 0))]∧los=[])∨(vs=[int .u64 U,.own 2000000 0 0 r.length]∧los=[oi r])))
    (fun vs _ _=>match vs with | .r (.v (.int _ j))::_=>j.toNat | _=>0) rfl ?_ ?_
  · simp only [push_cast,↓reduceIte,reduceCtorEq,zA];exact ⟨n,10,[],n0,hn,by decide,by decide,by omega,rfl,.inl ⟨rfl,rfl⟩⟩
  · rintro vs pos los ⟨U,f,r,U0,U1,f1,f10,Uf,hr,rfl,hc⟩
    have hrl:r.length≤10:=by
      have h1:=congrArg zbe hr;have h2:=ak n.toNat;rw [zad] at h1;omega
    have hs:U.fdiv (2^min (zau 7) IntKind.u64.bits)=U/128:=amd U 7 (by decide);have hU:(U/128).toNat=U.toNat/128:=by omega
    rcases hc with ⟨rfl,rfl,rfl⟩ | ⟨rfl,rfl⟩
    · simp only [push_cast,↓reduceIte];refine b6 (fun h=>?_) (fun h=>?_)
      · have h1:127<U:=by simpa using h
        obtain ⟨f',rfl,hf',hUf,hv⟩:=agw (f:=f) (n:=U.toNat) (by omega) Uf;simp only [hs,push_cast,↓reduceIte,reduceCtorEq,zE,zA,zL,zD,zM];rw [ark U U0 U1];refine ⟨by simp,by omega,by omega,⟨U/128,f',[zap (U.toNat%128+128)],by omega,by omega,hf',by omega,by rw [hU]; exact hUf,?_,.inr ⟨rfl,rfl⟩⟩,by omega⟩;rw [← hr,hv,hU]; rfl
      · have h1 : U ≤ 127 := by have : ¬ (U > 127) := by simpa using h
                                omega
        have hv:=zp (f:=f) (n:=U.toNat) (by omega) f1;rw [hv] at hr;simp only [push_cast,↓reduceIte,reduceCtorEq,zE,zA,zD,zM];rw [ady U U0 h1,av2,av3,← hr];refine ⟨by simp,by omega,rfl,rfl⟩
    · simp only [push_cast,↓reduceIte];refine b6 (fun h=>?_) (fun h=>?_)
      · have h1:127<U:=by simpa using h
        obtain ⟨f',rfl,hf',hUf,hv⟩:=agw (f:=f) (n:=U.toNat) (by omega) Uf;simp only [hs,push_cast,↓reduceIte,reduceCtorEq,zE,zA,zL,zD];rw [ark U U0 U1];refine ⟨by simp,by omega,by omega,⟨U/128,f',r++[zap (U.toNat%128+128)],by omega,by omega,hf',by omega,by rw [hU]; exact hUf,?_,.inr ⟨by simp,by simp⟩⟩,by omega⟩;rw [← hr,hv,hU,zbf]; rfl
      · have h1 : U ≤ 127 := by have : ¬ (U > 127) := by simpa using h
                                omega
        have hv:=zp (f:=f) (n:=U.toNat) (by omega) f1;rw [hv] at hr;simp only [push_cast,↓reduceIte,reduceCtorEq,zE,zA,zL,zD];rw [ady U U0 h1,a6u,x9,t7,← hr];refine ⟨by simp,by omega,rfl,rfl⟩
theorem bhx {U i C:Int} {m k b:Nat} (hU:U=m) (hi:i=k) (hC:C=b) (hk:k≤9) (hm:m<2^(7*k)) (hb:b<256) (h9:k=9→b≤1) :
  IntKind.u64.wrap ((zae IntKind.u64.bits U ||| zae IntKind.u64.bits (IntKind.u64.wrap (IntKind.u64.wrap ((zae IntKind.u64.bits C &&& zae IntKind.u64.bits 127).toNat)*2^min (IntKind.i64.wrap (7*i)).toNat IntKind.u64.bits))).toNat)=((m+b%128*2^(7*k):Nat):Int):=by
 have e1:IntKind.i64.wrap (7*i)=7*i:=a5 (by omega);rw [e1,show (7*i).toNat=7*k by omega,show min (7*k) IntKind.u64.bits=7*k from zbn (by simp [IntKind.bits]; omega),hU,hC];exact a18 hk hm hb h9
theorem bgz (l:List UInt8) (i:Nat) (hi:i<l.length):(l9 l).data.toList.getD i 0=l[i]:=by
 rw [ajg]; simp [zbh,hi]
theorem ack (l:List UInt8) (hl:l.length≤140737488355328):a8 P0 92 [z7 (l9 l)] [] (.tup [int .u64 (take l).1,int .i64 (take l).2]) []:=by
 refine ahv rfl (by decide) ?_;obtain ⟨N,hN,N0,N1⟩:∃N:Int,N=l.length∧0≤N∧N≤140737488355328:=⟨_,rfl,by omega,by omega⟩
 push_cast [abe,zab,j8,← hN]
 refine run_loop [(0,false),(4,false),(5,false)] (fun vs pos los=>∃(i U:Int) (k m:Nat),i=k∧U=m∧k≤l.length∧k≤9∧m<2^(7*k)∧take l=fv k m (l.drop k) ∧
  vs=[z7 (l9 l),int .u64 U,int .i64 i]∧pos=[]∧los=[])
  (fun vs _ _=>match vs with | [_,_,.r (.v (.int _ j))]=>(N-j).toNat | _=>0) rfl ?_ ?_
 ·push_cast
  exact ⟨0,0,0,0,rfl,rfl,by omega,by omega,by decide,rfl,rfl⟩
 ·rintro vs pos los ⟨i,U,k,m,hik,hUm,hkl,hk9,hm,ht,rfl,rfl,rfl⟩;have g10:decide (i<10)=true:=by simp; omega
  push_cast [j8,← hN,g10]
  refine b6 (fun h=>?_) (fun h=>?_)
  ·have hi:i<N:=by simpa using h
   have hin:k<l.length:=by omega
   have hit:i.toNat=k:=by omega
   obtain ⟨b,hb⟩:∃b,l[k].toNat=b:=⟨_,rfl⟩
   have hb2:b<256:=by rw [← hb]; exact l[k].toNat_lt
   obtain ⟨C,hC⟩:∃C:Int,C=b:=⟨_,rfl⟩
   have hg:(((l9 l).data.toList.getD i.toNat 0).toNat:Int)=C:=by
    rw [hit,bgz l k hin,hC,hb]
   have w4:IntKind.i64.wrap (i+1)=i+1:=a5 (by omega);have w8:IntKind.u64.wrap C=C:=by rw [IntKind.wrap_u64]; omega
   push_cast [hg,w8,j8,← hN]
   refine ⟨⟨by omega,by omega⟩,?_⟩;refine b6 (fun h2=>?_) (fun h2=>?_)
   ·have hc:(k=9∧1<b)∨(0<k∧b=0):=by
     by_cases c1:i=9<;>by_cases c2:C>1<;>simp [c1,c2] at h2<;>omega
    push_cast
    rw [ht,asd hin hb hc]
    rfl
   ·have hc9:¬(k=9∧1<b):=by
     rintro ⟨h9,h1⟩;simp [show i=9 by omega,show C>1 by omega] at h2
    have hv:=bhx hUm hik hC hk9 hm hb2 (fun h9=>by omega);have hml:=adq (b:=b) hm;have hw7:0≤IntKind.i64.wrap (7*i):=by rw [a5 (x:=7*i) (by omega)]; omega
    generalize hm':m+b%128*2^(7*k)=m' at hv hml;generalize hV:((m':Nat):Int)=V at hv
    push_cast [hv]
    by_cases c1:C<128
    ·have g1:decide (C<128)=true:=by simp [c1]
     push_cast [g1,w4]
     refine ⟨hw7,?_⟩;refine b6 (fun h3=>?_) (fun h3=>?_)
     ·have hc:(k=9∧1<b)∨(0<k∧b=0):=by
       by_cases c3:i>0<;>by_cases c4:C=0<;>simp [c3,c4] at h3<;>omega
      push_cast
      rw [ht,asd hin hb hc]
      rfl
     ·have hc:¬((k=9∧1<b)∨(0<k∧b=0)):=by
       rintro (hc | hc)
       ·exact hc9 hc
       ·simp [show i>0 by omega,show C=0 by omega] at h3
      push_cast [w4]
      rw [ht,axw hin hb hc (by omega),hm'];refine congrArg AV.tup ?_;rw [← hV,show i+1=((k+1:Nat):Int) by omega]
    ·have g1:decide (C<128)=false:=by simp; omega
     push_cast [g1,w4]
     refine ⟨hw7,⟨i+1,V,k+1,m',by omega,by omega,by omega,by omega,hml,?_,rfl⟩,by omega⟩;rw [ht,az1 hin hb (by omega) (by omega),hm']
  ·have hi:¬i<N:=by simpa using h
   push_cast
   rw [ht,atz k m l (by omega)]
   rfl

open Go Go.RowKit
theorem aol (n:Int) (hn:in64 n):a8 P0 34 [int .i64 n] [] (int .u64 (zig n)) []:=by
 refine akf rfl (by decide) ?_;simp only [aef,push_cast,↓reduceIte,reduceCtorEq,zE,zA];have e1:n.fdiv (2^min (zau 63) IntKind.i64.bits)=n/9223372036854775808:=bc9 n 63 (by decide)
 have e2:IntKind.u64.wrap (IntKind.u64.wrap n*2^min (zau 1) IntKind.u64.bits)=IntKind.u64.wrap (IntKind.i64.wrap (n*2)):=by
  rw [show (2:Int)^min (zau 1) IntKind.u64.bits=2 from rfl,IntKind.wrap_u64,IntKind.wrap_u64,IntKind.wrap_u64,IntKind.wrap_i64];omega
 refine ⟨by decide,by decide,?_⟩;rw [e1,e2,bhl n hn]
theorem at8 (f:Int):a8 P0 104 [int .i64 f] [] (bl (okB f)) []:=by
 refine ae6 rfl (by decide) ?_
 push_cast [xg,zab]
 repeat refine And.intro (by simp +contextual) ?_
 refine ei ?_;simp [okB]
theorem aon (f n:Int) (hf:in64 f) (n0:0≤n) (hn:n<18446744073709551616):a8 P0 57 [int .i64 f,int .u64 n] [] (z7 (l9 (o6 f n))) []:=by
 refine aki rfl (by decide) ?_
 push_cast [aei,zab]
 refine a6 (at8 f) rfl trivial ?_;cases hk:okB f with
 | false=>
  push_cast [o6,hk]
  rfl
 | true=>
  have h1:1≤f∧f≤1000:=by simpa [okB] using hk
  have e1:IntKind.u64.wrap (IntKind.i64.wrap (8*f))=f*8:=by rw [a5 (x:=8*f) (by omega),IntKind.wrap_u64]; omega
  have l1:=ak (f*8).toNat;have l2:=ak n.toNat
  push_cast [o6,hk,e1]
  refine a6 (aom (f*8) (by omega) (by omega)) rfl trivial ?_
  push_cast
  refine a6 (aom n n0 hn) rfl trivial ?_
  push_cast [j8,am]
  omega
theorem ol (f:Int) (x:List UInt8) (hf:in64 f) (hx:x.length≤1000000000000):a8 P0 88 [int .i64 f,z7 (l9 x)] [] (z7 (l9 (k8 f x))) []:=by
 refine ahx rfl (by decide) ?_
 push_cast [abf,zab]
 refine a6 (at8 f) rfl trivial ?_;cases hk:okB f with
 | false=>
  push_cast [k8,hk]
  rfl
 | true=>
  have h1:1≤f∧f≤1000:=by simpa [okB] using hk
  have e1:IntKind.u64.wrap (IntKind.i64.wrap (IntKind.i64.wrap (8*f)+2))=f*8+2:=by rw [a5 (x:=8*f) (by omega),a5 (x:=8*f+2) (by omega),IntKind.wrap_u64]; omega
  obtain ⟨X,hX,X0,X1⟩:∃X:Int,X=x.length∧0≤X∧X≤1000000000000:=⟨_,rfl,by omega,by omega⟩
  have e4:IntKind.u64.wrap X=X:=by rw [IntKind.wrap_u64]; omega
  have eX:m6 x.length=m6 X.toNat:=by rw [hX]; rfl
  have l1:=ak (f*8+2).toNat;have l2:=ak X.toNat
  push_cast [k8,hk,e1,eX,← hX]
  refine a6 (aom (f*8+2) (by omega) (by omega)) rfl trivial ?_
  push_cast [j8,← hX,e4]
  refine a6 (aom X (by omega) (by omega)) rfl trivial ?_
  push_cast [j8,am,zad,zbf]
  exact ⟨by omega,by omega⟩
theorem rpack_t (f : Int) (ns : List Int) (hf : in64 f) (hn : ∀ n ∈ ns, 0 ≤ n ∧ n < 18446744073709551616) (hns : ns.length ≤ 1000000000) :
    a8 P0 58 [int .i64 f,.r (.sl 1 (ns.map fun n=>.v (.int .u64 n)))] [] (z7 (l9 (k8 f (ns.flatMap fun n=>m6 n.toNat)))) []:=by
  refine aij rfl (by decide) ?_;obtain ⟨N,hN,N0,N1⟩:∃N:Int,N=ns.length∧0≤N∧N≤1000000000:=⟨_,rfl,by omega,by omega⟩
  push_cast [ab1,zab,← hN]
  have hlen:∀i:Nat,((ns.take i).flatMap fun n=>m6 n.toNat).length≤10*i:=fun i=>by
    induction i with
    | zero=>simp
    | succ i ih=>
      rw [zbj,zbo,zad]
      have:((ns[i]?.toList).flatMap fun n=>m6 n.toNat).length≤10:=by
        cases ns[i]? with
        | none=>simp
        | some n=>simpa using ak n.toNat
      omega
  refine run_loop [(0,false),(1,false),(5,false),(6,false)] (fun vs pos los=>∃(i:Int) (r:List UInt8),0≤i∧i≤N∧r=(ns.take i.toNat).flatMap (fun n=>m6 n.toNat) ∧
    vs=[int .i64 f,.r (.sl 1 (ns.map fun n=>.v (.int .u64 n))),z7 (l9 r),int .i64 i]∧pos=[]∧los=[])
    (fun vs _ _=>match vs with | [_,_,_,.r (.v (.int _ j))]=>(N-j).toNat | _=>0) rfl ?_ ?_
  · push_cast
    exact ⟨0,[],by omega,by omega,rfl,rfl⟩
  · rintro vs pos los ⟨i,r,i0,iN,hr,rfl,rfl,rfl⟩;have hrl:=hlen i.toNat;rw [← hr] at hrl
    push_cast [← hN]
    refine b6 (fun h=>?_) (fun h=>?_)
    · have hi:i<N:=by simpa using h
      have hin:i.toNat<ns.length:=by omega
      have hb:=hn _ (List.getElem_mem hin);have hg:(zar (fun n=>RV.v (.int .u64 n)) ns).getD i.toNat (.v (.int .u64 0))=.v (.int .u64 ns[i.toNat]):=by simp [zbh,hin]
      have w4:IntKind.i64.wrap (i+1)=i+1:=a5 (by omega);have hv:=ak (ns[i.toNat]).toNat
      push_cast [hg,← hN]
      refine ⟨⟨i0,hi⟩,?_⟩;refine a6 (aom _ hb.1 hb.2) rfl trivial ?_
      push_cast [w4,j8,am]
      refine ⟨by omega,⟨i+1,r++m6 (ns[i.toNat]).toNat,by omega,by omega,?_,rfl⟩,by omega⟩;rw [show (i+1).toNat=i.toNat+1 by omega,zcb hin,zbo,← hr];simp
    · have hi : i = N := by have : ¬ i < N := by simpa using h
                            omega
      rw [hi,show N.toNat=ns.length by omega,zas] at hr
      push_cast
      refine a6 (ol f r hf (by omega)) rfl trivial ?_
      push_cast [← hr]

open Go Go.RowKit
theorem apx (l:List UInt8) (k n:Nat) (hn:n=l.length):(l9 l).extract k n=l9 (l.drop k):=by
 rw [a1t _ _ _ (by omega),zal (by omega)]
theorem tm {m:List Nat} (hm:m≠[]):zn (some m)=.tup [.own 1000000 0 0 m.length,int .i64 0]∧zo (some m)=[awh m]:=by
 cases m with
 | nil=>exact absurd rfl hm
 | cons=>exact ⟨rfl,rfl⟩
theorem a21 (l:List UInt8) (hl:l.length≤1000000000):a8 P0 49 [z7 (l9 l)] [] (zn (au l)) (zo (au l)):=by
  refine aih rfl (by decide) ?_;obtain ⟨L,hL,L0⟩:∃L:Int,L=l.length∧0≤L:=⟨_,rfl,by omega⟩
  push_cast [ab0,zab]
  have hmax:=d7
  refine run_loop [(0,false),(4,false),(5,false)] (fun vs pos los=>∃(A:Int) (k f:Nat) (ns:List Nat),A=k∧k≤l.length∧l.length-k≤f∧ns.length≤k∧au l=(dp f (l.drop k)).map (ns ++ ·)∧pos=[] ∧
    ((ns=[]∧vs=[z7 (l9 l),.nils 1 (.v (.int .u64 0)),int .i64 A]∧los=[])∨(ns≠[]∧vs=[z7 (l9 l),.own 2000000 0 0 ns.length,int .i64 A]∧los=[awh ns])))
    (fun vs _ _=>match vs with | [_,_,.r (.v (.int _ j))]=>(L-j).toNat | _=>0) rfl ?_ ?_
  · push_cast
    refine ⟨0,0,l.length,[],rfl,by omega,by omega,by simp,?_,.inl ⟨rfl,rfl⟩⟩;show dp l.length l = _;cases h:dp l.length l<;>simp [h]
  · rintro vs pos los ⟨A,k,f,ns,hA,hk,hf,hnk,hv,rfl,hc⟩;have hrl:(l.drop k).length=l.length-k:=zan;have hb:=dq (l.drop k);obtain ⟨U,hU⟩:∃U:Int,U=(take (l.drop k)).1:=⟨_,rfl⟩
    obtain ⟨K,hK⟩:∃K:Int,K=(take (l.drop k)).2:=⟨_,rfl⟩
    have hext:(l9 l).extract A.toNat L.toNat=l9 (l.drop k):=by rw [jf hA,jf hL,apx l k _ rfl]
    have hsnoc:da ns++[.v (.int .u64 U)]=da (ns++[(take (l.drop k)).1]):=by rw [hU]; exact ayl _ _
    have wk:IntKind.i64.wrap (A+K)=A+K:=a5 (by omega);have htake:=aoc (l.drop k);rcases hc with ⟨rfl,rfl,rfl⟩ | ⟨hns,rfl,rfl⟩
    · push_cast [j8,← hL]
      refine b6 (fun h=>?_) (fun h=>?_)
      · have hr0:A<L:=by simpa using h
        push_cast [j8,← hL,hext]
        refine ⟨⟨by omega,by omega,by omega⟩,?_⟩;refine a6 (ack (l.drop k) (by omega)) rfl trivial ?_;rw [← hU,← hK]
        push_cast
        by_cases k0:K=0
        · have g0:(K == 0)=true:=by simp [k0]
          push_cast [g0]
          rw [hv,agv (by omega) (by omega)];exact ⟨rfl,rfl⟩
        · have g0:(K == 0)=false:=by simp [k0]
          obtain ⟨f',hf',hv'⟩:=acb (f:=f) (n:=(take (l.drop k)).1) (k:=(take (l.drop k)).2) (by omega) (by omega) rfl (by omega)
          push_cast [g0,wk]
          refine ⟨by simp,by omega,⟨A+K,k+(take (l.drop k)).2,f',[(take (l.drop k)).1],by omega,by omega,by omega,by simp only [zai,zab]; omega,?_,.inr ⟨by simp,rfl,by rw [hU]; rfl⟩⟩,by omega⟩;rw [hv,hv',zaz,zbk];congr 1
      · have hr0 : k = l.length := by have : ¬ A < L := by simpa using h
                                      omega
        push_cast
        rw [hv,zbv (by omega),je];exact ⟨rfl,rfl⟩
    · push_cast [j8,← hL]
      refine b6 (fun h=>?_) (fun h=>?_)
      · have hr0:A<L:=by simpa using h
        push_cast [j8,← hL,hext]
        refine ⟨⟨by omega,by omega,by omega⟩,?_⟩;refine a6 (ack (l.drop k) (by omega)) rfl trivial ?_;rw [← hU,← hK]
        push_cast
        by_cases k0:K=0
        · have g0:(K == 0)=true:=by simp [k0]
          push_cast [g0]
          rw [hv,agv (by omega) (by omega)];exact ⟨rfl,rfl⟩
        · have g0:(K == 0)=false:=by simp [k0]
          obtain ⟨f',hf',hv'⟩:=acb (f:=f) (n:=(take (l.drop k)).1) (k:=(take (l.drop k)).2) (by omega) (by omega) rfl (by omega)
          push_cast [g0,wk,adp]
          rw [hsnoc];refine ⟨by simp,by omega,⟨A+K,k+(take (l.drop k)).2,f',ns++[(take (l.drop k)).1],by omega,by omega,by omega,by rw [zad,zbg]; omega,?_,.inr ⟨by simp,by simp,rfl⟩⟩,by omega⟩;rw [hv,hv',zaz,zbk];congr 1;funext x;simp
      · have hr0 : k = l.length := by have : ¬ A < L := by simpa using h
                                      omega
        push_cast
        rw [hv,zbv (by omega),je,zbt,zbu,(tm hns).1,(tm hns).2];exact ⟨rfl,rfl⟩

open Go Go.RowKit
theorem a1u (l:List UInt8) (a n:Nat) (hn:a+n≤l.length):(l9 l).extract a (a+n)=l9 ((l.drop a).take n):=by
 rw [a1t _ _ _ hn,List.drop_take,Nat.add_sub_cancel_left]
theorem aqd {a b c:Int} {x:Fld} {s:List RV} (ha:a=(x.1:Nat)) (hb:b=(x.2.1:Nat)) (hc:c=(x.2.2.1:Nat)) (hs:s=bys x.2.2.2) :
  RV.agg [.v (.int .i64 a),.v (.int .i64 b),.v (.int .u64 c),.sl 1 s]=bj x:=by rw [ha,hb,hc,hs]; rfl
set_option maxHeartbeats 1000000 in
theorem adw (l:List UInt8) (hl:l.length≤100000000):a8 P0 48 [z7 (l9 l)] [] (ca (r7 l)) (dx (r7 l)):=by
  refine agf rfl (by decide) ?_;obtain ⟨L,hL,L0⟩:∃L:Int,L=l.length∧0≤L:=⟨_,rfl,by omega⟩
  simp only [zk,push_cast];have hmax:=d7
  refine run_loop [(0,false),(4,false),(5,false)] (fun vs pos los=>∃(A:Int) (k f:Nat) (ns:List Fld),A=k∧k≤l.length∧l.length-k≤f∧ns.length≤k∧r7 l=(ez f (l.drop k)).map (ns ++ ·)∧pos=[] ∧
    ((ns=[]∧vs=[z7 (l9 l),asy,int .i64 A]∧los=[])∨(ns≠[]∧vs=[z7 (l9 l),.own 2000000 0 0 ns.length,int .i64 A]∧los=[awi ns])))
    (fun vs _ _=>match vs with | [_,_,.r (.v (.int _ j))]=>(L-j).toNat | _=>0) rfl ?_ ?_
  · simp only [push_cast,↓reduceIte,reduceCtorEq,zE,zA];refine ⟨0,0,l.length,[],rfl,by omega,by omega,by simp,?_,.inl ⟨rfl,rfl⟩⟩;show ez l.length l = _;cases h:ez l.length l<;>simp [h]
  · rintro vs pos los ⟨A,k,f,ns,hA,hk,hf,hnk,hv,rfl,hc⟩;generalize hr:l.drop k=r at hv;have hrl:r.length=l.length-k:=by rw [← hr]; exact zan
    have hb:=dq r;obtain ⟨T,hT⟩:∃U:Int,U=(take r).1:=⟨_,rfl⟩
    obtain ⟨K,hK⟩:∃K:Int,K=(take r).2:=⟨_,rfl⟩
    generalize hr2:r.drop (take r).2=r2;have hrl2:r2.length=r.length-(take r).2:=by rw [← hr2]; exact zan
    have hlk:l.drop (k+(take r).2)=r2:=by rw [← hr2,← hr,zbk]
    have hb2:=dq r2;obtain ⟨U,hU⟩:∃U:Int,U=(take r2).1:=⟨_,rfl⟩
    obtain ⟨J,hJ⟩:∃K:Int,K=(take r2).2:=⟨_,rfl⟩
    have hext:(l9 l).extract A.toNat L.toNat=l9 r:=by rw [jf hA,jf hL,apx l k _ rfl,hr]
    have hext2:(l9 l).extract (A+K).toNat L.toNat=l9 r2:=by rw [show (A+K).toNat=k+(take r).2 by omega,jf hL,apx l _ _ rfl,hlk]
    have wk:IntKind.i64.wrap (A+K)=A+K:=a5 (by omega);have wj:IntKind.i64.wrap (A+K+J)=A+K+J:=a5 (by omega);have s3:T.fdiv (2^min (zau 3) IntKind.u64.bits)=T/8:=amd T 3 (by decide);have a7:IntKind.u64.wrap ((zae IntKind.u64.bits T &&& zae IntKind.u64.bits 7).toNat)=T%8:=agi T 7 3 (by decide) (by decide) (by omega) (by omega);have c8:IntKind.i64.wrap (T/8)=T/8:=a5 (by omega);have m8:IntKind.i64.wrap (T%8)=T%8:=a5 (by omega);have wl:IntKind.u64.wrap (IntKind.i64.wrap (L-(A+K+J)))=L-(A+K+J):=by rw [a5 (x:=L-(A+K+J)) (by omega),IntKind.wrap_u64]; omega
    have on1:(take r).2=0∨(take r).1/8<1∨1000<(take r).1/8→t6 r=none:=fun h=>a48 (tag:=(take r).1) (k:=(take r).2) rfl h
    have bad:t6 r=none→0<r.length→ca (r7 l)=ca none∧dx (r7 l)=dx none:=fun h h0=>by
      rw [hv,amh h0 h]; exact ⟨rfl,rfl⟩
    have hdd:∀a,zaq (k+a) l=r.drop a:=fun a=>by rw [← hr,zbk]
    rcases hc with ⟨rfl,rfl,rfl⟩ | ⟨hns,rfl,rfl⟩
    · simp only [j8,← hL,push_cast,↓reduceIte,reduceCtorEq,zE];refine b6 (fun h=>?_) (fun h=>?_)
      · have hr0:A<L:=by simpa using h
        have hr1:0<r.length:=by omega
        simp only [j8,← hL,hext,push_cast,↓reduceIte,reduceCtorEq,zE];refine ⟨⟨by omega,by omega,by omega⟩,?_⟩;refine a6 (ack r (by omega)) rfl trivial ?_;rw [← hT,← hK];simp only [s3,a7,push_cast,↓reduceIte,zE,zA,zL]
        repeat refine And.intro (by by_cases c1:K=0<;>by_cases c2:T/8<1<;>by_cases c3:T/8>1000<;>by_cases c4:T%8=0<;>simp [c1,c2,c3,c4]<;>omega) ?_
        refine b6 (fun h2=>?_) (fun h2=>?_)
        · have hone:t6 r=none:=by
            by_cases c1:(take r).2=0∨(take r).1/8<1∨1000<(take r).1/8
            · exact on1 c1
            · refine aur (tag:=(take r).1) (k:=(take r).2) rfl ?_ ?_
              · intro c4;simp [show ¬K=0 by omega,show ¬T/8<1 by omega,show ¬T/8>1000 by omega,show T%8=0 by omega] at h2
              · intro c4;simp [show ¬K=0 by omega,show ¬T/8<1 by omega,show ¬T/8>1000 by omega,show T%8=2 by omega] at h2
          simp only [push_cast,↓reduceIte,zE,zA];rw [(bad hone hr1).1,(bad hone hr1).2];exact ⟨rfl,rfl⟩
        · have hc1:¬((take r).2=0∨(take r).1/8<1∨1000<(take r).1/8):=by
            intro hc1;by_cases c1:K=0<;>by_cases c2:T/8<1<;>by_cases c3:T/8>1000<;>simp [c1,c2,c3] at h2<;>omega
          have hc2:T%8=0∨T%8=2:=by
            by_cases c1:K=0<;>by_cases c2:T/8<1<;>by_cases c3:T/8>1000<;>by_cases c4:T%8=0<;>by_cases c5:T%8=2<;>simp [c1,c2,c3,c4,c5] at h2 ⊢
          simp only [wk,s3,a7,c8,m8,j8,← hL,hext2,push_cast,↓reduceIte,reduceCtorEq,zE,zA,zD];refine ⟨by decide,⟨by omega,by omega,by omega⟩,?_⟩;refine a6 (ack r2 (by omega)) rfl trivial ?_;rw [← hU,← hJ];simp only [push_cast,↓reduceIte,zE,zA,zL];by_cases j0:J=0
          · have g:(J == 0)=true:=by simp [j0]
            have hone:t6 r=none:=aus (tag:=(take r).1) (k:=(take r).2) (n:=(take r2).1) rfl (by rw [hr2]; exact Prod.ext rfl (show (take r2).2=0 by omega));simp only [g,push_cast,↓reduceIte,zE,zA];rw [(bad hone hr1).1,(bad hone hr1).2];exact ⟨rfl,rfl⟩
          · have g:(J == 0)=false:=by simp [j0]
            rcases hc2 with c0 | c0
            · have ho:=a0p (l:=r) (tag:=(take r).1) (k:=(take r).2) (n:=(take r2).1) (j:=(take r2).2) rfl (by rw [hr2]) hc1 (by omega) (by omega);obtain ⟨f',hf',hv'⟩:=rq (f:=f) hr1 (by omega) ho;have g2:((0:Int) == 0)=true:=rfl;simp only [g,c0,g2,wj,push_cast,↓reduceIte,reduceCtorEq,zE,zA,zL,zD,zM];have hx:RV.agg [.v (.int .i64 (T/8)),.v (.int .i64 0),.v (.int .u64 U),.sl 1 []]=bj ((take r).1/8,0,(take r2).1,[]):=aqd (by dsimp only; omega) rfl (by dsimp only; omega) rfl;rw [hx];refine ⟨by simp,by omega,⟨A+K+J,k+((take r).2+(take r2).2),f',[((take r).1/8,0,(take r2).1,[])],by omega,by omega,by omega,by simp only [zai,zab]; omega,?_,.inr ⟨by simp,rfl,rfl⟩⟩,by omega⟩;rw [hv,hv',zaz,hdd]
              congr 1
            · have g2:((2:Int) == 0)=false:=rfl;by_cases un:U>L-(A+K+J)
              · have g3:decide (U>L-(A+K+J))=true:=by simp [un]
                have hone:t6 r=none:=auq (tag:=(take r).1) (k:=(take r).2) (n:=(take r2).1) (j:=(take r2).2) rfl (by rw [hr2]) (by omega) (by omega);simp only [g,c0,g2,wj,wl,j8,← hL,g3,push_cast,↓reduceIte,reduceCtorEq,zE,zA,zL];rw [(bad hone hr1).1,(bad hone hr1).2];exact ⟨rfl,rfl⟩
              · have g3:decide (U>L-(A+K+J))=false:=by simp; omega
                have ho:=ayk (l:=r) (tag:=(take r).1) (k:=(take r).2) (n:=(take r2).1) (j:=(take r2).2) rfl (by rw [hr2]) hc1 (by omega) (by omega) (by omega);obtain ⟨f',hf',hv'⟩:=rq (f:=f) hr1 (by omega) ho;have cu:IntKind.i64.wrap U=U:=a5 (by omega);have wu:IntKind.i64.wrap (A+K+J+U)=A+K+J+U:=a5 (by omega)
                have hseg:(l9 l).extract (A+K+J).toNat (A+K+J+U).toNat=l9 ((r.drop ((take r).2+(take r2).2)).take (take r2).1):=by
                  rw [show (A+K+J).toNat=k+((take r).2+(take r2).2) by omega,show (A+K+J+U).toNat=k+((take r).2+(take r2).2)+(take r2).1 by omega,a1u _ _ _ (by omega),← hr,zbk]
                have hsl:((r.drop ((take r).2+(take r2).2)).take (take r2).1).length≤100000000:=by rw [zbc,zan]; omega
                simp only [g,c0,g2,g3,wj,wl,cu,wu,j8,← hL,hseg,ajg,ng,push_cast,↓reduceIte,reduceCtorEq,zE,zA,zL,zD,zM];have hx:RV.agg [.v (.int .i64 (T/8)),.v (.int .i64 2),.v (.int .u64 0),.sl 1 (zar (fun b:UInt8=>RV.v (.int .u8 b.toNat)) ((r.drop ((take r).2+(take r2).2)).take (take r2).1))]=bj ((take r).1/8,2,0,(r.drop ((take r).2+(take r2).2)).take (take r2).1):=aqd (by dsimp only; omega) rfl rfl rfl;rw [hx]
                refine ⟨⟨by omega,by omega,by omega⟩,by omega,by simp,by omega,⟨A+K+J+U,k+((take r).2+(take r2).2+(take r2).1),f',[((take r).1/8,2,0,(r.drop ((take r).2+(take r2).2)).take (take r2).1)],by omega,by omega,by omega,by simp only [zai,zab]; omega,?_,.inr ⟨by simp,rfl,rfl⟩⟩,by omega⟩;rw [hv,hv',zaz,hdd];congr 1
      · have hr0 : k = l.length := by have : ¬ A < L := by simpa using h
                                      omega
        simp only [push_cast,↓reduceIte,reduceCtorEq,zE,zA];rw [hv,← hr,zbv (by omega),jg];exact ⟨rfl,rfl⟩
    · simp only [j8,← hL,push_cast,↓reduceIte,reduceCtorEq,zE];refine b6 (fun h=>?_) (fun h=>?_)
      · have hr0:A<L:=by simpa using h
        have hr1:0<r.length:=by omega
        simp only [j8,← hL,hext,push_cast,↓reduceIte,reduceCtorEq,zE];refine ⟨⟨by omega,by omega,by omega⟩,?_⟩;refine a6 (ack r (by omega)) rfl trivial ?_;rw [← hT,← hK];simp only [s3,a7,push_cast,↓reduceIte,zE,zA,zL]
        repeat refine And.intro (by by_cases c1:K=0<;>by_cases c2:T/8<1<;>by_cases c3:T/8>1000<;>by_cases c4:T%8=0<;>simp [c1,c2,c3,c4]<;>omega) ?_
        refine b6 (fun h2=>?_) (fun h2=>?_)
        · have hone:t6 r=none:=by
            by_cases c1:(take r).2=0∨(take r).1/8<1∨1000<(take r).1/8
            · exact on1 c1
            · refine aur (tag:=(take r).1) (k:=(take r).2) rfl ?_ ?_
              · intro c4;simp [show ¬K=0 by omega,show ¬T/8<1 by omega,show ¬T/8>1000 by omega,show T%8=0 by omega] at h2
              · intro c4;simp [show ¬K=0 by omega,show ¬T/8<1 by omega,show ¬T/8>1000 by omega,show T%8=2 by omega] at h2
          simp only [push_cast,↓reduceIte,zE,zA];rw [(bad hone hr1).1,(bad hone hr1).2];exact ⟨rfl,rfl⟩
        · have hc1:¬((take r).2=0∨(take r).1/8<1∨1000<(take r).1/8):=by
            intro hc1;by_cases c1:K=0<;>by_cases c2:T/8<1<;>by_cases c3:T/8>1000<;>simp [c1,c2,c3] at h2<;>omega
          have hc2:T%8=0∨T%8=2:=by
            by_cases c1:K=0<;>by_cases c2:T/8<1<;>by_cases c3:T/8>1000<;>by_cases c4:T%8=0<;>by_cases c5:T%8=2<;>simp [c1,c2,c3,c4,c5] at h2 ⊢
          simp only [wk,s3,a7,c8,m8,j8,← hL,hext2,push_cast,↓reduceIte,reduceCtorEq,zE,zA,zD];refine ⟨by decide,⟨by omega,by omega,by omega⟩,?_⟩;refine a6 (ack r2 (by omega)) rfl trivial ?_;rw [← hU,← hJ];simp only [push_cast,↓reduceIte,zE,zA,zL];by_cases j0:J=0
          · have g:(J == 0)=true:=by simp [j0]
            have hone:t6 r=none:=aus (tag:=(take r).1) (k:=(take r).2) (n:=(take r2).1) rfl (by rw [hr2]; exact Prod.ext rfl (show (take r2).2=0 by omega));simp only [g,push_cast,↓reduceIte,zE,zA];rw [(bad hone hr1).1,(bad hone hr1).2];exact ⟨rfl,rfl⟩
          · have g:(J == 0)=false:=by simp [j0]
            rcases hc2 with c0 | c0
            · have ho:=a0p (l:=r) (tag:=(take r).1) (k:=(take r).2) (n:=(take r2).1) (j:=(take r2).2) rfl (by rw [hr2]) hc1 (by omega) (by omega);obtain ⟨f',hf',hv'⟩:=rq (f:=f) hr1 (by omega) ho;have g2:((0:Int) == 0)=true:=rfl;simp only [g,c0,g2,wj,ng,push_cast,↓reduceIte,reduceCtorEq,zE,zA,zL,zD];have hx:RV.agg [.v (.int .i64 (T/8)),.v (.int .i64 0),.v (.int .u64 U),.sl 1 []]=bj ((take r).1/8,0,(take r2).1,[]):=aqd (by dsimp only; omega) rfl (by dsimp only; omega) rfl;rw [hx];refine ⟨by simp,by omega,⟨A+K+J,k+((take r).2+(take r2).2),f',ns++[((take r).1/8,0,(take r2).1,[])],by omega,by omega,by omega,by rw [zad,zbg]; omega,?_,.inr ⟨by simp,by simp,by simp⟩⟩,by omega⟩
              rw [hv,hv',zaz,hdd];congr 1;funext y;simp
            · have g2:((2:Int) == 0)=false:=rfl;by_cases un:U>L-(A+K+J)
              · have g3:decide (U>L-(A+K+J))=true:=by simp [un]
                have hone:t6 r=none:=auq (tag:=(take r).1) (k:=(take r).2) (n:=(take r2).1) (j:=(take r2).2) rfl (by rw [hr2]) (by omega) (by omega);simp only [g,c0,g2,wj,wl,j8,← hL,g3,push_cast,↓reduceIte,reduceCtorEq,zE,zA,zL];rw [(bad hone hr1).1,(bad hone hr1).2];exact ⟨rfl,rfl⟩
              · have g3:decide (U>L-(A+K+J))=false:=by simp; omega
                have ho:=ayk (l:=r) (tag:=(take r).1) (k:=(take r).2) (n:=(take r2).1) (j:=(take r2).2) rfl (by rw [hr2]) hc1 (by omega) (by omega) (by omega);obtain ⟨f',hf',hv'⟩:=rq (f:=f) hr1 (by omega) ho;have cu:IntKind.i64.wrap U=U:=a5 (by omega);have wu:IntKind.i64.wrap (A+K+J+U)=A+K+J+U:=a5 (by omega)
                have hseg:(l9 l).extract (A+K+J).toNat (A+K+J+U).toNat=l9 ((r.drop ((take r).2+(take r2).2)).take (take r2).1):=by
                  rw [show (A+K+J).toNat=k+((take r).2+(take r2).2) by omega,show (A+K+J+U).toNat=k+((take r).2+(take r2).2)+(take r2).1 by omega,a1u _ _ _ (by omega),← hr,zbk]
                have hsl:((r.drop ((take r).2+(take r2).2)).take (take r2).1).length≤100000000:=by rw [zbc,zan]; omega
                simp only [g,c0,g2,g3,wj,wl,cu,wu,j8,← hL,hseg,ajg,ng,push_cast,↓reduceIte,reduceCtorEq,zE,zA,zL,zD];have hx:RV.agg [.v (.int .i64 (T/8)),.v (.int .i64 2),.v (.int .u64 0),.sl 1 (zar (fun b:UInt8=>RV.v (.int .u8 b.toNat)) ((r.drop ((take r).2+(take r2).2)).take (take r2).1))]=bj ((take r).1/8,2,0,(r.drop ((take r).2+(take r2).2)).take (take r2).1):=aqd (by dsimp only; omega) rfl rfl rfl;rw [hx]
                refine ⟨⟨by omega,by omega,by omega⟩,by omega,by simp,by omega,⟨A+K+J+U,k+((take r).2+(take r2).2+(take r2).1),f',ns++[((take r).1/8,2,0,(r.drop ((take r).2+(take r2).2)).take (take r2).1)],by omega,by omega,by omega,by rw [zad,zbg]; omega,?_,.inr ⟨by simp,by simp,by simp⟩⟩,by omega⟩;rw [hv,hv',zaz,hdd];congr 1;funext y;simp
      · have hr0 : k = l.length := by have : ¬ A < L := by simpa using h
                                      omega
        simp only [push_cast,↓reduceIte,reduceCtorEq,zE,zA,zL,zD];rw [hv,← hr,zbv (by omega),jg,zbt,zbu,(o5 hns).1,(o5 hns).2];exact ⟨rfl,rfl⟩

open Go Go.RowKit
theorem ck (G n:Int):(o6 G n).length≤20:=by
 unfold o6; split
 ·have:=ak (G*8).toNat; have:=ak n.toNat; rw [zad]; omega
 ·simp
theorem jb (G:Int) (y:List UInt8):(k8 G y).length≤20+y.length:=by
 unfold k8; split
 ·have:=ak (G*8+2).toNat; have:=ak y.length; rw [zad,zad]; omega
 ·simp
theorem apc (ns:List Int):(ns.flatMap fun n=>m6 n.toNat).length≤10*ns.length:=by
 induction ns with
 | nil=>simp
 | cons m ns ih=>
  have:=ak m.toNat;rw [List.flatMap_cons,zad,zai]; omega
theorem axs:∀(f:Nat) (l:List UInt8) (m:List Nat),l.length≤f→dp f l=some m→m.length≤l.length
 | f,[],m,_,h=>by
  rw [je] at h;cases h; simp
 | 0,_::_,m,hf,h=>by simp at hf
 | f+1,c::l,m,hf,h=>by
  have hb:=dq (c::l);by_cases h0:(take (c::l)).2=0
  ·rw [agv (by simp) h0] at h; cases h
  ·obtain ⟨f',hf',hv⟩:=acb (f:=f+1) (n:=(take (c::l)).1) (k:=(take (c::l)).2) (l:=c::l) (by simp) hf rfl h0;rw [hv] at h;obtain ⟨m',hm',rfl⟩:=Option.map_eq_some_iff.1 h;have hd:((c::l).drop (take (c::l)).2).length=(c::l).length-(take (c::l)).2:=zan;have e:f'=f:=by omega
   subst e;have:=axs f' ((c::l).drop (take (c::l)).2) m' (by omega) hm';simp only [zai] at *;omega
theorem a6p {l:List UInt8} {m:List Nat} (h:au l=some m):m.length≤l.length:=axs _ l m (zam _) h
theorem ax9:∀(f:Nat) (l:List UInt8) (m:List Fld),l.length≤f→ez f l=some m→m.length≤l.length
 | f,[],m,_,h=>by
  rw [jg] at h;cases h; simp
 | 0,_::_,m,hf,h=>by simp at hf
 | f+1,c::l,m,hf,h=>by
  cases ho:t6 (c::l) with
  | none=>rw [amh (by simp) ho] at h; cases h
  | some p=>
   obtain ⟨x,k⟩:=p;have hb:=aaj ho;obtain ⟨f',hf',hv⟩:=rq (f:=f+1) (by simp) hf ho;rw [hv] at h;obtain ⟨m',hm',rfl⟩:=Option.map_eq_some_iff.1 h;have hd:((c::l).drop k).length=(c::l).length-k:=zan;have e:f'=f:=by omega
   subst e;have:=ax9 f' ((c::l).drop k) m' (by omega) hm';simp only [zai] at *;omega
theorem kr {l:List UInt8} {m:List Fld} (h:r7 l=some m):m.length≤l.length:=ax9 _ l m (zam _) h

def aes:Mk P0 f10:={ x:=_ }
theorem afb:b8 10 1 aes:=b7 func10
def aiw (p q:P2):List Int:=[zig (IntKind.i64.wrap (q.1-p.1)),zig (IntKind.i64.wrap (q.2-p.2))]
def p9:P2→List P2→List Int
 | _,[]=>[]
 | p,q::r=>aiw p q++p9 q r
def n6:List P2→List Int
 | []=>[]
 | p::r=>if r.length<2 then [] else [9,zig p.1,zig p.2,8*(r.length:Int)+2]++p9 p r++[15]
def i64P (l:List P2):Prop:=∀p∈l,in64 p.1∧in64 p.2
def n9 (l:List Int):List RV:=l.map fun n=>.v (.int .u64 n)
abbrev amg (l:List Int):Ob:=.row 1 (.v (.int .u64 0)) true true (n9 l)
theorem ado (n:Int) (h:in64 n):0≤zig n∧zig n<18446744073709551616:=by unfold zig in64 at *; split<;>omega
theorem ajm:∀(r:List P2) (p q o:P2) (i:Nat),r[i]?=some q→(p::r)[i]?=some o→p9 p (r.take (i+1))=p9 p (r.take i)++aiw o q
 | [],p,q,o,i,h,_=>by simp at h
 | a::r,p,q,o,0,h,g=>by
  simp at h g;subst h; subst g;simp [p9]
 | a::r,p,q,o,i+1,h,g=>by
  have ih:=ajm r a q o i (by simpa using h) (by simpa using g);rw [List.take_succ_cons,List.take_succ_cons,p9,p9,ih,zbf]
theorem iq:∀(r:List P2) (p:P2),(p9 p r).length=2*r.length
 | [],p=>rfl
 | a::r,p=>by
  rw [p9,zad,iq r a];simp [aiw];omega
set_option maxHeartbeats 1000000 in
theorem bah (ring:List P2) (hl:ring.length≤100000) (h:i64P ring) (h3:3≤ring.length):a8 P0 10 [a9 ring] [] (.own 1000000 0 0 (n6 ring).length) [amg (n6 ring)]:=by
 refine afb rfl (by decide) ?_;have hmx:=d7
 obtain ⟨p,r,rfl⟩:∃p r,ring=p::r:=by
  cases ring with
  | nil=>simp at h3
  | cons p r=>exact ⟨p,r,rfl⟩
 simp only [zai] at h3 hl;have d0:decide (((r.length:Nat):Int)+1<3)=false:=decide_eq_false (by omega);have z1:=atl p.1 (h p (by simp)).1;have z2:=atl p.2 (h p (by simp)).2;simp only [aes,a9,ptR,pnt,d0,zaf,zaa,zav,zaa,push_cast,↓reduceIte,reduceCtorEq,zA,zL];refine And.intro ⟨by omega,by omega⟩ (And.intro ⟨by omega,by omega⟩ ?_);refine b9 z1 rfl trivial ?_
 have wl:IntKind.u64.wrap (IntKind.i64.wrap (IntKind.i64.wrap (8*IntKind.i64.wrap ((r.length:Int)+1-1))+2))=8*(r.length:Int)+2:=by
  rw [a5 (x:=(r.length:Int)+1-1) (by omega),a5 (x:=8*((r.length:Int)+1-1)) (by omega),a5 (x:=8*((r.length:Int)+1-1)+2) (by omega),IntKind.wrap_u64];omega
 simp only [zaf,zaj,zaa,zba,zaa,push_cast,↓reduceIte,reduceCtorEq,zL];refine And.intro ⟨by omega,by omega⟩ (And.intro ⟨by omega,by omega⟩ ?_);refine b9 z2 rfl trivial ?_;simp only [wl,zaj,zaa,zak,zaa,push_cast,↓reduceIte,reduceCtorEq,zE,zA];refine And.intro (by simp) (And.intro (by kernel_rfl) ?_);refine And.intro ⟨by omega,by omega,by omega⟩ ?_;obtain ⟨H,hH⟩:∃H:List Int,H=[9,zig p.1,zig p.2,8*(r.length:Int)+2]:=⟨_,rfl⟩
 refine run_loop [(29,false),(28,false),(27,false),(0,false),(3,false)] (fun vs pos los=>∃i:Nat,i≤r.length∧vs=[int .i64 i,int .i64 r.length,a9 r,a9 (p::r),.own 2000000 0 0 (H++p9 p (r.take i)).length]∧pos=[]∧los=[amg (H++p9 p (r.take i))])
  (fun vs _ _=>match vs with | .r (.v (.int _ a))::_=>(r.length-a).toNat | _=>0) rfl ?_ ?_
 ·simp only [a9,ptR,pnt,push_cast,↓reduceIte,reduceCtorEq,zE,zA,zL,zD];refine ⟨0,by omega,?_,?_⟩
  ·rw [hH]; rfl
  ·rw [hH]; rfl
 ·rintro vs pos los ⟨i,hi,rfl,rfl,rfl⟩;simp only [a9,push_cast,↓reduceIte,zE];refine b6 (fun hd=>?_) (fun hd=>?_)
  ·have hi2:i<r.length:=by simpa using hd
   obtain ⟨q,hq⟩:∃q,r[i]?=some q:=⟨r[i],by simp [hi2]⟩
   obtain ⟨o,ho⟩:∃o,(p::r)[i]?=some o:=⟨(p::r)[i]'(by simp; omega),by simp [show i<r.length+1 by omega]⟩
   have wi:IntKind.i64.wrap ((i:Int)+1)=(i:Int)+1:=a5 (by omega)
   have g1:∀z,(r.map ptR).getD i z=.agg [.v (.int .i64 q.1),.v (.int .i64 q.2)]:=fun z=>by
    rw [zaw,zay,hq]; rfl
   have g2:∀z,(ptR p::r.map ptR).getD i z=.agg [.v (.int .i64 o.1),.v (.int .i64 o.2)]:=fun z=>by
    rw [← List.map_cons];rw [zaw,zay,ho]; rfl
   have y1:=atl (IntKind.i64.wrap (q.1-o.1)) (yf _);have y2:=atl (IntKind.i64.wrap (q.2-o.2)) (yf _);simp only [g1,g2,zaf,zaa,zba,zac,zaa,push_cast,↓reduceIte,reduceCtorEq,zE,zA,zL,zD]
   repeat refine And.intro ⟨by omega,by omega⟩ ?_
   refine b9 y1 rfl trivial ?_;simp only [g2,zaj,zaa,zba,zac,zaa,push_cast,↓reduceIte,reduceCtorEq,zE,zA,zL]
   repeat refine And.intro ⟨by omega,by omega⟩ ?_
   refine b9 y2 rfl trivial ?_;simp only [wi,zaa,zaa,push_cast,↓reduceIte,reduceCtorEq,zE,zA,zL,zD];have hsl:=iq (r.take i) p;have hHl:H.length=4:=by rw [hH]; rfl
   rw [zbc,zbn hi] at hsl;have hsu:=ajm r p q o i hq ho;have htk:zah (H.length+(p9 p (r.take i)).length) (n9 (H++p9 p (r.take i)))=n9 (H++p9 p (r.take i)):=zal (by simp [n9]);rw [htk];refine And.intro (by simp) (And.intro ⟨by omega,by omega⟩ (And.intro (by kernel_rfl) ?_));refine ⟨⟨i+1,by omega,?_,?_⟩,by omega⟩
   ·rw [hsu]; simp [aiw]; omega
   ·rw [hsu]; simp [n9,aiw]
  ·have hi2:i=r.length:=by
    have:¬i<r.length:=by simpa using hd
    omega
   simp only [push_cast,↓reduceIte,reduceCtorEq,zE,zA,zL,zD];subst hi2;have hsl:=iq r p;have hHl:H.length=4:=by rw [hH]; rfl
   have hC:n6 (p::r)=H++p9 p r++[15]:=by rw [n6,if_neg (by omega),hH]
   rw [zas];have htk:zah (H.length+(p9 p r).length) (n9 (H++p9 p r))=n9 (H++p9 p r):=zal (by simp [n9]);rw [htk,hC];refine ⟨by simp,⟨by omega,by omega⟩,?_,?_⟩
   ·simp; omega
   ·simp [n9]
theorem a6t (ring:List P2) (h3:ring.length<3):a8 P0 10 [a9 ring] [] (.nils 1 (.v (.int .u64 0))) []:=by
 refine afb rfl (by decide) ?_;have d0:decide (((ring.length:Nat):Int)<3)=true:=decide_eq_true (by omega)
 push_cast [aes,a9,zao,d0,zab]

def pt:Mk P0 f14:={ x:=_ }
theorem sw:b8 14 1 pt:=b7 func14
def ml:Mk P0 f15:={ x:=_ }
theorem ae5:b8 15 2 ml:=b7 func15
theorem a7h (ring:List P2) (h3:ring.length<3):a8 P0 14 [a9 ring] [] (.nils 1 (.v (.int .u64 0))) []:=by
 refine sw rfl (by decide) ?_;have d0:decide (((ring.length:Nat):Int)<3)=true:=decide_eq_true (by omega)
 push_cast [pt,a9,zao,d0,zab]
theorem bd9 (a b:List P2) (ha:a.length≤1000000) (hb:b.length≤1000000):a8 P0 15 [a9 a,a9 b] [] (bl (decide (a=b))) []:=by
 refine ae5 rfl (by decide) ?_;by_cases hL:a.length=b.length
 ·have n0:(((a.length:Nat):Int) != (b.length:Int))=false:=by rw [hL]; simp
  push_cast [ml,a9,zao,n0,zab]
  refine run_loop [(5,false),(0,false),(1,false)] (fun vs pos los=>∃i:Nat,i≤a.length∧a.take i=b.take i∧vs=[int .i64 i,a9 a,a9 b]∧pos=[]∧los=[])
   (fun vs _ _=>match vs with | .r (.v (.int _ n))::_=>(a.length-n).toNat | _=>0) rfl ?_ ?_
  ·push_cast [a9]
   exact ⟨0,by omega,rfl,rfl⟩
  ·rintro vs pos los ⟨i,hi,hab,rfl,rfl,rfl⟩
   push_cast [a9,zao]
   refine b6 (fun hd=>?_) (fun hd=>?_)
   ·have hi2:i<a.length:=by simpa using hd
    obtain ⟨q,hq⟩:∃q,a[i]?=some q:=⟨a[i],by simp [hi2]⟩
    obtain ⟨o,ho⟩:∃o,b[i]?=some o:=⟨b[i]'(by omega),by simp [hL▸hi2]⟩
    have wi:IntKind.i64.wrap ((i:Int)+1)=(i:Int)+1:=a5 (by omega)
    have g1:∀z,(a.map ptR).getD i z=.agg [.v (.int .i64 q.1),.v (.int .i64 q.2)]:=fun z=>by
     rw [zaw,zay,hq]; rfl
    have g2:∀z,(b.map ptR).getD i z=.agg [.v (.int .i64 o.1),.v (.int .i64 o.2)]:=fun z=>by
     rw [zaw,zay,ho]; rfl
    have he:=af5 q o
    push_cast [a9,g1,g2,wi,zao,zaf,zaj,zaa,zac,zak,zaa]
    refine And.intro ⟨by omega,by omega⟩ (And.intro ⟨by omega,by omega⟩ (And.intro (by kernel_rfl) ?_));by_cases hqo:q=o
    ·subst hqo;have he2:(q.1 == q.1&&q.2 == q.2)=true:=by simp
     push_cast [he2,wi,a9]
     refine ⟨⟨i+1,by omega,?_,by simp⟩,by omega⟩;rw [zbj,zbj,hab,hq,ho]
    ·have he2:(q.1 == o.1&&q.2 == o.2)=false:=he.trans (decide_eq_false hqo);have hne:decide (a=b)=false:=decide_eq_false (fun h=>hqo (by rw [h,ho] at hq; exact (Option.some.inj hq).symm))
     push_cast [he2,hne]
   ·have hi2:i=a.length:=by
     have:¬i<a.length:=by simpa using hd
     omega
    have hE:decide (a=b)=true:=decide_eq_true (by rw [hi2,zas,hL,zas] at hab; exact hab)
    push_cast [hE]
 ·have n0:(((a.length:Nat):Int) != (b.length:Int))=true:=by simp; omega
  have hE:decide (a=b)=false:=decide_eq_false (fun h=>hL (by rw [h]))
  push_cast [ml,a9,zao,n0,hE,zab]

def aeg:Mk P0 f35:={ x:=_ }
theorem akg:b8 35 1 aeg:=b7 func35
theorem a7a (n:Int) (h0:0≤n) (h1:n<18446744073709551616):a8 P0 35 [int .u64 n] [] (int .i64 (zag n)) []:=by
 refine akg rfl (by decide) ?_;simp only [aeg,push_cast,↓reduceIte,reduceCtorEq,zE,zA];have e1:n.fdiv (2^min (zau 1) IntKind.u64.bits)=n/2:=amd n 1 (by decide);have e2:=agi n 1 1 (by decide) (by decide) h0 h1;rw [show (2:Int)^1=2 from rfl] at e2;refine ⟨by decide,?_⟩;rw [e1,e2,bhm n h0 h1]
set_option maxHeartbeats 1000000 in
theorem bay (ring:List P2) (hl:ring.length≤100000) (h:i64P ring) (h3:3≤ring.length):a8 P0 14 [a9 ring] [] (.own 1000000 0 0 (n6 ring).length) [amg (n6 ring)]:=by
 refine sw rfl (by decide) ?_;have hmx:=d7
 obtain ⟨p,r,rfl⟩:∃p r,ring=p::r:=by
  cases ring with
  | nil=>simp at h3
  | cons p r=>exact ⟨p,r,rfl⟩
 simp only [zai] at h3 hl;have d0:decide (((r.length:Nat):Int)+1<3)=false:=decide_eq_false (by omega);have z1:=aol p.1 (h p (by simp)).1;have z2:=aol p.2 (h p (by simp)).2;simp only [pt,a9,ptR,pnt,d0,zaf,zaa,zav,zaa,push_cast,↓reduceIte,reduceCtorEq,zA,zL];refine And.intro ⟨by omega,by omega⟩ (And.intro ⟨by omega,by omega⟩ ?_);refine b9 z1 rfl trivial ?_
 have wl:IntKind.u64.wrap (IntKind.i64.wrap (IntKind.i64.wrap (8*IntKind.i64.wrap ((r.length:Int)+1-1))+2))=8*(r.length:Int)+2:=by
  rw [a5 (x:=(r.length:Int)+1-1) (by omega),a5 (x:=8*((r.length:Int)+1-1)) (by omega),a5 (x:=8*((r.length:Int)+1-1)+2) (by omega),IntKind.wrap_u64];omega
 simp only [zaf,zaj,zaa,zba,zaa,push_cast,↓reduceIte,reduceCtorEq,zL];refine And.intro ⟨by omega,by omega⟩ (And.intro ⟨by omega,by omega⟩ ?_);refine b9 z2 rfl trivial ?_;simp only [wl,zaa,zaa,push_cast,↓reduceIte,reduceCtorEq,zE,zA];refine And.intro (by simp) (And.intro (by kernel_rfl) ?_);obtain ⟨H,hH⟩:∃H:List Int,H=[9,zig p.1,zig p.2,8*(r.length:Int)+2]:=⟨_,rfl⟩
 refine run_loop [(4,false),(0,false),(3,false)] (fun vs pos los=>∃i:Nat,i≤r.length∧vs=[int .i64 ((i:Int)+1),a9 (p::r),.own 2000000 0 0 (H++p9 p (r.take i)).length]∧pos=[]∧los=[amg (H++p9 p (r.take i))])
  (fun vs _ _=>match vs with | .r (.v (.int _ a))::_=>(r.length+1-a).toNat | _=>0) rfl ?_ ?_
 ·simp only [a9,ptR,pnt,push_cast,↓reduceIte,reduceCtorEq,zE,zA,zL,zD];refine ⟨0,by omega,?_,?_⟩
  ·rw [hH]; rfl
  ·rw [hH]; rfl
 ·rintro vs pos los ⟨i,hi,rfl,rfl,rfl⟩;simp only [a9,push_cast,↓reduceIte,reduceCtorEq,zE];refine b6 (fun hd=>?_) (fun hd=>?_)
  ·have hi2:i<r.length:=by have:=of_decide_eq_true hd; omega
   obtain ⟨q,hq⟩:∃q,r[i]?=some q:=⟨r[i],by simp [hi2]⟩
   obtain ⟨o,ho⟩:∃o,(p::r)[i]?=some o:=⟨(p::r)[i]'(by simp; omega),by simp [show i<r.length+1 by omega]⟩
   have wi:IntKind.i64.wrap ((i:Int)+1+1)=(i:Int)+1+1:=a5 (by omega);have wj:IntKind.i64.wrap ((i:Int)+1-1)=(i:Int):=by rw [a5 (by omega)]; omega
   have g1:∀z,(ptR p::r.map ptR).getD (i+1) z=.agg [.v (.int .i64 q.1),.v (.int .i64 q.2)]:=fun z=>by
    rw [List.getD_cons_succ,zaw,zay,hq]; rfl
   have g2:∀z,(ptR p::r.map ptR).getD i z=.agg [.v (.int .i64 o.1),.v (.int .i64 o.2)]:=fun z=>by
    rw [← List.map_cons];rw [zaw,zay,ho]; rfl
   have y1:=aol (IntKind.i64.wrap (q.1-o.1)) (yf _);have y2:=aol (IntKind.i64.wrap (q.2-o.2)) (yf _);simp only [g1,g2,wj,zaf,zaa,zba,zac,zak,zaa,push_cast,↓reduceIte,reduceCtorEq,zE,zA,zL]
   repeat refine And.intro ⟨by omega,by omega⟩ ?_
   refine b9 y1 rfl trivial ?_;simp only [g1,g2,wj,zaj,zaa,zba,zac,zak,zaa,push_cast,↓reduceIte,reduceCtorEq,zE,zL]
   repeat refine And.intro ⟨by omega,by omega⟩ ?_
   refine b9 y2 rfl trivial ?_;simp only [wi,zaa,zaa,push_cast,↓reduceIte,reduceCtorEq,zE,zA,zL,zD];have hsl:=iq (r.take i) p;have hHl:H.length=4:=by rw [hH]; rfl
   rw [zbc,zbn hi] at hsl;have hsu:=ajm r p q o i hq ho;have htk:zah (H.length+(p9 p (r.take i)).length) (n9 (H++p9 p (r.take i)))=n9 (H++p9 p (r.take i)):=zal (by simp [n9]);rw [htk];refine And.intro (by simp) (And.intro ⟨by omega,by omega⟩ (And.intro (by kernel_rfl) ?_));refine ⟨⟨i+1,by omega,?_,?_⟩,by omega⟩
   ·rw [hsu]; simp [aiw]; omega
   ·rw [hsu]; simp [n9,aiw]
  ·have hi2:i=r.length:=by
    have:=of_decide_eq_false hd;omega
   simp only [push_cast,↓reduceIte,reduceCtorEq,zE,zA,zL,zD];subst hi2;have hsl:=iq r p;have hHl:H.length=4:=by rw [hH]; rfl
   have hC:n6 (p::r)=H++p9 p r++[15]:=by rw [n6,if_neg (by omega),hH]
   rw [zas];have htk:zah (H.length+(p9 p r).length) (n9 (H++p9 p r))=n9 (H++p9 p r):=zal (by simp [n9]);rw [htk,hC];refine ⟨by simp,⟨by omega,by omega⟩,?_,?_⟩
   ·simp; omega
   ·simp [n9]

def zt:Mk P0 f12:={ x:=_ }
theorem asa:b8 12 1 zt:=b7 func12
def jz:Mk P0 f16:={ x:=_ }
theorem aii:b8 16 1 jz:=b7 func16
def ao (l:List Int):Bool:=decide (9≤l.length)&&(l.length%2 == 1&&(l.getD 0 0 == 9&&(l.getD (l.length-1) 0 == 15&&l.getD 3 0 == 8*(((l.length:Int)-5)/2)+2)))
def vd (l:List Int):Nat→P2
 | 0=>(zag (l.getD 1 0),zag (l.getD 2 0))
 | j+1=>(IntKind.i64.wrap ((vd l j).1+zag (l.getD (4+2*j) 0)),IntKind.i64.wrap ((vd l j).2+zag (l.getD (5+2*j) 0)))
def bw (l:List Int) (n:Nat):List P2:=(List.range n).map (vd l)
theorem arv (l:List Int) (n:Nat):bw l (n+1)=bw l n++[vd l n]:=by simp [bw,List.range_succ]
def dj (l:List Int):List P2:=if ao l then bw l ((l.length-5)/2+1) else []
def u64L (l:List Int):Prop:=∀n∈l,0≤n∧n<18446744073709551616
theorem z5 (l:List Int) (i:Nat):(n9 l).getD i (.v (.int .u64 0))=.v (.int .u64 (l.getD i 0)):=by
 simp only [n9,zaw,zay];cases l[i]? <;> rfl
theorem yi {l:List Int} (h:u64L l) (i:Nat):0≤l.getD i 0∧l.getD i 0<18446744073709551616:=by
 rw [zaw];cases e:l[i]? with
 | none=>simp
 | some x=>exact h x (zbm e)
theorem a4i {l:List Int} (h:u64L l) (i:Nat):a8 P0 33 [int .u64 (l.getD i 0)] [] (int .i64 (zag (l.getD i 0))) []:=bcz _ (yi h i).1 (yi h i).2
theorem aze {l:List Int} (h:u64L l) (i:Nat):a8 P0 35 [int .u64 (l.getD i 0)] [] (int .i64 (zag (l.getD i 0))) []:=a7a _ (yi h i).1 (yi h i).2
set_option maxHeartbeats 1000000 in
theorem tring_t (l : List Int) (hl : l.length ≤ 1000000) (h : u64L l) {res : AV} {ro : List Ob}
    (hres:(ao l=false∧res=.tup [.nils 2 (pnt 0 0),bl false]∧ro=[])∨(ao l=true∧res=.tup [.own 1000000 0 0 (dj l).length,bl true]∧ro=[d6 (dj l)])) :
    a8 P0 12 [.r (.sl 1 (n9 l))] [] res ro:=by
  refine asa rfl (by decide) ?_;have hmx:=d7;have hnl:(n9 l).length=l.length:=by simp [n9]
  by_cases h9:l.length<9
  · have d0:decide (((l.length:Nat):Int)<9)=true:=decide_eq_true (by omega);have hc:ao l=false:=by simp [ao]; omega
    rcases hres with ⟨_,rfl,rfl⟩ | ⟨h,_⟩
    · simp only [zt,hnl,d0,pnt,z5,push_cast,↓reduceIte,reduceCtorEq,zE,zA,zL]
    · rw [hc] at h; cases h
  · obtain ⟨N,hN,hN1,hN2⟩:∃N:Int,((l.length:Nat):Int)=N∧9≤N∧N≤1000000:=⟨_,rfl,by omega,by omega⟩
    have d0:decide (N<9)=false:=decide_eq_false (by omega);have gn:(N-1).toNat=l.length-1:=by omega
    have w1:IntKind.i64.wrap (N-1)=N-1:=a5 (by omega);have w2:IntKind.i64.wrap (N-4)=N-4:=a5 (by omega);have w3:IntKind.i64.wrap (N-4-1)=N-5:=by rw [a5 (by omega)]; omega
    obtain ⟨K,hK⟩:∃K:Int,(N-5)/2=K:=⟨_,rfl⟩
    have w4:(N-5).tdiv 2=K:=by rw [zbr (by omega),hK]
    have w5:IntKind.u64.wrap (IntKind.i64.wrap (IntKind.i64.wrap (8*IntKind.i64.wrap K)+2))=8*K+2:=by
      rw [a5 (x:=K) (by omega),a5 (x:=8*K) (by omega),a5 (x:=8*K+2) (by omega),IntKind.wrap_u64];omega
    have hc:ao l=(!(l.getD 0 0 != 9)&&(!(l.getD (l.length-1) 0 != 15)&&(!(l.getD 3 0 != 8*K+2) && !((N-5).tmod 2 != 0)))):=by
      unfold ao;have t1:decide (9≤l.length)=true:=decide_eq_true (by omega)
      have t2:(l.length%2 == 1)=!((N-5).tmod 2 != 0):=by
        rw [zbp (by omega),Bool.eq_iff_iff];simp;omega
      rw [hN,hK,t1,t2];simp only [bne];generalize (l.getD 0 0 == 9)=A;generalize (l.getD (l.length-1) 0 == 15)=B;generalize (l.getD 3 0 == 8*K+2)=C;generalize ((N-5).tmod 2 == 0)=D;cases A<;>cases B<;>cases C<;>cases D<;>rfl
    cases hcc:ao l with
    | false=>
      rw [hcc] at hc hres;rcases hres with ⟨_,rfl,rfl⟩ | ⟨h,_⟩
      · cases e0:(l.getD 0 0 != 9)<;>cases e1:(l.getD (l.length-1) 0 != 15)<;>cases e2:(l.getD 3 0 != 8*K+2)<;>cases e3:((N-5).tmod 2 != 0) <;>
          first
          | (rw [e0,e1,e2,e3] at hc; cases hc; done)
          | (simp only [zt,hnl,hN,d0,gn,z5,w1,w2,w3,w4,w5,e0,e1,e2,e3,pnt,zaf,zaj,zaa,push_cast,↓reduceIte,reduceCtorEq,zE,zA,zL]
             first | done | omega | (refine ⟨by omega,?_⟩; simp; try omega))
      · cases h
    | true=>
      rw [hcc] at hc hres;have hc2:=hc.symm;simp only [Bool.and_eq_true,Bool.not_eq_true'] at hc2;obtain ⟨e0,e1,e2,e3⟩:=hc2;rcases hres with ⟨h,_⟩ | ⟨_,rfl,rfl⟩
      · cases h
      simp only [zt,hnl,hN,d0,gn,z5,w1,w2,w3,w4,w5,e0,e1,e2,e3,zaf,zaj,zaa,push_cast,↓reduceIte,reduceCtorEq,zE,zL]
      repeat refine And.intro (by omega) ?_
      refine b9 (a4i h 1) rfl trivial ?_;simp only [hnl,hN,z5,zaj,zaa,push_cast,↓reduceIte,reduceCtorEq,zL]
      repeat refine And.intro (by omega) ?_
      refine b9 (a4i h 2) rfl trivial ?_;simp only [zaa,push_cast,↓reduceIte,zE,zA,zD];refine And.intro (by kernel_rfl) (And.intro (by simp) ?_);obtain ⟨J,hJ⟩:∃J,(l.length-5)/2=J:=⟨_,rfl⟩
      have hodd:(N-5)%2=0:=by
        rw [zbp (by omega)] at e3;simpa using e3
      have hJN:N=2*J+5:=by omega
      have hres:dj l=bw l (J+1):=by rw [dj,if_pos hcc,hJ]
      rw [hres];clear e0 e1 e2 e3 hc w1 w2 w3 w4 w5 gn d0
      refine run_loop [(6,false),(0,false),(4,false),(5,false)] (fun vs pos los=>∃j:Nat,j≤J∧vs=[int .i64 (4+2*(j:Int)),.r (.sl 1 (n9 l)),.ptr 2000000 0 0,.own 2000001 0 0 (j+1)]∧pos=[]∧los=[.box [int .i64 (vd l j).1,int .i64 (vd l j).2],d6 (bw l (j+1))])
        (fun vs _ _=>match vs with | .r (.v (.int _ a))::_=>(N-a).toNat | _=>0) rfl ?_ ?_
      · simp only [d6,pnt,push_cast,↓reduceIte,reduceCtorEq,zB,zE,zA,zL,zD];exact ⟨0,by omega,rfl,rfl⟩
      · rintro vs pos los ⟨j,hj,rfl,rfl,rfl⟩;have w1:IntKind.i64.wrap (4+2*(j:Int)+1)=5+2*(j:Int):=by rw [a5 (by omega)]; omega
        have w2:IntKind.i64.wrap (4+2*(j:Int)+2)=4+2*((j+1:Nat):Int):=by rw [a5 (by omega)]; omega
        have n1:(4+2*(j:Int)).toNat=4+2*j:=by omega
        have n2:(5+2*(j:Int)).toNat=5+2*j:=by omega
        have hcl:(bw l (j+1)).length=j+1:=by simp [bw]
        simp only [hnl,hN,w1,d6,pnt,push_cast,↓reduceIte,reduceCtorEq,zE,zA];refine b6 (fun hd=>?_) (fun hd=>?_)
        · have hd:=of_decide_eq_true hd;simp only [hnl,hN,n1,z5,zaf,zaa,push_cast,↓reduceIte,reduceCtorEq,zE,zA,zL,zM]
          repeat refine And.intro (by omega) ?_
          refine b9 (a4i h (4+2*j)) rfl trivial ?_;simp only [hnl,hN,w1,n2,z5,zaf,zaj,zaa,push_cast,↓reduceIte,reduceCtorEq,zE,zA,zL,zD,zM]
          repeat refine And.intro (by first | omega | kernel_rfl) ?_
          refine b9 (a4i h (5+2*j)) rfl trivial ?_;simp only [zaj,zaa,push_cast,↓reduceIte,reduceCtorEq,zB,zE,zA,zL,zD,zM];refine And.intro (by omega) (And.intro (by kernel_rfl) (And.intro (by simp) (And.intro ⟨by omega,by omega⟩ ?_)));rw [w2];refine ⟨⟨j+1,by omega,rfl,?_⟩,by omega⟩;have htk:zah (j+1) ((bw l (j+1)).map ptR)=(bw l (j+1)).map ptR:=zal (by simp [hcl]);rw [htk,arv l (j+1),List.map_append]
          rfl
        · have hd:=of_decide_eq_false hd;have hjJ:j=J:=by omega
          subst hjJ;simp only [hcl,push_cast,↓reduceIte,reduceCtorEq,zE,zA,zL,zD]
set_option maxHeartbeats 1000000 in
theorem rring_t (l : List Int) (hl : l.length ≤ 1000000) (h : u64L l) {res : AV} {ro : List Ob}
    (hres:(ao l=false∧res=.tup [.nils 2 (pnt 0 0),bl false]∧ro=[])∨(ao l=true∧res=.tup [.own 1000000 0 0 (dj l).length,bl true]∧ro=[d6 (dj l)])) :
    a8 P0 16 [.r (.sl 1 (n9 l))] [] res ro:=by
  refine aii rfl (by decide) ?_;have hmx:=d7;have hnl:(n9 l).length=l.length:=by simp [n9]
  by_cases h9:l.length<9
  · have d0:decide (((l.length:Nat):Int)<9)=true:=decide_eq_true (by omega);have hc:ao l=false:=by simp [ao]; omega
    rcases hres with ⟨_,rfl,rfl⟩ | ⟨h,_⟩
    · push_cast [jz,hnl,d0,pnt,z5,zab]
    · rw [hc] at h; cases h
  · obtain ⟨N,hN,hN1,hN2⟩:∃N:Int,((l.length:Nat):Int)=N∧9≤N∧N≤1000000:=⟨_,rfl,by omega,by omega⟩
    have d0:decide (N<9)=false:=decide_eq_false (by omega);have gn:(N-1).toNat=l.length-1:=by omega
    have w1:IntKind.i64.wrap (N-1)=N-1:=a5 (by omega);have w3:IntKind.i64.wrap (N-5)=N-5:=a5 (by omega);obtain ⟨K,hK⟩:∃K:Int,(N-5)/2=K:=⟨_,rfl⟩
    have w4:(N-5).tdiv 2=K:=by rw [zbr (by omega),hK]
    have w5:IntKind.u64.wrap (IntKind.i64.wrap (IntKind.i64.wrap (8*IntKind.i64.wrap K)+2))=8*K+2:=by
      rw [a5 (x:=K) (by omega),a5 (x:=8*K) (by omega),a5 (x:=8*K+2) (by omega),IntKind.wrap_u64];omega
    have hc:ao l=(!(l.getD 0 0 != 9)&&(!(l.getD (l.length-1) 0 != 15)&&(!(l.getD 3 0 != 8*K+2) && !(N.tmod 2 == 0)))):=by
      unfold ao;have t1:decide (9≤l.length)=true:=decide_eq_true (by omega)
      have t2:(l.length%2 == 1)=!(N.tmod 2 == 0):=by
        rw [zbp (by omega),Bool.eq_iff_iff];simp;omega
      rw [hN,hK,t1,t2];simp only [bne];generalize (l.getD 0 0 == 9)=A;generalize (l.getD (l.length-1) 0 == 15)=B;generalize (l.getD 3 0 == 8*K+2)=C;generalize (N.tmod 2 == 0)=D;cases A<;>cases B<;>cases C<;>cases D<;>rfl
    cases hcc:ao l with
    | false=>
      rw [hcc] at hc hres;rcases hres with ⟨_,rfl,rfl⟩ | ⟨h,_⟩
      · cases e0:(l.getD 0 0 != 9)<;>cases e1:(l.getD (l.length-1) 0 != 15)<;>cases e2:(l.getD 3 0 != 8*K+2)<;>cases e3:(N.tmod 2 == 0) <;>
          first
          | (rw [e0,e1,e2,e3] at hc; cases hc; done)
          | (push_cast [jz,hnl,hN,d0,gn,z5,w1,w3,w4,w5,e0,e1,e2,e3,pnt,zaf,zaj,zaa,zab]
             first | done | omega | (refine ⟨by omega,?_⟩; simp; try omega))
      · cases h
    | true=>
      rw [hcc] at hc hres;have hc2:=hc.symm;simp only [Bool.and_eq_true,Bool.not_eq_true'] at hc2;obtain ⟨e0,e1,e2,e3⟩:=hc2;rcases hres with ⟨h,_⟩ | ⟨_,rfl,rfl⟩
      · cases h
      push_cast [jz,hnl,hN,d0,gn,z5,w1,w3,w4,w5,e0,e1,e2,e3,pnt,zaf,zaj,zaa,zab]
      repeat refine And.intro (by omega) ?_
      refine b9 (aze h 1) rfl trivial ?_
      push_cast [hnl,hN,z5,zaf,zaj,zaa,zab]
      repeat refine And.intro (by omega) ?_
      refine b9 (aze h 2) rfl trivial ?_
      push_cast [hnl,hN,z5,pnt,zaf,zaj,zaa,zab]
      refine And.intro (by simp) (And.intro (by kernel_rfl) ?_);obtain ⟨J,hJ⟩:∃J,(l.length-5)/2=J:=⟨_,rfl⟩
      have hodd:N%2=1:=by
        rw [zbp (by omega)] at e3;have:=beq_eq_false_iff_ne.1 e3;omega
      have hJN:N=2*J+5:=by omega
      have hres:dj l=bw l (J+1):=by rw [dj,if_pos hcc,hJ]
      rw [hres];clear e0 e1 e2 e3 hc w3 w4 w5 gn d0
      refine run_loop [(6,false),(0,false),(4,false),(5,false)] (fun vs pos los=>∃j:Nat,j≤J∧vs=[int .i64 (4+2*(j:Int)),.r (.sl 1 (n9 l)),int .i64 N,.own 2000000 0 0 (j+1)]∧pos=[]∧los=[d6 (bw l (j+1))])
        (fun vs _ _=>match vs with | .r (.v (.int _ a))::_=>(N-a).toNat | _=>0) rfl ?_ ?_
      · push_cast [d6,pnt]
        exact ⟨0,by omega,rfl,rfl⟩
      · rintro vs pos los ⟨j,hj,rfl,rfl,rfl⟩;have v1:IntKind.i64.wrap (4+2*(j:Int)+1)=5+2*(j:Int):=by rw [a5 (by omega)]; omega
        have v2:IntKind.i64.wrap (4+2*(j:Int)+2)=4+2*((j+1:Nat):Int):=by rw [a5 (by omega)]; omega
        have v3:IntKind.i64.wrap ((j:Int)+1-1)=(j:Int):=by rw [a5 (by omega)]; omega
        have n1:(4+2*(j:Int)).toNat=4+2*j:=by omega
        have n2:(5+2*(j:Int)).toNat=5+2*j:=by omega
        have hcl:(bw l (j+1)).length=j+1:=by simp [bw]
        have hg:∀z,((bw l (j+1)).map ptR).getD j z=.agg [.v (.int .i64 (vd l j).1),.v (.int .i64 (vd l j).2)]:=fun z=>by
          rw [zaw,zay,bw,zay,List.getElem?_range (by omega)]; rfl
        push_cast [hnl,hN,w1,v1,d6,pnt]
        refine b6 (fun hd=>?_) (fun hd=>?_)
        · have hd:=of_decide_eq_true hd
          push_cast [hnl,hN,v1,v3,n1,n2,hg,z5,d6,pnt,zaf,zaj,zaa,zac,zak,zaa]
          repeat refine And.intro (by first | omega | kernel_rfl) ?_
          refine b9 (aze h (4+2*j)) rfl trivial ?_
          push_cast [hnl,hN,v1,v3,n1,n2,hg,z5,d6,pnt,zaf,zaj,zaa,zac,zak,zaa]
          repeat refine And.intro (by first | omega | kernel_rfl) ?_
          refine b9 (aze h (5+2*j)) rfl trivial ?_
          push_cast [hnl,hN,v1,v3,n1,n2,hg,z5,d6,pnt,zaf,zaj,zaa,zac,zak,zaa]
          refine And.intro (by simp) (And.intro ⟨by omega,by omega⟩ (And.intro (by kernel_rfl) ?_));rw [v2];refine ⟨⟨j+1,by omega,rfl,?_⟩,by omega⟩;have htk:zah (j+1) ((bw l (j+1)).map ptR)=(bw l (j+1)).map ptR:=zal (by simp [hcl]);rw [htk,arv l (j+1),List.map_append]
          rfl
        · have hd:=of_decide_eq_false hd;have hjJ:j=J:=by omega
          subst hjJ
          push_cast [hnl,hN,hcl,d6,pnt]

def aiu:PC:=
  (.seq (.reg [p_a 3 (.box (.t 0)),p_s 6 (.mov (.c (.nils 1 (.v (.int .u8 0)))))])
 (.seq (.reg [p_m 11 2,p_s 12 (.mm true (.t 11) [(o_i 0)]),p_s 13 (.conv .u64 (.t 12)),p_m 7 13])
 (.seq (.reg [p_s 8 (.mov (.c (.nils 1 (.v (.int .u64 0)))))])
 (.seq (.seq (.reg [p_s 14 (.mov (.c (.r (.v (.int .u64 0)))))])
 (.block 0 (.loop (.seq (.reg [p_s 15 (.bin .lss (.t 14) (.c (.r (.v (.int .u64 4)))))])
 (.seq (.cond (.t 15)
 .skip
 (.exit 0))
 (.seq (.block 1 (.seq (.reg [p_m 16 14,p_m 9 16])
 (.reg [p_m 17 8,p_m 18 9,p_m 19 7,p_m 20 9,p_s 21 (.bin .add (.t 19) (.t 20)),p_a 22 (.bsl 1 (.v (.int .u64 0)) [(.t 18),(.t 21)]),p_a 23 (.app 1 (.v (.int .u64 0)) 8 (.t 17) (.t 22)),
 p_m 8 23])))
 (.reg [p_s 24 (.bin .add (.t 14) (.c (.r (.v (.int .u64 1))))),p_m 14 24])))))))
 (.seq (.reg [p_s 25 (.fa 0 (.t 3)),p_s 26 (.ld none (.t 25)),p_c 27 1 55 [(.c (.nils 1 (.v (.int .u8 0)))),(o_i 1),(.t 26)],p_m 10 27])
 (.seq (.reg [p_m 28 10,p_m 29 8,p_c 30 2 56 [(.t 28),(o_i 2),(.t 29)],p_m 10 30])
 (.seq (.reg [p_m 31 10,p_c 32 3 55 [(.t 31),(o_i 3),(.c (.r (.v (.int .u64 3))))],p_m 10 32])
 (.seq (.reg [p_m 33 10,p_m 34 1,p_c 35 4 10 [.t 34],p_c 36 5 56 [(.t 33),(o_i 4),(.t 35)],p_m 6 36])
 .ret))))))))
theorem anz:Fun P0 28 3 [(6,false,none)] aiu:=ad1 func28 rfl (by decide) (by kernel_rfl) (by decide) rfl (by kernel_rfl) (by kernel_rfl) (by decide)
def xh:Mk P0 f29:={ x:=_ }
theorem ae7:b8 29 3 xh:=b7 func29
def em (k:Int):List Int:=[0,k,1,k+1,2,k+2,3,k+3]
def lc (f:Int) (ns:List Int):List UInt8:=k8 f (ns.flatMap fun n=>m6 n.toNat)
def ci (w n:Int) (ring:List P2):List UInt8:=o6 1 w++lc 2 (em (max n 0))++o6 3 3++lc 4 (n6 ring)
theorem at0:∀(r:List P2) (p:P2),u64L (p9 p r)
 | [],p=>fun n hn=>by simp [p9] at hn
 | q::r,p=>fun n hn=>by
  rw [p9,zbd] at hn;rcases hn with hn | hn
  ·simp only [aiw,zbb,List.not_mem_nil,or_false] at hn;rcases hn with rfl | rfl
   ·exact ado _ (yf _)
   ·exact ado _ (yf _)
  ·exact at0 r q n hn
theorem apr (ring:List P2) (hl:ring.length≤100000) (h:i64P ring):u64L (n6 ring):=fun n hn=>by
 cases ring with
 | nil=>simp [n6] at hn
 | cons p r=>
  rw [n6] at hn;split at hn
  ·simp at hn
  ·simp only [zbd,zbb,List.not_mem_nil,or_false] at hn;simp only [zai] at hl;have hp:=h p (by simp);rcases hn with ((rfl | rfl | rfl | rfl) | hn) | rfl
   ·omega
   ·exact ado _ hp.1
   ·exact ado _ hp.2
   ·omega
   ·exact at0 _ _ _ hn
   ·omega
theorem ajc (ring:List P2):(n6 ring).length≤2*ring.length+3:=by
 cases ring with
 | nil=>simp [n6]
 | cons p r=>
  rw [n6];split
  ·simp
  ·have:=iq r p;simp [this];omega
theorem aj1 {ring:List P2} (h:ring.length<3):n6 ring=[]:=by
 cases ring with
 | nil=>rfl
 | cons p r=>rw [n6,if_pos (by rw [zai] at h; omega)]
theorem yu (f:Int) (ns:List Int):(lc f ns).length≤20+10*ns.length:=by
 have h1:=jb f (ns.flatMap fun n=>m6 n.toNat);have h2:=apc ns;unfold lc;omega
theorem ad2 (w n:Int) (ring:List P2):(ci w n ring).length≤300+20*ring.length:=by
 have h1:=ck 1 w;have h2:=yu 2 (em (max n 0));have h3:=ck 3 3;have h4:=yu 4 (n6 ring);have h5:=ajc ring;have h6:(em (max n 0)).length=8:=rfl;simp only [ci,zad];omega
theorem ase {k:Int} (h:0≤k∧k≤9223372036854775807):u64L (em k):=fun n hn=>by
 simp only [em,zbb,List.not_mem_nil,or_false] at hn;omega
def a4v (w a b c d:Int):AV:=.r (.agg [.v (.int .u64 w),.v (.int .i64 a),.v (.int .i64 b),.v (.int .i64 c),.v (.int .i64 d)])
def aet (k:Int) (i:Nat):List Int:=(List.range i).flatMap fun j:Nat=>[(j:Int),k+j]
theorem aoe (k:Int) (i:Nat):aet k (i+1)=aet k i++[(i:Int),k+i]:=by simp [aet,List.range_succ]
theorem az2 (k:Int):∀i,(aet k i).length=2*i
 | 0=>rfl
 | i+1=>by rw [aoe,zad,az2 k i]; simp; omega
theorem bhy (k:Int):aet k 4=em k:=by simp [aet,em,List.range_succ]
set_option maxHeartbeats 1000000 in
theorem tfeat_t (w a b c d n : Int) (ring : List P2) (hw : 0 ≤ w ∧ w < 18446744073709551616) (hn : in64 n) (hl : ring.length ≤ 100000) (h : i64P ring) :
    a8 P0 28 [a4v w a b c d,a9 ring,int .i64 n] [] (.own 1000000 0 0 (ci w n ring).length) [oi (ci w n ring)]:=by
  refine anz rfl (by decide) ?_;have hmx:=d7;have hn':-9223372036854775808≤n∧n≤9223372036854775807:=hn;obtain ⟨K,hK,hK1⟩:∃K,max n 0=K∧0≤K∧K≤9223372036854775807:=⟨_,rfl,by omega,by omega⟩
  have wK:IntKind.u64.wrap K=K:=by rw [IntKind.wrap_u64]; omega
  have l1:=ck 1 w;have l2:=yu 2 (em K);have l3:=ck 3 3;have l4:=yu 4 (n6 ring);have l5:=ajc ring;have l6:(em K).length=8:=rfl;have hT:=ase hK1;have hC:=apr ring hl h;have hF:ci w n ring=o6 1 w++lc 2 (em K)++o6 3 3++lc 4 (n6 ring):=by rw [ci,hK]
  obtain ⟨B1,hB1⟩:∃B,o6 1 w=B:=⟨_,rfl⟩
  obtain ⟨B2,hB2⟩:∃B,B1++lc 2 (em K)=B:=⟨_,rfl⟩
  obtain ⟨B3,hB3⟩:∃B,B2++o6 3 3=B:=⟨_,rfl⟩
  obtain ⟨B4,hB4⟩:∃B,B3++lc 4 (n6 ring)=B:=⟨_,rfl⟩
  have m2:=congrArg zbe hB2;have m3:=congrArg zbe hB3;rw [zad] at m2 m3;rw [hB1] at l1;have t1:=aut [] 1 w (by decide) hw.1 hw.2 (by simp);rw [List.nil_append,hB1] at t1;have t2:=pack_t B1 2 (em K) (by decide) hT (by rw [l6]; decide) (by omega);rw [show k8 2 ((em K).flatMap fun n=>m6 n.toNat)=lc 2 (em K) from rfl,hB2] at t2;have t3:=aut B2 3 3 (by decide) (by decide) (by decide) (by omega);rw [hB3] at t3;have t4:=pack_t B3 4 (n6 ring) (by decide) hC (by omega) (by omega);rw [show k8 4 ((n6 ring).flatMap fun n=>m6 n.toNat)=lc 4 (n6 ring) from rfl,hB4] at t4;rw [hF,hB1,hB2,hB3,hB4];clear hB1 hB2 hB3 hB4 hF
  push_cast [aiu,a4v,a9,hK,wK,zab]
  refine run_loop [(14, false), (7, false), (8, false), (1, false), (3, false)] (fun vs pos los => ∃ i : Nat, i ≤ 4 ∧ pos = [] ∧
      (i=0∧vs=[int .u64 i,int .u64 K,.nils 1 (.v (.int .u64 0)),a9 ring,.ptr 2000000 0 0]∧los=[.box [int .u64 w,int .i64 a,int .i64 b,int .i64 c,int .i64 d]] ∨
       0<i∧vs=[int .u64 i,int .u64 K,.own 2000000 0 0 (aet K i).length,a9 ring,.ptr 2000001 0 0]∧los=[amg (aet K i),.box [int .u64 w,int .i64 a,int .i64 b,int .i64 c,int .i64 d]]))
    (fun vs _ _=>match vs with | .r (.v (.int _ a))::_=>(4-a).toNat | _=>0) rfl ?_ ?_
  · push_cast [a9]
    exact ⟨0,by omega,by simp⟩
  · rintro vs pos los ⟨i,hi,rfl,⟨h0,rfl,rfl⟩ | ⟨h0,rfl,rfl⟩⟩
    · subst h0;have wk:IntKind.u64.wrap (K+0)=K:=by rw [IntKind.wrap_u64]; omega
      have w1:IntKind.u64.wrap (0+1)=1:=rfl;have d4:decide ((0:Int)<4)=true:=rfl
      push_cast [a9,wk,w1,d4,Int.natCast_zero]
      exact ⟨by simp,by omega,⟨1,by omega,.inr ⟨by omega,rfl,by simp [aet,n9,amg]⟩⟩,by decide⟩
    · have wk:IntKind.u64.wrap (K+i)=K+i:=by rw [IntKind.wrap_u64]; omega
      have w1:IntKind.u64.wrap ((i:Int)+1)=i+1:=by rw [IntKind.wrap_u64]; omega
      push_cast [a9,wk,w1]
      refine b6 (fun hd=>?_) (fun hd=>?_)
      · have hd:=of_decide_eq_true hd
        push_cast [a9,wk,w1]
        have htl:=az2 K i;have htk:zah (aet K i).length (n9 (aet K i))=n9 (aet K i):=zal (by simp [n9]);rw [htk];refine ⟨by simp,⟨by omega,by omega⟩,⟨i+1,by omega,.inr ⟨by omega,?_,?_⟩⟩,by omega⟩
        · rw [aoe]; simp
        · rw [aoe]; simp [n9,amg]
      · have hd:=of_decide_eq_false hd;obtain rfl:i=4:=by omega
        rw [bhy]
        push_cast [a9]
        refine b5 (as':=[sb [],int .i64 1,int .u64 w]) rfl ?_;refine a6 t1 rfl trivial ?_
        push_cast
        refine i9 ?_;refine b5 (as':=[sb B1,int .i64 2,.r (.sl 1 ((em K).map fun n=>.v (.int .u64 n)))]) rfl ?_;refine a6 t2 rfl trivial ?_
        push_cast
        refine i9 ?_;refine b5 (as':=[sb B2,int .i64 3,int .u64 3]) rfl ?_;refine a6 t3 rfl trivial ?_
        push_cast
        by_cases h3:ring.length<3
        · refine b5 (as':=[a9 ring]) rfl ?_;refine a6 (a6t ring h3) rfl trivial ?_
          push_cast
          rw [aj1 h3] at t4;refine i9 ?_;refine b5 (as':=[sb B3,int .i64 4,.r (.sl 1 [])]) rfl ?_;refine a6 t4 rfl trivial ?_
          push_cast
          done
        · refine b5 (as':=[a9 ring]) rfl ?_;refine a6 (bah ring hl h (by omega)) rfl trivial ?_;have htk:zah (n6 ring).length (n9 (n6 ring))=n9 (n6 ring):=zal (by simp [n9])
          push_cast [amg,htk]
          refine i9 ?_;refine b5 (as':=[sb B3,int .i64 4,.r (.sl 1 ((n6 ring).map fun n=>.v (.int .u64 n)))]) rfl ?_;refine a6 t4 rfl trivial ?_
          push_cast
          done
set_option maxHeartbeats 1000000 in
theorem bfj (w n:Int) (ring:List P2) (hw:0≤w∧w<18446744073709551616) (hn:in64 n) (hl:ring.length≤100000) (h:i64P ring) :
  a8 P0 29 [int .u64 w,a9 ring,int .i64 n] [] (z7 (l9 (ci w n ring))) []:=by
 refine ae7 rfl (by decide) ?_;have hmx:=d7;have hn':-9223372036854775808≤n∧n≤9223372036854775807:=hn;obtain ⟨K,hK,hK1⟩:∃K,max n 0=K∧0≤K∧K≤9223372036854775807:=⟨_,rfl,by omega,by omega⟩
 have wK:IntKind.u64.wrap K=K:=by rw [IntKind.wrap_u64]; omega
 have wK1:IntKind.u64.wrap (K+1)=K+1:=by rw [IntKind.wrap_u64]; omega
 have wK2:IntKind.u64.wrap (K+2)=K+2:=by rw [IntKind.wrap_u64]; omega
 have wK3:IntKind.u64.wrap (K+3)=K+3:=by rw [IntKind.wrap_u64]; omega
 have l1:=ck 1 w;have l2:=yu 2 (em K);have l3:=ck 3 3;have l4:=yu 4 (n6 ring);have l5:=ajc ring;have l6:(em K).length=8:=rfl;have hT:=ase hK1;have hC:=apr ring hl h;have hF:ci w n ring=o6 1 w++lc 2 (em K)++o6 3 3++lc 4 (n6 ring):=by rw [ci,hK]
 have tp:=rpack_t 2 (em K) (by decide) hT (by rw [l6]; decide);have cp:=rpack_t 4 (n6 ring) (by decide) hC (by omega);have tn:=aon 3 3 (by decide) (by decide) (by decide);rw [show k8 2 ((em K).flatMap fun n=>m6 n.toNat)=lc 2 (em K) from rfl] at tp;rw [show k8 4 ((n6 ring).flatMap fun n=>m6 n.toNat)=lc 4 (n6 ring) from rfl] at cp;rw [hF];generalize lc 2 (em K)=T2 at *;generalize lc 4 (n6 ring)=C4 at *
 push_cast [xh,a9,hK,wK,wK1,wK2,wK3,zab]
 refine a6 (aon 1 w (by decide) hw.1 hw.2) rfl trivial ?_
 push_cast [wK,wK1,wK2,wK3]
 refine And.intro (by simp) (i9 ?_);refine b5 (as':=[int .i64 2,.r (.sl 1 ((em K).map fun n=>.v (.int .u64 n)))]) rfl ?_;refine a6 tp rfl trivial ?_
 push_cast [j8,am,zad]
 refine And.intro (by omega) ?_;refine a6 tn rfl trivial ?_
 push_cast [j8,am,zad]
 refine And.intro (by omega) ?_;by_cases h3:ring.length<3
 ·refine b5 (as':=[a9 ring]) rfl ?_;refine a6 (a7h ring h3) rfl trivial ?_
  push_cast
  rw [aj1 h3] at cp;refine b5 (as':=[int .i64 4,.r (.sl 1 [])]) rfl ?_;refine a6 cp rfl trivial ?_
  push_cast [j8,am,zad]
  omega
 ·refine b5 (as':=[a9 ring]) rfl ?_;refine a6 (bay ring hl h (by omega)) rfl trivial ?_;have htk:zah (n6 ring).length (n9 (n6 ring))=n9 (n6 ring):=zal (by simp [n9])
  push_cast [amg,htk]
  refine i9 ?_;refine b5 (as':=[int .i64 4,.r (.sl 1 ((n6 ring).map fun n=>.v (.int .u64 n)))]) rfl ?_;refine a6 cp rfl trivial ?_
  push_cast [j8,am,zad]
  omega

end
end Go.Ev

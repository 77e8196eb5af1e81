import Derived.Sort.AssemblyPlain
import Derived.WalkKit
import Derived.Test.YtpibfnekkfhkmaaGreatChecked
import Derived.KernelRfl
import Derived.Test.YtpibfnekkfhkmaaGreatM9
open Nat renaming reduceBEq → zB, reduceEqDiff → zE, reduceAdd → zA, reduceSub → zS, reduceLT → zL, reduceLeDiff → zD, reduceMul → zM
open Go.Proofs.Tryz renaming prog → P0
open Go.Proofs.Tryz
open Nat renaming zero_add → zaa, le_refl → zah, zero_mul → zax, pow_le_pow_right → zbb, mul_le_mul_right → zbj
open Int renaming toNat_natCast → zab, toNat_natCast_add_one → zac, toNat → zap, toNat_zero → zar, reduceToNat → zas, tdiv_eq_ediv_of_nonneg → zav
open List renaming length_nil → zad, length_cons → zae, length_append → zai, take → zaj, length_map → zak, mem_map → zam, map → zan, drop → zao, take_of_length_le → zaq, take_length → zat, length_drop → zau, append_assoc → zaw, length → zay, mem_append → zaz, length_singleton → zbc, getElem?_of_mem → zbd, eq_nil_of_length_eq_zero → zbf, getD_eq_getElem?_getD → zbg, getElem?_append_left → zbh, drop_eq_getElem_cons → zbi, flatMap_append → zbk
open BitVec renaming ofInt → zaf, toNat_ofInt → zba
open UInt8 renaming ofNat → zal
open Option renaming map_map → zbe
namespace Go.Ev
set_option maxRecDepth 100000
noncomputable section
open Go
set_option linter.unusedSectionVars false
set_option linter.unnecessarySimpa false
open Go.Sort (swp insInner insOuter insertionSort ltInt)
set_option linter.unusedSimpArgs false
set_option linter.unusedVariables false
def aa0:Mk P0 f241:={ x:=_ }
theorem afm:d5 241 1 aa0:=c8 func241
def acr:Mk P0 f210:={ x:=_ }
theorem agy:d5 210 2 acr:=c8 func210
def ez:Mk P0 f208:={ x:=_ }
theorem nt:d5 208 3 ez:=c8 func208
def ag:Mk P0 f204:={ x:=_ }
theorem cn:d5 204 3 ag:=c8 func204
def bu (d:Array Int):List AV:=d.toList.map fun n=>AV.r (.v (.int .u64 n))
def bc (d:Array Int) (m:Nat):List AV:=bu d++List.replicate m .undef
def bO (d:Array Int) (m:Nat):Ob:=.box (bc d m)
theorem alf:∀(xs:List AV),(∀x∈xs,x9 x=[])→m5 xs=[]
 | [],_=>rfl
 | x::xs,h=>by rw [m5,h x (by simp),alf xs fun y hy=>h y (by simp [hy])]; rfl
theorem a9 (d:Array Int) (m:Nat):m5 (bc d m)=[]:=alf _ fun x hx=>by
 rcases zaz.1 hx with hx | hx
 ·obtain ⟨n,_,rfl⟩:=zam.1 hx
  rfl
 ·rw [(List.mem_replicate.1 hx).2]; rfl
theorem b5 (F:Ren) (d:Array Int) (m:Nat):imL F (bc d m)=bc d m:=rn F _ (a9 d m)
theorem al6 (d:Array Int):(bu d).length=d.size:=by simp [bu]
theorem b7 (d:Array Int) (m:Nat):(bc d m).length=d.size+m:=by simp [bc,al6]
theorem c9 {d:Array Int} {m i:Nat} (h:i<d.size) (z:AV):(bc d m).getD i z=.r (.v (.int .u64 d[i]!)):=by
 unfold bc;rw [zbg,zbh (by rw [al6]; exact h)];simp [bu,h]
theorem q8 {d:Array Int} {m i:Nat} (h:i<d.size) (x:Int):zaj i (bc d m)++[AV.r (.v (.int .u64 x))]++zao (i+1) (bc d m)=bc (d.setIfInBounds i x) m:=by
 unfold bc;have e:bu (d.setIfInBounds i x)=(bu d).set i (.r (.v (.int .u64 x))):=by simp [bu,List.map_set]
 rw [e,List.take_append_of_le_length (by rw [al6]; omega),List.drop_append_of_le_length (by rw [al6]; omega),List.set_eq_take_append_cons_drop,if_pos (by rw [al6]; exact h)];simp
theorem v5 (d:Array Int) (i j:Nat):(swp d i j).size=d.size:=by simp [swp]
theorem bis (x:Int):a8 P0 241 [int .u64 x] [] (bl false) []:=by
 refine afm rfl (by decide) ?_;have h:(x != x)=false:=by simp
 push_cast [aa0,h,zad]
theorem zu (x y:Int):a8 P0 210 [int .u64 x,int .u64 y] [] (bl (ltInt x y)) []:=by
 refine agy rfl (by decide) ?_
 push_cast [acr,zad]
 refine a5 (bis x) rfl trivial ?_
 push_cast
 rfl
theorem bi5 (d:Array Int) (a b:Nat) (hab:a≤b) (hb:b≤d.size) (hn:d.size≤100000) (m:Nat):a8 P0 204 [.own 1000000 0 0 d.size,int .i64 a,int .i64 b] [bO d m] (.tup []) [bO (insertionSort ltInt d a b) m]:=by
 refine cn rfl (by simp) ?_;have w0:IntKind.i64.wrap ((a:Int)+1)=(a:Int)+1:=a7 (by omega)
 push_cast [ag,bO,b7,a9,b5,w0,zae,zad]
 generalize hN:d.size=n at *
 refine run_loop [(6,false),(0,false),(1,false),(2,false)] (fun vs pos los=>∃(i:Nat) (e:Array Int),a+1≤i∧i≤100002∧e.size=n∧insertionSort ltInt d a b=insOuter ltInt a b i e∧vs=[int .i64 i,.own 1000000 0 0 n,int .i64 a,int .i64 b]∧pos=[bO e m]∧los=[])
  (fun vs _ _=>match vs with | .r (.v (.int _ j))::_=>(b-j).toNat | _=>0) rfl ?_ ?_
 ·push_cast [bO,b7,a9,b5]
  exact ⟨a+1,d,by omega,by omega,hN,rfl,rfl,rfl⟩
 ·rintro vs pos los ⟨i,e,hi,hi2,he,hE,rfl,rfl,rfl⟩
  push_cast [bO,b7,a9,b5]
  refine c7 (fun h=>?_) (fun h=>?_)
  ·have h':i<b:=by
    simp at h;omega
   have w1:IntKind.i64.wrap ((i:Int)+1)=(i:Int)+1:=a7 (by omega)
   push_cast
   refine run_loop [(6,false),(7,false),(0,false),(1,false),(2,false)] (fun vs pos los=>∃(j:Nat) (f:Array Int),j≤i∧f.size=n∧insInner ltInt a i e=insInner ltInt a j f∧vs=[int .i64 i,int .i64 j,.own 1000000 0 0 n,int .i64 a,int .i64 b]∧pos=[bO f m]∧los=[])
    (fun vs _ _=>match vs with | _ :: .r (.v (.int _ j))::_=>j.toNat | _=>0) rfl ?_ ?_
   ·push_cast [bO,b7,a9,b5]
    exact ⟨i,e,by omega,he,rfl,rfl,rfl⟩
   ·rintro vs pos los ⟨j,f,hj,hf,hF,rfl,rfl,rfl⟩;by_cases hja:j≤a
    ·have g0:decide ((j:Int)>a)=false:=by simp; omega
     push_cast [bO,b7,a9,b5,g0,w1]
     repeat refine And.intro (by first | decide | omega | exact fun _=>by decide | (simp +contextual; done) | kernel_rfl) ?_
     refine ⟨⟨i+1,f,by omega,by omega,hf,?_,(by first | rfl | exact ⟨rfl,rfl⟩ | exact ⟨rfl,rfl,rfl⟩)⟩,by omega⟩;rw [hE,insOuter,if_pos h',hF];congr 1;cases j with
     | zero=>rfl
     | succ k=>rw [insInner,if_neg (by simp; omega)]
    ·obtain ⟨k,rfl⟩:∃k,j=k+1:=⟨j-1,by omega⟩
     have g0:decide ((k:Int)+1>a)=true:=by simp; omega
     have wk:IntKind.i64.wrap ((k:Int)+1-1)=(k:Int):=by rw [a7 (by omega)]; omega
     have k1:k<f.size:=by omega
     have k2:k+1<f.size:=by omega
     push_cast [bO,b7,a9,b5,g0,wk,c9 (m:=m) k1,c9 (m:=m) k2,zab,zac,zaa]
     repeat refine And.intro (by first | decide | omega | exact fun _=>by decide | (simp +contextual; done) | kernel_rfl) ?_
     refine d9 (zu f[k+1]! f[k]!) rfl trivial ?_
     push_cast [bO,b7,a9,b5,g0,wk,c9 (m:=m) k1,c9 (m:=m) k2,zab,zac,zaa]
     refine ⟨by kernel_rfl,?_⟩;refine c7 (fun hc=>?_) (fun hc=>?_)
     ·have k3:k<(f.setIfInBounds (k+1) f[k]!).size:=by simpa using k1
      push_cast [bO,b7,a9,b5,g0,wk,c9 (m:=m) k1,c9 (m:=m) k2,c9 (m:=m) k3,q8 (m:=m) k2,q8 (m:=m) k3,zab,zac,zaa]
      repeat refine And.intro (by first | decide | omega | exact fun _=>by decide | (simp +contextual; done) | kernel_rfl) ?_
      refine ⟨⟨k,swp f (k+1) k,by omega,by rw [v5]; exact hf,?_,(by first | rfl | exact ⟨rfl,rfl⟩ | exact ⟨rfl,rfl,rfl⟩)⟩,by omega⟩;rw [hF,insInner,if_pos];simp [hc];omega
     ·push_cast [bO,b7,a9,b5,g0,wk,w1,c9 (m:=m) k1,c9 (m:=m) k2,zab,zac,zaa]
      refine ⟨⟨i+1,f,by omega,by omega,hf,?_,(by first | rfl | exact ⟨rfl,rfl⟩ | exact ⟨rfl,rfl,rfl⟩)⟩,by omega⟩;rw [hE,insOuter,if_pos h',hF,insInner,if_neg];simp [hc]
  ·have h':¬i<b:=by
    simp at h;omega
   push_cast [a9,b5]
   rw [hE,insOuter,if_neg h']

open Go.Sort (swp ltInt reverseLoop reverseRange siftDown heapSort heapBuild heapPop)
def iu:Mk P0 f236:={ x:=_ }
theorem re:d5 236 4 iu:=c8 func236
def iw:Mk P0 f205:={ x:=_ }
theorem ri:d5 205 3 iw:=c8 func205
theorem bii (d:Array Int) (a b:Nat) (hab:a≤b) (hb1:1≤b) (hb:b≤d.size) (hn:d.size≤100000) (m:Nat):a8 P0 208 [.own 1000000 0 0 d.size,int .i64 a,int .i64 b] [bO d m] (.tup []) [bO (reverseRange d a b) m]:=by
 refine nt rfl (by simp) ?_;have w0:IntKind.i64.wrap ((b:Int)-1)=((b-1:Nat):Int):=by rw [a7 (by omega)]; omega
 obtain ⟨b1,hb1'⟩:∃b1,b-1=b1:=⟨_,rfl⟩
 rw [hb1'] at w0
 push_cast [ez,bO,b7,a9,b5,w0,zae,zad]
 generalize hN:d.size=n at *
 refine run_loop [(6,false),(7,false),(0,false)] (fun vs pos los=>∃(i j:Nat) (e:Array Int),j<n∧i≤j+1∧e.size=n∧reverseRange d a b=reverseLoop i j e∧vs=[int .i64 i,int .i64 j,.own 1000000 0 0 n]∧pos=[bO e m]∧los=[])
  (fun vs _ _=>match vs with | .r (.v (.int _ i)) :: .r (.v (.int _ j))::_=>(j-i).toNat | _=>0) rfl ?_ ?_
 ·push_cast [bO,b7,a9,b5]
  exact ⟨a,b1,d,by omega,by omega,hN,by rw [reverseRange,hb1'],(by first | rfl | exact ⟨rfl,rfl⟩ | exact ⟨rfl,rfl,rfl⟩)⟩
 ·rintro vs pos los ⟨i,j,e,hj,hi,he,hE,rfl,rfl,rfl⟩
  push_cast [bO,b7,a9,b5]
  refine c7 (fun h=>?_) (fun h=>?_)
  ·have h':i<j:=by
    simp at h;omega
   obtain ⟨k,rfl⟩:∃k,j=k+1:=⟨j-1,by omega⟩
   have w1:IntKind.i64.wrap ((i:Int)+1)=(i:Int)+1:=a7 (by omega);have wk:IntKind.i64.wrap ((k:Int)+1-1)=(k:Int):=by rw [a7 (by omega)]; omega
   have k1:i<e.size:=by omega
   have k2:k+1<e.size:=by omega
   have k3:k+1<(e.setIfInBounds i e[k+1]!).size:=by simpa using k2
   push_cast [bO,b7,a9,b5,w1,wk,c9 (m:=m) k1,c9 (m:=m) k2,c9 (m:=m) k3,q8 (m:=m) k1,q8 (m:=m) k3,zab,zac,zaa]
   repeat refine And.intro (by first | decide | omega | exact fun _=>by decide | (simp +contextual; done) | kernel_rfl) ?_
   refine ⟨⟨i+1,k,swp e i (k+1),by omega,by omega,by rw [v5]; exact he,?_,(by first | rfl | exact ⟨rfl,rfl⟩ | exact ⟨rfl,rfl,rfl⟩)⟩,by omega⟩;rw [hE,reverseLoop,if_pos h']
   rfl
  ·have h':¬i<j:=by
    simp at h;omega
   push_cast [a9,b5,b7]
   rw [hE,reverseLoop,if_neg h']
theorem ph (hi first:Nat):∀(k root:Nat) (d:Array Int),hi-root≤k→(siftDown ltInt hi first root d).size=d.size:=by
 intro k
 induction k with
 | zero=>
  intro root d hk;rw [siftDown];rw [dif_pos (by omega)]
 | succ k ih=>
  intro root d hk;rw [siftDown];split
  ·rfl
  ·split
   ·split
    ·rfl
    ·split
     ·rw [ih _ _ (by omega),v5]
     ·rfl
   ·split
    ·rfl
    ·rw [ih _ _ (by omega),v5]
theorem a3t (d:Array Int) (lo hi first:Nat) (hb:first+hi≤d.size) (hl:lo≤100000) (hn:d.size≤100000) (m:Nat):a8 P0 236 [.own 1000000 0 0 d.size,int .i64 lo,int .i64 hi,int .i64 first] [bO d m] (.tup []) [bO (siftDown ltInt hi first lo d) m]:=by
 refine re rfl (by simp) ?_
 push_cast [iu,bO,b7,a9,b5,zae,zad]
 generalize hN:d.size=n at *
 refine run_loop [(8,false),(0,false),(2,false),(3,false)] (fun vs pos los=>∃(r:Nat) (e:Array Int),r≤100000∧e.size=n∧siftDown ltInt hi first lo d=siftDown ltInt hi first r e∧vs=[int .i64 r,.own 1000000 0 0 n,int .i64 hi,int .i64 first]∧pos=[bO e m]∧los=[])
  (fun vs _ _=>match vs with | .r (.v (.int _ i))::_=>(hi-i).toNat | _=>0) rfl ?_ ?_
 ·push_cast [bO,b7,a9,b5]
  exact ⟨lo,d,hl,hN,rfl,(by first | rfl | exact ⟨rfl,rfl⟩ | exact ⟨rfl,rfl,rfl⟩)⟩
 ·rintro vs pos los ⟨r,e,hr,he,hE,rfl,rfl,rfl⟩;obtain ⟨c,hc⟩:∃c,2*r+1=c:=⟨_,rfl⟩
  have w1:IntKind.i64.wrap (2*(r:Int))=2*(r:Int):=a7 (by omega);have w2:IntKind.i64.wrap (2*(r:Int)+1)=(c:Int):=by rw [a7 (by omega)]; omega
  push_cast [bO,b7,a9,b5,w1,w2]
  refine c7 (fun h=>?_) (fun h=>?_)
  ·have h':c≥hi:=by
    simp at h;omega
   push_cast [a9,b5,b7]
   rw [hE,siftDown,dif_pos (by omega)]
  ·have h':¬c≥hi:=by
    simp at h;omega
   have w3:IntKind.i64.wrap ((c:Int)+1)=(c:Int)+1:=a7 (by omega);obtain ⟨x,hx⟩:∃x,first+c=x:=⟨_,rfl⟩
   obtain ⟨y,hy⟩:∃y,first+r=y:=⟨_,rfl⟩
   have w4:IntKind.i64.wrap ((first:Int)+c)=(x:Int):=by rw [a7 (by omega)]; omega
   have w5:IntKind.i64.wrap ((first:Int)+r)=(y:Int):=by rw [a7 (by omega)]; omega
   have w6:IntKind.i64.wrap ((x:Int)+1)=(x:Int)+1:=a7 (by omega);have kx:x<e.size:=by omega
   have ky:y<e.size:=by omega
   have hdn:∀q,siftDown ltInt hi first r e=q↔(if c+1<hi&&ltInt e[x]! e[x+1]! then
     if !ltInt e[y]! e[x+1]! then e else siftDown ltInt hi first (c+1) (swp e y (x+1)) else
     if !ltInt e[y]! e[x]! then e else siftDown ltInt hi first c (swp e y x))=q:=fun q=>by
    rw [siftDown,dif_neg (by omega),hc,hx,hy,show 2*r+2=c+1 by omega,show first+(c+1)=x+1 by omega];by_cases hcc:(c+1<hi&&ltInt e[x]! e[x+1]!)=true
    ·have:c+1<hi:=by simp at hcc; exact hcc.1
     rw [if_pos hcc,if_pos hcc,dif_pos this]
    ·rw [if_neg hcc,if_neg hcc]
   by_cases hc1:c+1<hi
   ·have g1:decide ((c:Int)+1<hi)=true:=by simp; omega
    have kx1:x+1<e.size:=by omega
    push_cast [bO,b7,a9,b5,w1,w2,w3,w4,w5,w6,g1,c9 (m:=m) kx,c9 (m:=m) ky,c9 (m:=m) kx1,zab,zac,zaa]
    repeat refine And.intro (by first | decide | omega | exact fun _=>by decide | (simp +contextual; done) | kernel_rfl) ?_
    refine d9 (zu e[x]! e[x+1]!) rfl trivial ?_
    push_cast [bO,b7,a9,b5,w1,w2,w3,w4,w5,w6,g1,c9 (m:=m) kx,c9 (m:=m) ky,c9 (m:=m) kx1,zab,zac,zaa]
    repeat refine And.intro (by first | decide | omega | exact fun _=>by decide | (simp +contextual; done) | kernel_rfl) ?_
    refine c7 (fun hl=>?_) (fun hl=>?_)
    ·have w7:IntKind.i64.wrap ((first:Int)+(c+1))=(x:Int)+1:=by rw [a7 (by omega)]; omega
     push_cast [bO,b7,a9,b5,w1,w2,w3,w4,w5,w6,w7,g1,c9 (m:=m) kx,c9 (m:=m) ky,c9 (m:=m) kx1,zab,zac,zaa]
     repeat refine And.intro (by first | decide | omega | exact fun _=>by decide | (simp +contextual; done) | kernel_rfl) ?_
     refine d9 (zu e[y]! e[x+1]!) rfl trivial ?_
     push_cast [bO,b7,a9,b5,w1,w2,w3,w4,w5,w6,w7,g1,c9 (m:=m) kx,c9 (m:=m) ky,c9 (m:=m) kx1,zab,zac,zaa]
     repeat refine And.intro (by first | decide | omega | exact fun _=>by decide | (simp +contextual; done) | kernel_rfl) ?_
     refine c7 (fun hm=>?_) (fun hm=>?_)
     ·push_cast [bO,b7,a9,b5]
      rw [hE,(hdn _).2 rfl,if_pos (by simp [hc1,hl]),if_pos hm]
     ·have kx2:x+1<(e.setIfInBounds y e[x+1]!).size:=by simpa using kx1
      push_cast [bO,b7,a9,b5,w1,w2,w3,w4,w5,w6,w7,g1,c9 (m:=m) kx,c9 (m:=m) ky,c9 (m:=m) kx1,c9 (m:=m) kx2,q8 (m:=m) ky,q8 (m:=m) kx2,zab,zac,zaa]
      repeat refine And.intro (by first | decide | omega | exact fun _=>by decide | (simp +contextual; done) | kernel_rfl) ?_
      refine ⟨⟨c+1,swp e y (x+1),by omega,by rw [v5]; exact he,?_,(by first | rfl | exact ⟨rfl,rfl⟩ | exact ⟨rfl,rfl,rfl⟩)⟩,by omega⟩;rw [hE,(hdn _).2 rfl,if_pos (by simp [hc1,hl]),if_neg (by simp [hm])]
    ·push_cast [bO,b7,a9,b5,w1,w2,w3,w4,w5,w6,g1,c9 (m:=m) kx,c9 (m:=m) ky,c9 (m:=m) kx1,zab,zac,zaa]
     repeat refine And.intro (by first | decide | omega | exact fun _=>by decide | (simp +contextual; done) | kernel_rfl) ?_
     refine d9 (zu e[y]! e[x]!) rfl trivial ?_
     push_cast [bO,b7,a9,b5,w1,w2,w3,w4,w5,w6,g1,c9 (m:=m) kx,c9 (m:=m) ky,zab,zac,zaa]
     repeat refine And.intro (by first | decide | omega | exact fun _=>by decide | (simp +contextual; done) | kernel_rfl) ?_
     refine c7 (fun hm=>?_) (fun hm=>?_)
     ·push_cast [bO,b7,a9,b5]
      rw [hE,(hdn _).2 rfl,if_neg (by simp [hl]),if_pos hm]
     ·have kx2:x<(e.setIfInBounds y e[x]!).size:=by simpa using kx
      push_cast [bO,b7,a9,b5,w1,w2,w3,w4,w5,w6,g1,c9 (m:=m) kx,c9 (m:=m) ky,c9 (m:=m) kx2,q8 (m:=m) ky,q8 (m:=m) kx2,zab,zac,zaa]
      repeat refine And.intro (by first | decide | omega | exact fun _=>by decide | (simp +contextual; done) | kernel_rfl) ?_
      refine ⟨⟨c,swp e y x,by omega,by rw [v5]; exact he,?_,(by first | rfl | exact ⟨rfl,rfl⟩ | exact ⟨rfl,rfl,rfl⟩)⟩,by omega⟩;rw [hE,(hdn _).2 rfl,if_neg (by simp [hl]),if_neg (by simp [hm])]
   ·have g1:decide ((c:Int)+1<hi)=false:=by simp; omega
    push_cast [bO,b7,a9,b5,w1,w2,w3,w4,w5,w6,g1,c9 (m:=m) kx,c9 (m:=m) ky,zab,zac,zaa]
    repeat refine And.intro (by first | decide | omega | exact fun _=>by decide | (simp +contextual; done) | kernel_rfl) ?_
    refine d9 (zu e[y]! e[x]!) rfl trivial ?_
    push_cast [bO,b7,a9,b5,w1,w2,w3,w4,w5,w6,g1,c9 (m:=m) kx,c9 (m:=m) ky,zab,zac,zaa]
    repeat refine And.intro (by first | decide | omega | exact fun _=>by decide | (simp +contextual; done) | kernel_rfl) ?_
    refine c7 (fun hm=>?_) (fun hm=>?_)
    ·push_cast [bO,b7,a9,b5]
     rw [hE,(hdn _).2 rfl,if_neg (by simp [hc1]),if_pos hm]
    ·have kx2:x<(e.setIfInBounds y e[x]!).size:=by simpa using kx
     push_cast [bO,b7,a9,b5,w1,w2,w3,w4,w5,w6,g1,c9 (m:=m) kx,c9 (m:=m) ky,c9 (m:=m) kx2,q8 (m:=m) ky,q8 (m:=m) kx2,zab,zac,zaa]
     repeat refine And.intro (by first | decide | omega | exact fun _=>by decide | (simp +contextual; done) | kernel_rfl) ?_
     refine ⟨⟨c,swp e y x,by omega,by rw [v5]; exact he,?_,(by first | rfl | exact ⟨rfl,rfl⟩ | exact ⟨rfl,rfl,rfl⟩)⟩,by omega⟩;rw [hE,(hdn _).2 rfl,if_neg (by simp [hc1]),if_neg (by simp [hm])]
theorem ahx (hi first:Nat):∀(k:Nat) (d:Array Int),(heapBuild ltInt hi first k d).size=d.size
 | 0,d=>rfl
 | k+1,d=>by rw [heapBuild,ahx hi first k,ph hi first (hi-k) k d (zah _)]
theorem bgs (d:Array Int) (a b:Nat) (hab:a<b) (hb:b≤d.size) (hn:d.size≤100000) (m:Nat):a8 P0 205 [.own 1000000 0 0 d.size,int .i64 a,int .i64 b] [bO d m] (.tup []) [bO (heapSort ltInt d a b) m]:=by
 refine ri rfl (by simp) ?_;obtain ⟨hi,hhi⟩:∃hi,b-a=hi:=⟨_,rfl⟩
 have w0:IntKind.i64.wrap ((b:Int)-a)=(hi:Int):=by rw [a7 (by omega)]; omega
 obtain ⟨k0,hk0⟩:∃k,(hi-1)/2=k:=⟨_,rfl⟩
 have w1:IntKind.i64.wrap ((hi:Int)-1)=((hi-1:Nat):Int):=by rw [a7 (by omega)]; omega
 obtain ⟨h1,hh1⟩:∃h1,hi-1=h1:=⟨_,rfl⟩
 rw [hh1] at w1;have w2:(h1:Int).tdiv 2=(k0:Int):=by rw [zav (by omega)]; omega
 have w2':IntKind.i64.wrap (k0:Int)=(k0:Int):=a7 (by omega);generalize hN:d.size=n at *
 push_cast [iw,bO,b7,a9,b5,w0,w1,w2,w2',zae,zad]
 repeat refine And.intro (by first | decide | omega | exact fun _=>by decide | (simp +contextual; done) | kernel_rfl) ?_
 have hE0:heapSort ltInt d a b=heapPop ltInt a hi (heapBuild ltInt hi a (k0+1) d):=by rw [heapSort,hhi,hk0]
 have hs0:(heapBuild ltInt hi a (k0+1) d).size=n:=by rw [ahx]; exact hN
 generalize hH:heapBuild ltInt hi a (k0+1) d=H at *
 refine run_loop [(9,false),(0,false),(6,false),(7,false),(8,false)] (fun vs pos los=>∃(k:Nat) (e:Array Int),k≤k0+1∧e.size=n∧H=heapBuild ltInt hi a k e∧vs=[int .i64 ((k:Int)-1),.own 1000000 0 0 n,int .i64 a,int .i64 0,int .i64 hi]∧pos=[bO e m]∧los=[])
  (fun vs _ _=>match vs with | .r (.v (.int _ i))::_=>(i+1).toNat | _=>0) rfl ?_ ?_
 ·push_cast [bO,b7,a9,b5]
  refine ⟨k0+1,d,by omega,hN,hH.symm,?_⟩;have:((k0+1:Nat):Int)-1=k0:=by omega
  rw [this]
  first | rfl | exact ⟨rfl,rfl⟩ | exact ⟨rfl,rfl,rfl⟩
 ·rintro vs pos los ⟨k,e,hk,he,hE,rfl,rfl,rfl⟩
  push_cast [bO,b7,a9,b5]
  refine c7 (fun h=>?_) (fun h=>?_)
  ·obtain ⟨q,rfl⟩:∃q,k=q+1:=⟨k-1,by simp at h; omega⟩
   have wq:((q:Int)+1-1)=(q:Int):=by omega
   have wq1:IntKind.i64.wrap ((q:Int)-1)=(q:Int)-1:=a7 (by omega)
   push_cast [bO,b7,a9,b5,wq]
   have hS:=a3t e q hi a (by omega) (by omega) (by omega) m;rw [he] at hS;refine a5 hS rfl ⟨by simp [b7,v5,ph _ _ _ _ _ (zah _)],trivial⟩ ?_
   push_cast [bO,b7,a9,b5,wq,wq1]
   refine ⟨⟨q,siftDown ltInt hi a q e,by omega,by rw [ph _ _ _ _ _ (zah _)]; exact he,hE,(by first | rfl | exact ⟨rfl,rfl⟩ | exact ⟨rfl,rfl,rfl⟩)⟩,by omega⟩
  ·obtain rfl:k=0:=by simp at h; omega
   have hHe:H=e:=hE;subst hHe
   push_cast [bO,b7,a9,b5,w0,w1]
   refine run_loop [(10,false),(0,false),(6,false),(7,false)] (fun vs pos los=>∃(k:Nat) (e:Array Int),k≤hi∧e.size=n∧heapPop ltInt a hi H=heapPop ltInt a k e∧vs=[int .i64 ((k:Int)-1),.own 1000000 0 0 n,int .i64 a,int .i64 0]∧pos=[bO e m]∧los=[])
    (fun vs _ _=>match vs with | .r (.v (.int _ i))::_=>(i+1).toNat | _=>0) rfl ?_ ?_
   ·push_cast [bO,b7,a9,b5]
    refine ⟨hi,H,by omega,hs0,rfl,?_⟩;have:((hi:Nat):Int)-1=h1:=by omega
    rw [this]
    first | rfl | exact ⟨rfl,rfl⟩ | exact ⟨rfl,rfl,rfl⟩
   ·rintro vs pos los ⟨k,e,hk,he,hE,rfl,rfl,rfl⟩
    push_cast [bO,b7,a9,b5]
    refine c7 (fun h=>?_) (fun h=>?_)
    ·obtain ⟨q,rfl⟩:∃q,k=q+1:=⟨k-1,by simp at h; omega⟩
     have wq:((q:Int)+1-1)=(q:Int):=by omega
     have wq1:IntKind.i64.wrap ((q:Int)-1)=(q:Int)-1:=a7 (by omega);obtain ⟨x,hx⟩:∃x,a+q=x:=⟨_,rfl⟩
     have wx:IntKind.i64.wrap ((a:Int)+q)=(x:Int):=by rw [a7 (by omega)]; omega
     have ka:a<e.size:=by omega
     have kx:x<e.size:=by omega
     have kx2:x<(e.setIfInBounds a e[x]!).size:=by simpa using kx
     push_cast [bO,b7,a9,b5,wq,wx,c9 (m:=m) ka,c9 (m:=m) kx,c9 (m:=m) kx2,q8 (m:=m) ka,q8 (m:=m) kx2,zab,zac,zaa]
     repeat refine And.intro (by first | decide | omega | exact fun _=>by decide | (simp +contextual; done) | kernel_rfl) ?_
     have hS:=a3t (swp e a x) 0 q a (by rw [v5]; omega) (by omega) (by rw [v5]; omega) m;rw [v5,he] at hS;refine a5 hS rfl ⟨by simp [b7,v5,ph _ _ _ _ _ (zah _)],trivial⟩ ?_
     push_cast [bO,b7,a9,b5,wq,wq1]
     refine ⟨⟨q,siftDown ltInt q a 0 (swp e a x),by omega,by rw [ph _ _ _ _ _ (zah _),v5]; exact he,?_,(by first | rfl | exact ⟨rfl,rfl⟩ | exact ⟨rfl,rfl,rfl⟩)⟩,by omega⟩;rw [hE,heapPop,hx]
    ·obtain rfl:k=0:=by simp at h; omega
     push_cast [bO,b7,a9,b5]
     rw [hE0,hE]
     rfl

open Go.Sort (swp ltInt order2 median medianAdjacent choosePivot Hint)
def ju:Mk P0 f248:={ x:=_ }
theorem vh:d5 248 4 ju:=c8 func248
def jv:Mk P0 f240:={ x:=_ }
theorem vi:d5 240 5 jv:=c8 func240
def ef:Mk P0 f239:={ x:=_ }
theorem mq:d5 239 3 ef:=c8 func239
def fj:Mk P0 f207:={ x:=_ }
theorem pf:d5 207 3 fj:=c8 func207
theorem aoy (d:Array Int) (a b sw:Nat) (ha:a<d.size) (hb:b<d.size) (hn:d.size≤100000) (hs:sw≤1000) (m:Nat) :
  a8 P0 248 [.own 1000000 0 0 d.size,int .i64 a,int .i64 b,.ptr 1000001 0 0] [bO d m,.box [int .i64 sw]]
   (.tup [int .i64 (order2 ltInt d a b sw).1,int .i64 (order2 ltInt d a b sw).2.1]) [bO d m,.box [int .i64 (order2 ltInt d a b sw).2.2]]:=by
 refine vh rfl (by simp) ?_;have w1:IntKind.i64.wrap ((sw:Int)+1)=(sw:Int)+1:=a7 (by omega)
 push_cast [ju,bO,b7,a9,b5,w1,c9 (m:=m) ha,c9 (m:=m) hb,zae,zad,zab,zac,zaa]
 repeat refine And.intro (by first | decide | omega | exact fun _=>by decide | (simp +contextual; done) | kernel_rfl) ?_
 refine d9 (zu d[b]! d[a]!) rfl trivial ?_
 push_cast [bO,b7,a9,b5,w1,c9 (m:=m) ha,c9 (m:=m) hb,zab,zac,zaa]
 repeat refine And.intro (by first | decide | omega | exact fun _=>by decide | (simp +contextual; done) | kernel_rfl) ?_
 refine c7 (fun h=>?_) (fun h=>?_)
 ·push_cast [bO,b7,a9,b5,order2,h,w1,if_true]
 ·push_cast [bO,b7,a9,b5,order2,h,w1,Bool.false_eq_true,if_false]
theorem yl {d:Array Int} {a b sw:Nat}:(order2 ltInt d a b sw).2.2≤sw+1∧((order2 ltInt d a b sw).1=a∧(order2 ltInt d a b sw).2.1=b∨(order2 ltInt d a b sw).1=b∧(order2 ltInt d a b sw).2.1=a):=by
 unfold order2;split<;>simp
theorem ao4 (d:Array Int) (a b c sw:Nat) (ha:a<d.size) (hb:b<d.size) (hc:c<d.size) (hn:d.size≤100000) (hs:sw≤100) (m:Nat) :
  a8 P0 240 [.own 1000000 0 0 d.size,int .i64 a,int .i64 b,int .i64 c,.ptr 1000001 0 0] [bO d m,.box [int .i64 sw]]
   (int .i64 (median ltInt d a b c sw).1) [bO d m,.box [int .i64 (median ltInt d a b c sw).2]]:=by
 refine vi rfl (by simp) ?_;have h1:=yl (d:=d) (a:=a) (b:=b) (sw:=sw);have t1:=aoy d a b sw ha hb hn (by omega) m;unfold median;generalize order2 ltInt d a b sw=r1 at *;obtain ⟨x1,y1,s1⟩:=r1;simp only at h1 t1 ⊢;have h2:=yl (d:=d) (a:=y1) (b:=c) (sw:=s1);have t2:=aoy d y1 c s1 (by rcases h1.2 with h | h<;>omega) hc hn (by omega) m;generalize order2 ltInt d y1 c s1=r2 at *;obtain ⟨x2,y2,s2⟩:=r2;simp only at h2 t2 ⊢;have h3:=yl (d:=d) (a:=x1) (b:=x2) (sw:=s2);have t3:=aoy d x1 x2 s2 (by rcases h1.2 with h | h<;>omega) (by rcases h1.2 with h | h<;>rcases h2.2 with h' | h'<;>omega) hn (by omega) m;generalize order2 ltInt d x1 x2 s2=r3 at *;obtain ⟨x3,y3,s3⟩:=r3;simp only at h3 t3 ⊢
 have sl:∀k k':Nat,y9 [bO d m,.box [int .i64 k]] [bO d m,.box [int .i64 k']]:=fun k k'=>⟨rfl,rfl,trivial⟩
 push_cast [jv,bO,b7,a9,b5,zae,zad]
 refine a5 t1 rfl (sl _ _) ?_
 push_cast [bO,b7,a9,b5]
 refine a5 t2 rfl (sl _ _) ?_
 push_cast [bO,b7,a9,b5]
 refine a5 t3 rfl (sl _ _) ?_
 push_cast [bO,b7,a9,b5]
theorem a5c {d:Array Int} {a b c sw:Nat}:(median ltInt d a b c sw).2≤sw+3∧((median ltInt d a b c sw).1=a∨(median ltInt d a b c sw).1=b∨(median ltInt d a b c sw).1=c):=by
 have h1:=yl (d:=d) (a:=a) (b:=b) (sw:=sw);unfold median;generalize order2 ltInt d a b sw=r1 at *;obtain ⟨x1,y1,s1⟩:=r1;simp only at h1 ⊢;have h2:=yl (d:=d) (a:=y1) (b:=c) (sw:=s1);generalize order2 ltInt d y1 c s1=r2 at *;obtain ⟨x2,y2,s2⟩:=r2;simp only at h2 ⊢;have h3:=yl (d:=d) (a:=x1) (b:=x2) (sw:=s2);generalize order2 ltInt d x1 x2 s2=r3 at *;obtain ⟨x3,y3,s3⟩:=r3;simp only at h3 ⊢;omega
theorem ao5 (d:Array Int) (a sw:Nat) (ha1:1≤a) (ha:a+1<d.size) (hn:d.size≤100000) (hs:sw≤100) (m:Nat) :
  a8 P0 239 [.own 1000000 0 0 d.size,int .i64 a,.ptr 1000001 0 0] [bO d m,.box [int .i64 sw]]
   (int .i64 (medianAdjacent ltInt d a sw).1) [bO d m,.box [int .i64 (medianAdjacent ltInt d a sw).2]]:=by
 refine mq rfl (by simp) ?_;obtain ⟨q,rfl⟩:∃q,a=q+1:=⟨a-1,by omega⟩
 have w1:IntKind.i64.wrap ((q:Int)+1-1)=(q:Int):=by rw [a7 (by omega)]; omega
 have w2:IntKind.i64.wrap ((q:Int)+1+1)=(q:Int)+1+1:=a7 (by omega);have t:=ao4 d q (q+1) (q+1+1) sw (by omega) (by omega) (by omega) hn hs m;have sl:∀k k':Nat,y9 [bO d m,.box [int .i64 k]] [bO d m,.box [int .i64 k']]:=fun k k'=>⟨rfl,rfl,trivial⟩
 push_cast [ef,medianAdjacent,Nat.add_sub_cancel,bO,b7,a9,b5,w1,w2,zae,zad]
 refine b9 (as':=[.own 1000000 0 0 d.size,int .i64 q,int .i64 (q+1:Nat),int .i64 (q+1+1:Nat),.ptr 1000001 0 0]) rfl ?_;refine a5 t rfl (sl _ _) ?_
 push_cast [bO,b7,a9,b5]

open Go.Sort (swp ltInt order2 median medianAdjacent choosePivot Hint)
def amn:Hint→Int
 | .unknown=>0
 | .increasing=>1
 | .decreasing=>2
theorem ak4 {d:Array Int} {a sw:Nat}:(medianAdjacent ltInt d a sw).2≤sw+3∧((medianAdjacent ltInt d a sw).1=a-1∨(medianAdjacent ltInt d a sw).1=a∨(medianAdjacent ltInt d a sw).1=a+1):=by
 unfold medianAdjacent;exact a5c
set_option maxHeartbeats 2000000 in
theorem bco (d:Array Int) (a b:Nat) (hl:12<b-a) (hb:b≤d.size) (hn:d.size≤100000) (m:Nat) :
  a8 P0 207 [.own 1000000 0 0 d.size,int .i64 a,int .i64 b] [bO d m]
   (.tup [int .i64 (choosePivot ltInt d a b).1,int .i64 (amn (choosePivot ltInt d a b).2)]) [bO d m]:=by
 refine pf rfl (by simp) ?_;have sl:∀k k':Nat,y9 [bO d m,.box [int .i64 k]] [bO d m,.box [int .i64 k']]:=fun k k'=>⟨rfl,rfl,trivial⟩
 unfold choosePivot;obtain ⟨l,hl'⟩:∃l,b-a=l:=⟨_,rfl⟩
 obtain ⟨q,hq⟩:∃q,l/4=q:=⟨_,rfl⟩
 obtain ⟨i,hi⟩:∃i,a+q*1=i:=⟨_,rfl⟩
 obtain ⟨j,hj⟩:∃j,a+q*2=j:=⟨_,rfl⟩
 obtain ⟨k,hk⟩:∃k,a+q*3=k:=⟨_,rfl⟩
 have w0:IntKind.i64.wrap ((b:Int)-a)=(l:Int):=by rw [a7 (by omega)]; omega
 have w1:(l:Int).tdiv 4=(q:Int):=by rw [zav (by omega)]; omega
 have w1':IntKind.i64.wrap (q:Int)=(q:Int):=a7 (by omega);have w2:IntKind.i64.wrap ((q:Int)*1)=(q:Int)*1:=a7 (by omega);have w3:IntKind.i64.wrap ((q:Int)*2)=(q:Int)*2:=a7 (by omega);have w4:IntKind.i64.wrap ((q:Int)*3)=(q:Int)*3:=a7 (by omega);have w5:IntKind.i64.wrap ((a:Int)+(q:Int)*1)=(i:Int):=by rw [a7 (by omega)]; omega
 have w6:IntKind.i64.wrap ((a:Int)+(q:Int)*2)=(j:Int):=by rw [a7 (by omega)]; omega
 have w7:IntKind.i64.wrap ((a:Int)+(q:Int)*3)=(k:Int):=by rw [a7 (by omega)]; omega
 have c1:decide ((l:Int)≥8)=true:=by simp; omega
 simp only [hl',hq,hi,hj,hk];rw [if_pos (show l≥8 by omega)]
 have fin:∀(p s:Nat),int .i64 (amn (if s=0 then Hint.increasing else if s=12 then Hint.decreasing else Hint.unknown))=int .i64 (if s=0 then 1 else if s=12 then 2 else 0):=fun p s=>by
  split
  ·rfl
  ·split<;>rfl
 push_cast [fj,bO,b7,a9,b5,w0,w1,w1',w2,w3,w4,w5,w6,w7,c1,zae,zad]
 repeat refine And.intro (by first | decide | omega | exact fun _=>by decide | (simp +contextual; done) | kernel_rfl) ?_
 by_cases h50:l≥50
 ·have c2:decide ((l:Int)≥50)=true:=by simp; omega
  rw [if_pos h50]
  push_cast [c2,a9,b5]
  have t1:=ao5 d i 0 (by omega) (by omega) hn (by omega) m;have b1:=ak4 (d:=d) (a:=i) (sw:=0);generalize medianAdjacent ltInt d i 0=r1 at *;obtain ⟨p1,s1⟩:=r1;simp only at t1 b1 ⊢
  have lt1:p1<d.size:=by
   have e1:i+1<d.size:=by omega
   obtain ⟨_,h | h | h⟩:=b1<;>rw [h]<;>omega
  have le1:s1≤0+3:=b1.1;clear b1;refine a5 t1 rfl (sl 0 _) ?_
  push_cast [bO,b7,a9,b5]
  have t2:=ao5 d j s1 (by omega) (by omega) hn (by omega) m;have b2:=ak4 (d:=d) (a:=j) (sw:=s1);generalize medianAdjacent ltInt d j s1=r2 at *;obtain ⟨p2,s2⟩:=r2;simp only at t2 b2 ⊢
  have lt2:p2<d.size:=by
   have e1:j+1<d.size:=by omega
   obtain ⟨_,h | h | h⟩:=b2<;>rw [h]<;>omega
  have le2:s2≤s1+3:=b2.1;clear b2;refine a5 t2 rfl (sl _ _) ?_
  push_cast [bO,b7,a9,b5]
  have t3:=ao5 d k s2 (by omega) (by omega) hn (by omega) m;have b3:=ak4 (d:=d) (a:=k) (sw:=s2);generalize medianAdjacent ltInt d k s2=r3 at *;obtain ⟨p3,s3⟩:=r3;simp only at t3 b3 ⊢
  have lt3:p3<d.size:=by
   have e1:k+1<d.size:=by omega
   obtain ⟨_,h | h | h⟩:=b3<;>rw [h]<;>omega
  have le3:s3≤s2+3:=b3.1;clear b3;refine a5 t3 rfl (sl _ _) ?_
  push_cast [bO,b7,a9,b5]
  have t4:=ao4 d p1 p2 p3 s3 lt1 lt2 lt3 hn (by omega) m;generalize median ltInt d p1 p2 p3 s3=r4 at *;obtain ⟨p4,s4⟩:=r4;simp only at t4 ⊢;refine a5 t4 rfl (sl _ _) ?_
  push_cast [bO,b7,a9,b5]
  rw [fin p4 s4];by_cases e0:s4=0
  ·have g0:((s4:Int) == 0)=true:=by simp [e0]
   push_cast [g0,if_pos e0,a9,b5]
  ·have g0:((s4:Int) == 0)=false:=by simp; omega
   rw [if_neg e0];by_cases e1:s4=12
   ·have g1:((s4:Int) == 12)=true:=by simp [e1]
    push_cast [g0,g1,if_pos e1,a9,b5]
   ·have g1:((s4:Int) == 12)=false:=by simp; omega
    push_cast [g0,g1,if_neg e1,a9,b5]
 ·have c2:decide ((l:Int)≥50)=false:=by simp; omega
  rw [if_neg h50]
  push_cast [c2,a9,b5]
  have t4:=ao4 d i j k 0 (by omega) (by omega) (by omega) hn (by omega) m;generalize median ltInt d i j k 0=r4 at *;obtain ⟨p4,s4⟩:=r4;simp only at t4 ⊢;refine a5 t4 rfl (sl 0 _) ?_
  push_cast [bO,b7,a9,b5]
  rw [fin p4 s4];by_cases e0:s4=0
  ·have g0:((s4:Int) == 0)=true:=by simp [e0]
   push_cast [g0,if_pos e0,a9,b5]
  ·have g0:((s4:Int) == 0)=false:=by simp; omega
   rw [if_neg e0];by_cases e1:s4=12
   ·have g1:((s4:Int) == 12)=true:=by simp [e1]
    push_cast [g0,g1,if_pos e1,a9,b5]
   ·have g1:((s4:Int) == 12)=false:=by simp; omega
    push_cast [g0,g1,if_neg e1,a9,b5]

open Go.Sort (swp ltInt scanUp scanDown partEqLoop partitionEqual partLoop partition)
def ec:Mk P0 f211:={ x:=_ }
theorem mo:d5 211 4 ec:=c8 func211
def io:Mk P0 f212:={ x:=_ }
theorem qw:d5 212 4 io:=c8 func212
theorem akv {a i j i2 j2:Nat} {e:Array Int} (hU:scanUp (fun x=>!ltInt e[a]! x) e j i=i2) (hW:scanDown (fun x=>ltInt e[a]! x) e i2 j=j2) (h1:i≤i2) (h2:j2≤j) (h3:1≤i) :
  partEqLoop ltInt a i j e=if i2>j2 then (i2,e) else partEqLoop ltInt a (i2+1) (j2-1) (swp e i2 j2):=by
 rw [partEqLoop];simp only [hU,hW];split
 ·rfl
 ·rw [dif_pos (by omega)]
set_option maxHeartbeats 1000000 in
theorem a8d (d:Array Int) (a b pv:Nat) (hab:a<b) (hb:b≤d.size) (hp:pv<d.size) (hn:d.size≤100000) (m:Nat) :
  a8 P0 211 [.own 1000000 0 0 d.size,int .i64 a,int .i64 b,int .i64 pv] [bO d m] (int .i64 (partitionEqual ltInt d a b pv).1) [bO (partitionEqual ltInt d a b pv).2 m]:=by
 refine mo rfl (by simp) ?_;have ha:a<d.size:=by omega
 have hp2:pv<(d.setIfInBounds a d[pv]!).size:=by simpa using hp
 have w1:IntKind.i64.wrap ((a:Int)+1)=(a:Int)+1:=a7 (by omega);obtain ⟨b1,hb1⟩:∃b1,b-1=b1:=⟨_,rfl⟩
 have w2:IntKind.i64.wrap ((b:Int)-1)=(b1:Int):=by rw [a7 (by omega)]; omega
 push_cast [ec,bO,b7,a9,b5,w1,w2,c9 (m:=m) ha,c9 (m:=m) hp,c9 (m:=m) hp2,q8 (m:=m) ha,q8 (m:=m) hp2,zae,zad,zab,zac,zaa]
 repeat refine And.intro (by first | decide | omega | exact fun _=>by decide | (simp +contextual; done) | kernel_rfl) ?_
 rw [show (d.setIfInBounds a d[pv]!).setIfInBounds pv d[a]! = swp d a pv from rfl];have hD:partitionEqual ltInt d a b pv=partEqLoop ltInt a (a+1) b1 (swp d a pv):=by rw [partitionEqual,hb1]
 rw [hD];have hsz:=v5 d a pv;generalize hN:d.size=n at *;generalize hR:partEqLoop ltInt a (a+1) b1 (swp d a pv)=R
 refine run_loop [(9,false),(10,false),(0,false),(1,false)] (fun vs pos los=>∃(i j:Nat) (e:Array Int),1≤i∧i≤j+2∧j<n∧e.size=n∧R=partEqLoop ltInt a i j e∧vs=[int .i64 i,int .i64 j,.own 1000000 0 0 n,int .i64 a]∧pos=[bO e m]∧los=[])
  (fun vs _ _=>match vs with | .r (.v (.int _ i)) :: .r (.v (.int _ j))::_=>(j+1-i).toNat | _=>0) rfl ?_ ?_
 ·push_cast [bO,a9,b5]
  exact ⟨a+1,b1,swp d a pv,by omega,by omega,by omega,hsz,hR.symm,(by first | rfl | exact ⟨rfl,rfl⟩ | exact ⟨rfl,rfl,rfl⟩)⟩
 ·rintro vs pos los ⟨i,j,e,hi1,hij,hj,he,hE,rfl,rfl,rfl⟩;have hae:a<e.size:=by omega
  push_cast [bO,a9,b5,b7]
  refine run_loop [(9,false),(10,false),(0,false),(1,false)] (fun vs pos los=>∃i':Nat,i≤i'∧i'≤j+2∧scanUp (fun x=>!ltInt e[a]! x) e j i=scanUp (fun x=>!ltInt e[a]! x) e j i'∧vs=[int .i64 i',int .i64 j,.own 1000000 0 0 n,int .i64 a]∧pos=[bO e m]∧los=[])
   (fun vs _ _=>match vs with | .r (.v (.int _ i))::_=>(j+1-i).toNat | _=>0) rfl ?_ ?_
  ·push_cast [bO,a9,b5]
   exact ⟨i,by omega,by omega,rfl,(by first | rfl | exact ⟨rfl,rfl⟩ | exact ⟨rfl,rfl,rfl⟩)⟩
  ·rintro vs pos los ⟨i2,h1,h2,hU,rfl,rfl,rfl⟩;have w3:IntKind.i64.wrap ((i2:Int)+1)=(i2:Int)+1:=a7 (by omega);by_cases hij2:i2≤j
   ·have g0:decide ((i2:Int)≤j)=true:=by simp; omega
    have hi2:i2<e.size:=by omega
    push_cast [bO,b7,a9,b5,g0,w3,c9 (m:=m) hae,c9 (m:=m) hi2,zab,zac,zaa]
    repeat refine And.intro (by first | decide | omega | exact fun _=>by decide | (simp +contextual; done) | kernel_rfl) ?_
    refine d9 (zu e[a]! e[i2]!) rfl trivial ?_
    push_cast [bO,b7,a9,b5,g0,w3,c9 (m:=m) hae,c9 (m:=m) hi2,zab,zac,zaa]
    repeat refine And.intro (by first | decide | omega | exact fun _=>by decide | (simp +contextual; done) | kernel_rfl) ?_
    refine c7 (fun hc=>?_) (fun hc=>?_)
    ·push_cast [bO,b7,a9,b5,g0,w3]
     refine ⟨⟨i2+1,by omega,by omega,?_,(by first | rfl | exact ⟨rfl,rfl⟩ | exact ⟨rfl,rfl,rfl⟩)⟩,by omega⟩;rw [hU,scanUp,if_pos (by simp [hij2]; simpa using hc)]
    ·have hUe:scanUp (fun x=>!ltInt e[a]! x) e j i=i2:=by rw [hU,scanUp,if_neg (by simp; intro _; simpa using hc)]
     push_cast [bO,b7,a9,b5]
     refine run_loop [(9,false),(10,false),(0,false),(1,false)] (fun vs pos los=>∃j':Nat,j'≤j∧i2≤j'+2∧scanDown (fun x=>ltInt e[a]! x) e i2 j=scanDown (fun x=>ltInt e[a]! x) e i2 j'∧vs=[int .i64 i2,int .i64 j',.own 1000000 0 0 n,int .i64 a]∧pos=[bO e m]∧los=[])
      (fun vs _ _=>match vs with | _ :: .r (.v (.int _ j))::_=>j.toNat | _=>0) rfl ?_ ?_
     ·push_cast [bO,a9,b5]
      exact ⟨j,by omega,by omega,rfl,(by first | rfl | exact ⟨rfl,rfl⟩ | exact ⟨rfl,rfl,rfl⟩)⟩
     ·rintro vs pos los ⟨j2,g1,g2,hW,rfl,rfl,rfl⟩;by_cases hij3:i2≤j2
      ·obtain ⟨k,rfl⟩:∃k,j2=k+1:=⟨j2-1,by omega⟩
       have g0:decide ((i2:Int)≤(k:Int)+1)=true:=by simp; omega
       have g3:decide ((i2:Int)>(k:Int)+1)=false:=by simp; omega
       have wk:IntKind.i64.wrap ((k:Int)+1-1)=(k:Int):=by rw [a7 (by omega)]; omega
       have hk:k+1<e.size:=by omega
       have hi2:i2<e.size:=by omega
       push_cast [bO,b7,a9,b5,g0,wk,c9 (m:=m) hae,c9 (m:=m) hk,zab,zac,zaa]
       repeat refine And.intro (by first | decide | omega | exact fun _=>by decide | (simp +contextual; done) | kernel_rfl) ?_
       refine d9 (zu e[a]! e[k+1]!) rfl trivial ?_
       push_cast [bO,b7,a9,b5,g0,wk,c9 (m:=m) hae,c9 (m:=m) hk,zab,zac,zaa]
       repeat refine And.intro (by first | decide | omega | exact fun _=>by decide | (simp +contextual; done) | kernel_rfl) ?_
       refine c7 (fun hc=>?_) (fun hc=>?_)
       ·push_cast [bO,b7,a9,b5,g0,wk]
        refine ⟨⟨k,by omega,by omega,?_,(by first | rfl | exact ⟨rfl,rfl⟩ | exact ⟨rfl,rfl,rfl⟩)⟩,by omega⟩;rw [hW,scanDown,if_pos (by simp [hij3,hc])]
       ·have hWe:scanDown (fun x=>ltInt e[a]! x) e i2 j=k+1:=by rw [hW,scanDown,if_neg (by simp [hc])]
        have hq:=akv hUe hWe h1 g1 hi1;rw [if_neg (by omega)] at hq;have hk2:k+1<(e.setIfInBounds i2 e[k+1]!).size:=by simpa using hk
        push_cast [bO,b7,a9,b5,g3,wk,w3,c9 (m:=m) hi2,c9 (m:=m) hk,c9 (m:=m) hk2,q8 (m:=m) hi2,q8 (m:=m) hk2,zab,zac,zaa]
        repeat refine And.intro (by first | decide | omega | exact fun _=>by decide | (simp +contextual; done) | kernel_rfl) ?_
        refine ⟨⟨i2+1,k,swp e i2 (k+1),by omega,by omega,by omega,by rw [v5]; exact he,by rw [hE,hq]; rfl,(by first | rfl | exact ⟨rfl,rfl⟩ | exact ⟨rfl,rfl,rfl⟩)⟩,by omega⟩
      ·have g0:decide ((i2:Int)≤j2)=false:=by simp; omega
       have g3:decide ((i2:Int)>j2)=true:=by simp; omega
       have hWe:scanDown (fun x=>ltInt e[a]! x) e i2 j=j2:=by
        rw [hW];cases j2 with
        | zero=>rfl
        | succ k=>rw [scanDown,if_neg (by simp; omega)]
       have hq:=akv hUe hWe h1 g1 hi1;rw [if_pos (by omega)] at hq
       push_cast [bO,b7,a9,b5,g0]
       repeat refine And.intro (by first | decide | omega | exact fun _=>by decide | (simp +contextual; done) | kernel_rfl) ?_
       try push_cast [bO,b7,a9,b5,g3]
       rw [hE,hq]
       first | rfl | exact ⟨rfl,rfl⟩
   ·have g0:decide ((i2:Int)≤j)=false:=by simp; omega
    have hUe:scanUp (fun x=>!ltInt e[a]! x) e j i=i2:=by rw [hU,scanUp,if_neg (by simp; omega)]
    push_cast [bO,b7,a9,b5,g0]
    repeat refine And.intro (by first | decide | omega | exact fun _=>by decide | (simp +contextual; done) | kernel_rfl) ?_
    refine run_loop [(9,false),(10,false),(0,false),(1,false)] (fun vs pos los=>∃j':Nat,j'≤j∧i2≤j'+2∧scanDown (fun x=>ltInt e[a]! x) e i2 j=scanDown (fun x=>ltInt e[a]! x) e i2 j'∧vs=[int .i64 i2,int .i64 j',.own 1000000 0 0 n,int .i64 a]∧pos=[bO e m]∧los=[])
     (fun vs _ _=>match vs with | _ :: .r (.v (.int _ j))::_=>j.toNat | _=>0) rfl ?_ ?_
    ·push_cast [bO,a9,b5]
     exact ⟨j,by omega,by omega,rfl,(by first | rfl | exact ⟨rfl,rfl⟩ | exact ⟨rfl,rfl,rfl⟩)⟩
    ·rintro vs pos los ⟨j2,g1,g2,hW,rfl,rfl,rfl⟩;by_cases hij3:i2≤j2
     ·exact absurd hij3 (by omega)
     ·have g0:decide ((i2:Int)≤j2)=false:=by simp; omega
      have g3:decide ((i2:Int)>j2)=true:=by simp; omega
      have hWe:scanDown (fun x=>ltInt e[a]! x) e i2 j=j2:=by
       rw [hW];cases j2 with
       | zero=>rfl
       | succ k=>rw [scanDown,if_neg (by simp; omega)]
      have hq:=akv hUe hWe h1 g1 hi1;rw [if_pos (by omega)] at hq
      push_cast [bO,b7,a9,b5,g0]
      repeat refine And.intro (by first | decide | omega | exact fun _=>by decide | (simp +contextual; done) | kernel_rfl) ?_
      try push_cast [bO,b7,a9,b5,g3]
      rw [hE,hq]
      first | rfl | exact ⟨rfl,rfl⟩

open Go.Sort (swp ltInt scanUp scanDown partLoop partition)
theorem asq {a i j i2 j2:Nat} {e:Array Int} (hU:scanUp (fun x=>ltInt x e[a]!) e j i=i2) (hW:scanDown (fun x=>!ltInt x e[a]!) e i2 j=j2) (h1:i≤i2) (h2:j2≤j) (h3:1≤i) :
  partLoop ltInt a i j e=if i2>j2 then (j2,e) else partLoop ltInt a (i2+1) (j2-1) (swp e i2 j2):=by
 rw [partLoop];simp only [hU,hW];split
 ·rfl
 ·rw [dif_pos (by omega)]
set_option maxHeartbeats 2000000 in
theorem a4t (d:Array Int) (a b pv:Nat) (hab:a+1<b) (hb:b≤d.size) (hp:pv<d.size) (hn:d.size≤100000) (m:Nat) :
  a8 P0 212 [.own 1000000 0 0 d.size,int .i64 a,int .i64 b,int .i64 pv] [bO d m] (.tup [int .i64 (partition ltInt d a b pv).1,bl (partition ltInt d a b pv).2.1]) [bO (partition ltInt d a b pv).2.2 m]:=by
 refine qw rfl (by simp) ?_;have ha:a<d.size:=by omega
 have hp2:pv<(d.setIfInBounds a d[pv]!).size:=by simpa using hp
 have w1:IntKind.i64.wrap ((a:Int)+1)=(a:Int)+1:=a7 (by omega);obtain ⟨b1,hb1⟩:∃b1,b-1=b1:=⟨_,rfl⟩
 have w2:IntKind.i64.wrap ((b:Int)-1)=(b1:Int):=by rw [a7 (by omega)]; omega
 push_cast [io,bO,b7,a9,b5,w1,w2,c9 (m:=m) ha,c9 (m:=m) hp,c9 (m:=m) hp2,q8 (m:=m) ha,q8 (m:=m) hp2,zae,zad,zab,zac,zaa]
 repeat refine And.intro (by first | decide | omega | exact fun _=>by decide | (simp +contextual; done) | kernel_rfl) ?_
 rw [show (d.setIfInBounds a d[pv]!).setIfInBounds pv d[a]! = swp d a pv from rfl];have hsz:=v5 d a pv;unfold partition;simp only [hb1];generalize hN:d.size=n at *;generalize swp d a pv=e0 at *;have hae:a<e0.size:=by omega
 refine run_loop [(10,false),(11,false),(0,false),(1,false)] (fun vs pos los=>∃i':Nat,a+1≤i'∧i'≤b1+2∧scanUp (fun x=>ltInt x e0[a]!) e0 b1 (a+1)=scanUp (fun x=>ltInt x e0[a]!) e0 b1 i'∧vs=[int .i64 i',int .i64 b1,.own 1000000 0 0 n,int .i64 a]∧pos=[bO e0 m]∧los=[])
  (fun vs _ _=>match vs with | .r (.v (.int _ i))::_=>((b1:Int)+1-i).toNat | _=>0) rfl ?_ ?_
 ·push_cast [bO,a9,b5]
  exact ⟨a+1,by omega,by omega,rfl,(by first | rfl | exact ⟨rfl,rfl⟩ | exact ⟨rfl,rfl,rfl⟩)⟩
 ·rintro vs pos los ⟨i2,h1,h2,hU,rfl,rfl,rfl⟩;have w3:IntKind.i64.wrap ((i2:Int)+1)=(i2:Int)+1:=a7 (by omega);by_cases hij2:i2≤b1
  ·have g0:decide ((i2:Int)≤b1)=true:=by simp; omega
   have hi2:i2<e0.size:=by omega
   push_cast [bO,b7,a9,b5,g0,w3,c9 (m:=m) hae,c9 (m:=m) hi2,zab,zac,zaa]
   repeat refine And.intro (by first | decide | omega | exact fun _=>by decide | (simp +contextual; done) | kernel_rfl) ?_
   refine d9 (zu e0[i2]! e0[a]!) rfl trivial ?_
   push_cast [bO,b7,a9,b5,g0,w3,c9 (m:=m) hae,c9 (m:=m) hi2,zab,zac,zaa]
   repeat refine And.intro (by first | decide | omega | exact fun _=>by decide | (simp +contextual; done) | kernel_rfl) ?_
   refine c7 (fun hc=>?_) (fun hc=>?_)
   ·push_cast [bO,b7,a9,b5,g0,w3]
    refine ⟨⟨i2+1,by omega,by omega,?_,(by first | rfl | exact ⟨rfl,rfl⟩ | exact ⟨rfl,rfl,rfl⟩)⟩,by omega⟩;rw [hU,scanUp,if_pos (by simp [hij2]; simpa using hc)]
   ·have hUe:scanUp (fun x=>ltInt x e0[a]!) e0 b1 (a+1)=i2:=by rw [hU,scanUp,if_neg (by simp; intro _; simpa using hc)]
    push_cast [bO,b7,a9,b5]
    refine run_loop [(10,false),(11,false),(0,false),(1,false)] (fun vs pos los=>∃j':Nat,j'≤b1∧i2≤j'+2∧scanDown (fun x=>!ltInt x e0[a]!) e0 i2 b1=scanDown (fun x=>!ltInt x e0[a]!) e0 i2 j'∧vs=[int .i64 i2,int .i64 j',.own 1000000 0 0 n,int .i64 a]∧pos=[bO e0 m]∧los=[])
     (fun vs _ _=>match vs with | _ :: .r (.v (.int _ j))::_=>j.toNat | _=>0) rfl ?_ ?_
    ·push_cast [bO,a9,b5]
     exact ⟨b1,by omega,by omega,rfl,(by first | rfl | exact ⟨rfl,rfl⟩ | exact ⟨rfl,rfl,rfl⟩)⟩
    ·rintro vs pos los ⟨j2,g1,g2,hW,rfl,rfl,rfl⟩;by_cases hij3:i2≤j2
     ·obtain ⟨k,rfl⟩:∃k,j2=k+1:=⟨j2-1,by omega⟩
      have g0:decide ((i2:Int)≤(k:Int)+1)=true:=by simp; omega
      have g3:decide ((i2:Int)>(k:Int)+1)=false:=by simp; omega
      have wk:IntKind.i64.wrap ((k:Int)+1-1)=(k:Int):=by rw [a7 (by omega)]; omega
      have hk:k+1<e0.size:=by omega
      have hi2:i2<e0.size:=by omega
      push_cast [bO,b7,a9,b5,g0,wk,c9 (m:=m) hae,c9 (m:=m) hk,zab,zac,zaa]
      repeat refine And.intro (by first | decide | omega | exact fun _=>by decide | (simp +contextual; done) | kernel_rfl) ?_
      refine d9 (zu e0[k+1]! e0[a]!) rfl trivial ?_
      push_cast [bO,b7,a9,b5,g0,wk,c9 (m:=m) hae,c9 (m:=m) hk,zab,zac,zaa]
      repeat refine And.intro (by first | decide | omega | exact fun _=>by decide | (simp +contextual; done) | kernel_rfl) ?_
      refine c7 (fun hc=>?_) (fun hc=>?_)
      ·push_cast [bO,b7,a9,b5,g0,wk]
       refine ⟨⟨k,by omega,by omega,?_,(by first | rfl | exact ⟨rfl,rfl⟩ | exact ⟨rfl,rfl,rfl⟩)⟩,by omega⟩;rw [hW,scanDown,if_pos (by simp [hij3]; simpa using hc)]
      ·have hWe:scanDown (fun x=>!ltInt x e0[a]!) e0 i2 b1=k+1:=by rw [hW,scanDown,if_neg (by simp; intro _; simpa using hc)]
       have hk2:k+1<(e0.setIfInBounds i2 e0[k+1]!).size:=by simpa using hk
       have hno:¬i2>k+1:=by omega
       simp only [hUe,hWe,hno,if_false,Nat.add_sub_cancel]
       push_cast [bO,b7,a9,b5,g3,wk,w3,c9 (m:=m) hi2,c9 (m:=m) hk,c9 (m:=m) hk2,q8 (m:=m) hi2,q8 (m:=m) hk2,zab,zac,zaa]
       repeat refine And.intro (by first | decide | omega | exact fun _=>by decide | (simp +contextual; done) | kernel_rfl) ?_
       rw [show (e0.setIfInBounds i2 e0[k+1]!).setIfInBounds (k+1) e0[i2]! = swp e0 i2 (k+1) from rfl];obtain ⟨RR,hRR⟩:∃RR,partLoop ltInt a (i2+1) k (swp e0 i2 (k+1))=RR:=⟨_,rfl⟩
       rw [hRR]
       refine run_loop [(10,false),(11,false),(0,false),(1,false)] (fun vs pos los=>∃(i j:Nat) (e:Array Int),1≤i∧i≤j+2∧j<n∧e.size=n∧RR=partLoop ltInt a i j e∧vs=[int .i64 i,int .i64 j,.own 1000000 0 0 n,int .i64 a]∧pos=[bO e m]∧los=[])
        (fun vs _ _=>match vs with | .r (.v (.int _ i)) :: .r (.v (.int _ j))::_=>(j+1-i).toNat | _=>0) rfl ?_ ?_
       ·push_cast [bO,a9,b5]
        exact ⟨i2+1,k,swp e0 i2 (k+1),by omega,by omega,by omega,by rw [v5]; exact hsz,hRR.symm,(by first | rfl | exact ⟨rfl,rfl⟩ | exact ⟨rfl,rfl,rfl⟩)⟩
       ·clear hij2 hij3 hUe hWe h1 h2 hU g0 g1 g2 g3 hW hc hk hk2 hi2 w3 wk;rintro vs pos los ⟨i,j,e,hi1,hij,hj,he,hE,rfl,rfl,rfl⟩;have hae:a<e.size:=by omega
        push_cast [bO,a9,b5,b7]
        refine run_loop [(10,false),(11,false),(0,false),(1,false)] (fun vs pos los=>∃i':Nat,i≤i'∧i'≤j+2∧scanUp (fun x=>ltInt x e[a]!) e j (i)=scanUp (fun x=>ltInt x e[a]!) e j i'∧vs=[int .i64 i',int .i64 j,.own 1000000 0 0 n,int .i64 a]∧pos=[bO e m]∧los=[])
         (fun vs _ _=>match vs with | .r (.v (.int _ i))::_=>((j:Int)+1-i).toNat | _=>0) rfl ?_ ?_
        ·push_cast [bO,a9,b5]
         exact ⟨i,by omega,by omega,rfl,(by first | rfl | exact ⟨rfl,rfl⟩ | exact ⟨rfl,rfl,rfl⟩)⟩
        ·rintro vs pos los ⟨i2,h1,h2,hU,rfl,rfl,rfl⟩;have w3:IntKind.i64.wrap ((i2:Int)+1)=(i2:Int)+1:=a7 (by omega);by_cases hij2:i2≤j
         ·have g0:decide ((i2:Int)≤j)=true:=by simp; omega
          have hi2:i2<e.size:=by omega
          push_cast [bO,b7,a9,b5,g0,w3,c9 (m:=m) hae,c9 (m:=m) hi2,zab,zac,zaa]
          repeat refine And.intro (by first | decide | omega | exact fun _=>by decide | (simp +contextual; done) | kernel_rfl) ?_
          refine d9 (zu e[i2]! e[a]!) rfl trivial ?_
          push_cast [bO,b7,a9,b5,g0,w3,c9 (m:=m) hae,c9 (m:=m) hi2,zab,zac,zaa]
          repeat refine And.intro (by first | decide | omega | exact fun _=>by decide | (simp +contextual; done) | kernel_rfl) ?_
          refine c7 (fun hc=>?_) (fun hc=>?_)
          ·push_cast [bO,b7,a9,b5,g0,w3]
           refine ⟨⟨i2+1,by omega,by omega,?_,(by first | rfl | exact ⟨rfl,rfl⟩ | exact ⟨rfl,rfl,rfl⟩)⟩,by omega⟩;rw [hU,scanUp,if_pos (by simp [hij2]; simpa using hc)]
          ·have hUe:scanUp (fun x=>ltInt x e[a]!) e j (i)=i2:=by rw [hU,scanUp,if_neg (by simp; intro _; simpa using hc)]
           push_cast [bO,b7,a9,b5]
           refine run_loop [(10,false),(11,false),(0,false),(1,false)] (fun vs pos los=>∃j':Nat,j'≤j∧i2≤j'+2∧scanDown (fun x=>!ltInt x e[a]!) e i2 j=scanDown (fun x=>!ltInt x e[a]!) e i2 j'∧vs=[int .i64 i2,int .i64 j',.own 1000000 0 0 n,int .i64 a]∧pos=[bO e m]∧los=[])
            (fun vs _ _=>match vs with | _ :: .r (.v (.int _ j))::_=>j.toNat | _=>0) rfl ?_ ?_
           ·push_cast [bO,a9,b5]
            exact ⟨j,by omega,by omega,rfl,(by first | rfl | exact ⟨rfl,rfl⟩ | exact ⟨rfl,rfl,rfl⟩)⟩
           ·rintro vs pos los ⟨j2,g1,g2,hW,rfl,rfl,rfl⟩;by_cases hij3:i2≤j2
            ·obtain ⟨k,rfl⟩:∃k,j2=k+1:=⟨j2-1,by omega⟩
             have g0:decide ((i2:Int)≤(k:Int)+1)=true:=by simp; omega
             have g3:decide ((i2:Int)>(k:Int)+1)=false:=by simp; omega
             have wk:IntKind.i64.wrap ((k:Int)+1-1)=(k:Int):=by rw [a7 (by omega)]; omega
             have hk:k+1<e.size:=by omega
             have hi2:i2<e.size:=by omega
             push_cast [bO,b7,a9,b5,g0,wk,c9 (m:=m) hae,c9 (m:=m) hk,zab,zac,zaa]
             repeat refine And.intro (by first | decide | omega | exact fun _=>by decide | (simp +contextual; done) | kernel_rfl) ?_
             refine d9 (zu e[k+1]! e[a]!) rfl trivial ?_
             push_cast [bO,b7,a9,b5,g0,wk,c9 (m:=m) hae,c9 (m:=m) hk,zab,zac,zaa]
             repeat refine And.intro (by first | decide | omega | exact fun _=>by decide | (simp +contextual; done) | kernel_rfl) ?_
             refine c7 (fun hc=>?_) (fun hc=>?_)
             ·push_cast [bO,b7,a9,b5,g0,wk]
              refine ⟨⟨k,by omega,by omega,?_,(by first | rfl | exact ⟨rfl,rfl⟩ | exact ⟨rfl,rfl,rfl⟩)⟩,by omega⟩;rw [hW,scanDown,if_pos (by simp [hij3]; simpa using hc)]
             ·have hWe:scanDown (fun x=>!ltInt x e[a]!) e i2 j=k+1:=by rw [hW,scanDown,if_neg (by simp; intro _; simpa using hc)]
              have hk2:k+1<(e.setIfInBounds i2 e[k+1]!).size:=by simpa using hk
              have hq:=asq hUe hWe h1 g1 hi1;rw [if_neg (by omega)] at hq
              push_cast [bO,b7,a9,b5,g3,wk,w3,c9 (m:=m) hi2,c9 (m:=m) hk,c9 (m:=m) hk2,q8 (m:=m) hi2,q8 (m:=m) hk2,zab,zac,zaa]
              repeat refine And.intro (by first | decide | omega | exact fun _=>by decide | (simp +contextual; done) | kernel_rfl) ?_
              refine ⟨⟨i2+1,k,swp e i2 (k+1),by omega,by omega,by omega,by rw [v5]; exact he,by rw [hE,hq]; rfl,(by first | rfl | exact ⟨rfl,rfl⟩ | exact ⟨rfl,rfl,rfl⟩)⟩,by omega⟩
            ·have g0:decide ((i2:Int)≤j2)=false:=by simp; omega
             have g3:decide ((i2:Int)>j2)=true:=by simp; omega
             have hWe:scanDown (fun x=>!ltInt x e[a]!) e i2 j=j2:=by
              rw [hW];cases j2 with
              | zero=>rfl
              | succ k=>rw [scanDown,if_neg (by simp; omega)]
             push_cast [bO,b7,a9,b5,g0]
             repeat refine And.intro (by first | decide | omega | exact fun _=>by decide | (simp +contextual; done) | kernel_rfl) ?_
             have hq:=asq hUe hWe h1 g1 hi1;rw [if_pos (by omega)] at hq;have hR:RR=(j2,e):=by rw [hE,hq]
             clear hE;subst hR;have k1:j2<e.size:=by omega
             have k2:a<(e.setIfInBounds j2 e[a]!).size:=by simpa using hae
             push_cast [bO,b7,a9,b5,g3,c9 (m:=m) k1,c9 (m:=m) hae,c9 (m:=m) k2,q8 (m:=m) k1,q8 (m:=m) k2,zab,zac,zaa]
             repeat refine And.intro (by first | decide | omega | exact fun _=>by decide | (simp +contextual; done) | kernel_rfl) ?_
             first | done | rfl | exact ⟨rfl,rfl⟩
         ·have g0:decide ((i2:Int)≤j)=false:=by simp; omega
          have hUe:scanUp (fun x=>ltInt x e[a]!) e j (i)=i2:=by rw [hU,scanUp,if_neg (by simp; omega)]
          push_cast [bO,b7,a9,b5,g0]
          repeat refine And.intro (by first | decide | omega | exact fun _=>by decide | (simp +contextual; done) | kernel_rfl) ?_
          refine run_loop [(10,false),(11,false),(0,false),(1,false)] (fun vs pos los=>∃j':Nat,j'≤j∧i2≤j'+2∧scanDown (fun x=>!ltInt x e[a]!) e i2 j=scanDown (fun x=>!ltInt x e[a]!) e i2 j'∧vs=[int .i64 i2,int .i64 j',.own 1000000 0 0 n,int .i64 a]∧pos=[bO e m]∧los=[])
           (fun vs _ _=>match vs with | _ :: .r (.v (.int _ j))::_=>j.toNat | _=>0) rfl ?_ ?_
          ·push_cast [bO,a9,b5]
           exact ⟨j,by omega,by omega,rfl,(by first | rfl | exact ⟨rfl,rfl⟩ | exact ⟨rfl,rfl,rfl⟩)⟩
          ·rintro vs pos los ⟨j2,g1,g2,hW,rfl,rfl,rfl⟩;by_cases hij3:i2≤j2
           ·exact absurd hij3 (by omega)
           ·have g0:decide ((i2:Int)≤j2)=false:=by simp; omega
            have g3:decide ((i2:Int)>j2)=true:=by simp; omega
            have hWe:scanDown (fun x=>!ltInt x e[a]!) e i2 j=j2:=by
             rw [hW];cases j2 with
             | zero=>rfl
             | succ k=>rw [scanDown,if_neg (by simp; omega)]
            push_cast [bO,b7,a9,b5,g0]
            repeat refine And.intro (by first | decide | omega | exact fun _=>by decide | (simp +contextual; done) | kernel_rfl) ?_
            have hq:=asq hUe hWe h1 g1 hi1;rw [if_pos (by omega)] at hq;have hR:RR=(j2,e):=by rw [hE,hq]
            clear hE;subst hR;have k1:j2<e.size:=by omega
            have k2:a<(e.setIfInBounds j2 e[a]!).size:=by simpa using hae
            push_cast [bO,b7,a9,b5,g3,c9 (m:=m) k1,c9 (m:=m) hae,c9 (m:=m) k2,q8 (m:=m) k1,q8 (m:=m) k2,zab,zac,zaa]
            repeat refine And.intro (by first | decide | omega | exact fun _=>by decide | (simp +contextual; done) | kernel_rfl) ?_
            first | done | rfl | exact ⟨rfl,rfl⟩
     ·have g0:decide ((i2:Int)≤j2)=false:=by simp; omega
      have g3:decide ((i2:Int)>j2)=true:=by simp; omega
      have hWe:scanDown (fun x=>!ltInt x e0[a]!) e0 i2 b1=j2:=by
       rw [hW];cases j2 with
       | zero=>rfl
       | succ k=>rw [scanDown,if_neg (by simp; omega)]
      push_cast [bO,b7,a9,b5,g0]
      repeat refine And.intro (by first | decide | omega | exact fun _=>by decide | (simp +contextual; done) | kernel_rfl) ?_
      simp only [hUe,hWe,show i2>j2 from by omega,if_true];have k1:j2<e0.size:=by omega
      have k2:a<(e0.setIfInBounds j2 e0[a]!).size:=by simpa using hae
      push_cast [bO,b7,a9,b5,g3,c9 (m:=m) k1,c9 (m:=m) hae,c9 (m:=m) k2,q8 (m:=m) k1,q8 (m:=m) k2,zab,zac,zaa]
      repeat refine And.intro (by first | decide | omega | exact fun _=>by decide | (simp +contextual; done) | kernel_rfl) ?_
      first | done | rfl | exact ⟨rfl,rfl⟩
  ·have g0:decide ((i2:Int)≤b1)=false:=by simp; omega
   have hUe:scanUp (fun x=>ltInt x e0[a]!) e0 b1 (a+1)=i2:=by rw [hU,scanUp,if_neg (by simp; omega)]
   push_cast [bO,b7,a9,b5,g0]
   repeat refine And.intro (by first | decide | omega | exact fun _=>by decide | (simp +contextual; done) | kernel_rfl) ?_
   refine run_loop [(10,false),(11,false),(0,false),(1,false)] (fun vs pos los=>∃j':Nat,j'≤b1∧i2≤j'+2∧scanDown (fun x=>!ltInt x e0[a]!) e0 i2 b1=scanDown (fun x=>!ltInt x e0[a]!) e0 i2 j'∧vs=[int .i64 i2,int .i64 j',.own 1000000 0 0 n,int .i64 a]∧pos=[bO e0 m]∧los=[])
    (fun vs _ _=>match vs with | _ :: .r (.v (.int _ j))::_=>j.toNat | _=>0) rfl ?_ ?_
   ·push_cast [bO,a9,b5]
    exact ⟨b1,by omega,by omega,rfl,(by first | rfl | exact ⟨rfl,rfl⟩ | exact ⟨rfl,rfl,rfl⟩)⟩
   ·rintro vs pos los ⟨j2,g1,g2,hW,rfl,rfl,rfl⟩;by_cases hij3:i2≤j2
    ·exact absurd hij3 (by omega)
    ·have g0:decide ((i2:Int)≤j2)=false:=by simp; omega
     have g3:decide ((i2:Int)>j2)=true:=by simp; omega
     have hWe:scanDown (fun x=>!ltInt x e0[a]!) e0 i2 b1=j2:=by
      rw [hW];cases j2 with
      | zero=>rfl
      | succ k=>rw [scanDown,if_neg (by simp; omega)]
     push_cast [bO,b7,a9,b5,g0]
     repeat refine And.intro (by first | decide | omega | exact fun _=>by decide | (simp +contextual; done) | kernel_rfl) ?_
     simp only [hUe,hWe,show i2>j2 from by omega,if_true];have k1:j2<e0.size:=by omega
     have k2:a<(e0.setIfInBounds j2 e0[a]!).size:=by simpa using hae
     push_cast [bO,b7,a9,b5,g3,c9 (m:=m) k1,c9 (m:=m) hae,c9 (m:=m) k2,q8 (m:=m) k1,q8 (m:=m) k2,zab,zac,zaa]
     repeat refine And.intro (by first | decide | omega | exact fun _=>by decide | (simp +contextual; done) | kernel_rfl) ?_
     first | done | rfl | exact ⟨rfl,rfl⟩

open Go.Sort (swp ltInt scanSorted partialIns partialInsertionSort)
def bi:Mk P0 f209:={ x:=_ }
theorem iv:d5 209 3 bi:=c8 func209
theorem azh {d:Array Int} {a b:Nat} (h:b-a<50):partialInsertionSort ltInt d a b=(d,decide (scanSorted ltInt d b (a+1)=b)):=by
 unfold partialInsertionSort;rw [partialIns];by_cases hs:scanSorted ltInt d b (a+1)=b
 ·simp [hs]
 ·simp [hs,h]
set_option maxHeartbeats 1000000 in
theorem bfo (d:Array Int) (a b:Nat) (hab:a<b) (hb:b≤d.size) (hn:d.size<50) (m:Nat) :
  a8 P0 209 [.own 1000000 0 0 d.size,int .i64 a,int .i64 b] [bO d m] (bl (partialInsertionSort ltInt d a b).2) [bO d m]:=by
 refine iv rfl (by simp) ?_;rw [azh (by omega)];have w1:IntKind.i64.wrap ((a:Int)+1)=(a:Int)+1:=a7 (by omega);have w2:IntKind.i64.wrap ((b:Int)-a)=(b:Int)-a:=a7 (by omega)
 push_cast [bi,bO,b7,a9,b5,w1,zae,zad,zab,zac,zaa]
 repeat refine And.intro (by first | decide | omega | exact fun _=>by decide | (simp +contextual; done) | kernel_rfl) ?_
 generalize hN:d.size=n at *
 refine run_loop [(7,false),(8,false),(0,false),(1,false),(2,false)] (fun vs pos los=>vs=[int .i64 ((a:Int)+1),int .i64 0,.own 1000000 0 0 n,int .i64 a,int .i64 b]∧pos=[bO d m]∧los=[])
  (fun vs _ _=>0) rfl ?_ ?_
 ·push_cast [bO,a9,b5]
 ·rintro vs pos los ⟨rfl,rfl,rfl⟩;have d05:decide ((0:Int)<5)=true:=by decide
  push_cast [bO,b7,a9,b5,d05,zab,zac,zaa]
  refine run_loop [(7,false),(8,false),(0,false),(1,false),(2,false)] (fun vs pos los=>∃i:Nat,a+1≤i∧i≤b∧scanSorted ltInt d b (a+1)=scanSorted ltInt d b i∧vs=[int .i64 i,int .i64 0,.own 1000000 0 0 n,int .i64 a,int .i64 b]∧pos=[bO d m]∧los=[])
   (fun vs _ _=>match vs with | .r (.v (.int _ i))::_=>(b-i).toNat | _=>0) rfl ?_ ?_
  ·push_cast [bO,a9,b5]
   exact ⟨a+1,by omega,by omega,rfl,(by first | rfl | exact ⟨rfl,rfl⟩ | exact ⟨rfl,rfl,rfl⟩)⟩
  ·rintro vs pos los ⟨i,h1,h2,hU,rfl,rfl,rfl⟩;by_cases hij:i<b
   ·obtain ⟨k,rfl⟩:∃k,i=k+1:=⟨i-1,by omega⟩
    have g0:decide ((k:Int)+1<b)=true:=by simp; omega
    have g1:decide ((k:Int)+1=b)=false:=by simp; omega
    have g2:decide ((b:Int)-a<50)=true:=by simp; omega
    have w3:IntKind.i64.wrap ((k:Int)+1+1)=(k:Int)+1+1:=a7 (by omega);have w4:IntKind.i64.wrap ((k:Int)+1-1)=(k:Int):=by rw [a7 (by omega)]; omega
    have hk:k<d.size:=by omega
    have hk1:k+1<d.size:=by omega
    push_cast [bO,b7,a9,b5,g0,w3,w4,c9 (m:=m) hk,c9 (m:=m) hk1,zab,zac,zaa]
    repeat refine And.intro (by first | decide | omega | exact fun _=>by decide | (simp +contextual; done) | kernel_rfl) ?_
    refine d9 (zu d[k+1]! d[k]!) rfl trivial ?_
    push_cast [bO,b7,a9,b5,g0,w3,w4,c9 (m:=m) hk,c9 (m:=m) hk1,zab,zac,zaa]
    repeat refine And.intro (by first | decide | omega | exact fun _=>by decide | (simp +contextual; done) | kernel_rfl) ?_
    refine c7 (fun hc=>?_) (fun hc=>?_)
    ·push_cast [bO,b7,a9,b5,g0,w3,w4]
     refine ⟨⟨k+2,by omega,by omega,?_,(by first | rfl | exact ⟨rfl,rfl⟩ | exact ⟨rfl,rfl,rfl⟩)⟩,by omega⟩;rw [hU,scanSorted,if_pos (by simp [hij]; simpa using hc)]
    ·have hUe:scanSorted ltInt d b (a+1)=k+1:=by rw [hU,scanSorted,if_neg (by simp; intro _; simpa using hc)]
     push_cast [bO,b7,a9,b5,g0,g1,g2,w2,w3,w4]
     refine c7 (fun hc=>?_) (fun hc=>?_)
     ·exfalso;simp at hc;omega
     ·push_cast [bO,b7,a9,b5,g2,w2]
      rw [hUe];simp;omega
   ·have g0:decide ((i:Int)<b)=false:=by simp; omega
    have g1:decide ((i:Int)=b)=true:=by simp; omega
    have hUe:scanSorted ltInt d b (a+1)=i:=by rw [hU,scanSorted,if_neg (by simp; omega)]
    push_cast [bO,b7,a9,b5,g0,g1]
    repeat refine And.intro (by first | decide | omega | exact fun _=>by decide | (simp +contextual; done) | kernel_rfl) ?_
    refine c7 (fun hc=>?_) (fun hc=>?_)
    ·push_cast [bO,b7,a9,b5]
     rw [hUe];simp;omega
    ·exfalso;simp at hc;omega

open Go.Sort (swp ltInt bitsLen xorNext)
def rf:Mk P0 f237:={ x:=_ }
theorem abb:d5 237 1 rf:=c8 func237
def uz:Mk P0 f238:={ x:=_ }
theorem aci:d5 238 1 uz:=c8 func238
theorem a3i (x:Int):IntKind.u64.wrap x=x%18446744073709551616:=by simp [IntKind.wrap,IntKind.bits,IntKind.signed]
theorem yb {x:Int} (h:0≤x∧x<18446744073709551616):IntKind.u64.wrap x=x:=by rw [a3i]; omega
theorem a98 (a:UInt64) (k:Nat) (hk:k<64):IntKind.u64.wrap ((a.toNat:Int)*2^k)=((a <<< (UInt64.ofNat k)).toNat:Int):=by
 have h2:(UInt64.ofNat k).toNat=k:=by simp; omega
 rw [UInt64.toNat_shiftLeft,h2,Nat.mod_eq_of_lt hk,Nat.shiftLeft_eq,a3i];simp
theorem bh8 (a:UInt64) (k:Nat) (hk:k<64):(a.toNat:Int).fdiv (2^k)=((a >>> (UInt64.ofNat k)).toNat:Int):=by
 have h2:(UInt64.ofNat k).toNat=k:=by simp; omega
 rw [UInt64.toNat_shiftRight,h2,Nat.mod_eq_of_lt hk,Nat.shiftRight_eq_div_pow];have h3:=a.toNat_lt;have h4:((2^k:Nat):Int)=(2:Int)^k:=by simp
 rw [← h4,Int.fdiv_eq_ediv_of_nonneg _ (Int.natCast_nonneg _),← Int.natCast_ediv]
theorem bep (a:UInt64):zaf IntKind.u64.bits (a.toNat:Int)=a.toBitVec:=by
 apply BitVec.eq_of_toNat_eq;rw [zba];have:=a.toNat_lt;show ((a.toNat:Int)%((2^64:Nat):Int)).toNat=a.toNat;omega
theorem bh7 (a b:UInt64):IntKind.u64.wrap ((zaf IntKind.u64.bits (a.toNat:Int) ^^^ zaf IntKind.u64.bits (b.toNat:Int)).toNat:Int)=((a ^^^ b).toNat:Int):=by
 rw [bep,bep];have h:(a.toBitVec ^^^ b.toBitVec).toNat=(a ^^^ b).toNat:=rfl;have:=(a ^^^ b).toNat_lt;refine (congrArg IntKind.u64.wrap (congrArg Int.ofNat h)).trans ?_;exact yb ⟨Int.natCast_nonneg _,Int.ofNat_lt.2 this⟩
theorem bc1 (n:Nat) (hn:n<64):a8 P0 214 [int .u64 n] [] (int .i64 (bitsLen n)) []:=by
 refine adl rfl (by decide) ?_;have g1:decide ((n:Int)≥4294967296)=false:=by simp; omega
 have g2:decide ((n:Int)≥65536)=false:=by simp; omega
 have g3:decide ((n:Int)≥256)=false:=by simp; omega
 have w:IntKind.u8.wrap (n:Int)=n:=by simp [IntKind.wrap,IntKind.bits,IntKind.signed]; omega
 push_cast [adb,g1,g2,g3,w,zab,zad]
 refine ⟨⟨by omega,(show (n:Int)<((256:Nat):Int) by omega)⟩,?_⟩;refine congrArg (fun z=>AV.r (.v (.int .i64 z))) ?_;clear g1 g2 g3 w
 revert n
 decide +kernel
theorem axt (n:Nat) (hn:n<64):a8 P0 169 [int .u64 n] [] (int .i64 (bitsLen n)) []:=by
 refine agi rfl (by decide) ?_;have w:IntKind.u64.wrap (n:Int)=n:=yb (by omega)
 push_cast [ag3,w,zad]
 refine a5 (bc1 n hn) rfl trivial ?_
 push_cast
theorem bf0 (n:Nat) (hn:n<64):a8 P0 237 [int .i64 n] [] (int .u64 (1 <<< bitsLen n:Nat)) []:=by
 refine abb rfl (by decide) ?_;have w:IntKind.u64.wrap (n:Int)=n:=yb (by omega)
 push_cast [rf,w,zad]
 refine a5 (axt n hn) rfl trivial ?_
 push_cast
 refine ⟨by omega,?_⟩;refine congrArg (fun z=>AV.r (.v (.int .u64 z))) ?_;clear w
 revert n
 decide +kernel
theorem bf2 (r:UInt64):a8 P0 238 [.ptr 1000000 0 0] [.box [int .u64 r.toNat]] (int .u64 (xorNext r).toNat) [.box [int .u64 (xorNext r).toNat]]:=by
 refine aci rfl (by simp) ?_;have e1:(min (zap 13) IntKind.u64.bits)=13:=rfl;have e2:(min (zap 7) IntKind.u64.bits)=7:=rfl;have e3:(min (zap 17) IntKind.u64.bits)=17:=rfl;have k1:∀a:UInt64,a <<< (UInt64.ofNat 13)=a <<< 13:=fun _=>rfl;have k2:∀a:UInt64,a >>> (UInt64.ofNat 7)=a >>> 7:=fun _=>rfl;have k3:∀a:UInt64,a <<< (UInt64.ofNat 17)=a <<< 17:=fun _=>rfl;have s1:=fun a=>a98 a 13 (by decide);have s2:=fun a=>bh8 a 7 (by decide);have s3:=fun a=>a98 a 17 (by decide);simp only [uz,e1,e2,e3,s1,s2,s3,k1,k2,k3,bh7,push_cast,↓reduceIte,reduceCtorEq,zB,zE,zA,zS,zL,zD,zM]
 repeat refine And.intro (by first | decide | omega | exact fun _=>by decide | (simp +contextual; done) | kernel_rfl) ?_
 rfl

open Go.Sort (swp ltInt bitsLen xorNext breakStep breakPatterns)
def ek:Mk P0 f206:={ x:=_ }
theorem nc:d5 206 3 ek:=c8 func206
def brk (a l md:Nat):Nat→Nat→UInt64×Array Int→Array Int
 | 0,_,st=>st.2
 | s+1,idx,st=>brk a l md s (idx+1) (breakStep a l md st idx)
theorem bhq {d:Array Int} {a b:Nat} (h:8≤b-a):breakPatterns d a b=brk a (b-a) (1 <<< bitsLen (b-a)) 3 (a+(b-a)/4*2-1) (UInt64.ofNat (b-a),d):=by
 unfold breakPatterns;simp only [show b-a≥8 from h,if_true]
 rfl
theorem a2z (x md:Nat) (k:Nat) (hk:k≤62) (hm:md=2^k) (hx:x<18446744073709551616):IntKind.u64.wrap ((zaf IntKind.u64.bits (x:Int) &&& zaf IntKind.u64.bits ((md:Int)-1)).toNat)=((x &&& (md-1):Nat):Int):=by
 rw [ajf x ((md:Int)-1) k (by omega) (by rw [hm]; simp) (Int.natCast_nonneg _) (by omega),hm,Nat.and_two_pow_sub_one_eq_mod];simp
set_option maxHeartbeats 1000000 in
theorem bd0 (d:Array Int) (a b:Nat) (hl:8≤b-a) (hb:b≤d.size) (hn:d.size<50) (m:Nat) :
  a8 P0 206 [.own 1000000 0 0 d.size,int .i64 a,int .i64 b] [bO d m] (.tup []) [bO (breakPatterns d a b) m]:=by
 refine nc rfl (by simp) ?_;rw [bhq hl];have hp1:=Go.Sort.lt_two_pow_bitsLen (b-a);have hp2:=Go.Sort.two_pow_bitsLen_le (n:=b-a) (by omega);obtain ⟨l,hl'⟩:∃l,b-a=l:=⟨_,rfl⟩
 obtain ⟨q,hq⟩:∃q,l/4=q:=⟨_,rfl⟩
 obtain ⟨B,hB⟩:∃B,bitsLen l=B:=⟨_,rfl⟩
 obtain ⟨md,hmd⟩:∃md,1 <<< B=md:=⟨_,rfl⟩
 have hmd2:md=2^B:=by rw [← hmd,Nat.shiftLeft_eq,Nat.one_mul]
 rw [hl'] at hp1 hp2 ⊢;rw [hB] at hp1 hp2;rw [hB,hmd,hq]
 have hB62:B≤62:=by
  rcases Nat.lt_or_ge 62 B with h | h
  ·have:=zbb (n:=2) (by decide) (show 7≤B by omega);omega
  ·exact h
 rw [← hmd2] at hp1 hp2;obtain ⟨i0,hi0⟩:∃i0,a+q*2-1=i0:=⟨_,rfl⟩
 have w0:IntKind.i64.wrap ((b:Int)-a)=(l:Int):=by rw [a7 (by omega)]; omega
 have w1:(l:Int).tdiv 4=(q:Int):=by rw [zav (by omega)]; omega
 have w1':IntKind.i64.wrap (q:Int)=(q:Int):=a7 (by omega);have w2:IntKind.i64.wrap ((q:Int)*2)=(q:Int)*2:=a7 (by omega);have w3:IntKind.i64.wrap ((a:Int)+(q:Int)*2)=(a:Int)+(q:Int)*2:=a7 (by omega);have w4:IntKind.i64.wrap ((a:Int)+(q:Int)*2-1)=(i0:Int):=by rw [a7 (by omega)]; omega
 have w5:IntKind.i64.wrap ((a:Int)+(q:Int)*2+1)=(i0:Int)+2:=by rw [a7 (by omega)]; omega
 have w6:IntKind.u64.wrap (l:Int)=(l:Int):=yb (by omega);have w7:IntKind.u64.wrap ((md:Int)-1)=(md:Int)-1:=yb (by omega);have c1:decide ((l:Int)≥8)=true:=by simp; omega
 push_cast [ek,bO,b7,a9,b5,w0,w1,w1',w2,w3,w4,w6,c1,zae,zad,zab,zac,zaa]
 repeat refine And.intro (by first | decide | omega | exact fun _=>by decide | (simp +contextual; done) | kernel_rfl) ?_
 refine a5 (bf0 l (by omega)) rfl trivial ?_;rw [hB,hmd]
 push_cast [bO,b7,a9,b5,w0,w1,w1',w2,w3,w4,w6,c1,zae,zad,zab,zac,zaa]
 repeat refine And.intro (by first | decide | omega | exact fun _=>by decide | (simp +contextual; done) | kernel_rfl) ?_
 generalize hN:d.size=n at *;obtain ⟨RR,hRR⟩:∃RR,brk a l md 3 i0 (UInt64.ofNat l,d)=RR:=⟨_,rfl⟩
 rw [hi0,hRR]
 refine run_loop [(9,false),(0,false),(1,false),(6,false),(7,false),(8,false)] (fun vs pos los=>∃(s idx:Nat) (r:UInt64) (e:Array Int),s+idx=i0+3∧s≤3∧e.size=n∧RR=brk a l md s idx (r,e)∧vs=[int .i64 idx,.own 1000000 0 0 n,int .i64 a,int .i64 l,.ptr 2000000 0 0,int .u64 md]∧pos=[bO e m]∧los=[.box [int .u64 r.toNat]])
  (fun vs _ _=>match vs with | .r (.v (.int _ i))::_=>((i0:Int)+3-i).toNat | _=>0) rfl ?_ ?_
 ·push_cast [bO,a9,b5]
  refine ⟨3,i0,UInt64.ofNat l,d,by omega,by omega,hN,hRR.symm,(by first | rfl | exact ⟨rfl,rfl⟩ | exact ⟨rfl,rfl,rfl⟩),?_⟩;have:(UInt64.ofNat l).toNat=l:=by simp; omega
  rw [this];exact ⟨rfl,rfl⟩
 ·rintro vs pos los ⟨s,idx,r,e,h1,h2,he,hE,rfl,rfl,rfl⟩
  push_cast [bO,b7,a9,b5,w1,w1',w2,w3,w5,zab,zac,zaa]
  repeat refine And.intro (by first | decide | omega | exact fun _=>by decide | (simp +contextual; done) | kernel_rfl) ?_
  refine c7 (fun hc=>?_) (fun hc=>?_)
  ·obtain ⟨s',rfl⟩:∃s',s=s'+1:=⟨s-1,by simp at hc; omega⟩
   push_cast [bO,b7,a9,b5,zab,zac,zaa]
   refine a5 (bf2 r) rfl ⟨rfl,trivial⟩ ?_;have hx:=(xorNext r).toNat_lt;have hand:=a2z (xorNext r).toNat md B hB62 hmd2 hx;obtain ⟨o,ho⟩:∃o,(xorNext r).toNat &&& (md-1)=o:=⟨_,rfl⟩
   rw [ho] at hand;have hole:o≤md-1:=by rw [← ho]; exact Nat.and_le_right
   have wo:IntKind.i64.wrap (o:Int)=(o:Int):=a7 (by omega)
   push_cast [bO,b7,a9,b5,w7,hand,wo,zab,zac,zaa]
   repeat refine And.intro (by first | decide | omega | exact fun _=>by decide | (simp +contextual; done) | kernel_rfl) ?_
   have hidx:idx<e.size:=by omega
   have wi:IntKind.i64.wrap ((idx:Int)+1)=(idx:Int)+1:=a7 (by omega)
   have fin:∀t:Nat,t<l→(breakStep a l md (r,e) idx)=(xorNext r,swp e idx (a+t))→brk a l md (s'+1) idx (r,e)=brk a l md s' (idx+1) (xorNext r,swp e idx (a+t)):=fun t ht h=>by
    rw [brk,h]
   refine c7 (fun hc=>?_) (fun hc=>?_)
   ·have hge:l≤o:=by simp at hc; omega
    obtain ⟨t,rfl⟩:∃t,o=l+t:=⟨o-l,by omega⟩
    have ht:t<l:=by omega
    have wt:IntKind.i64.wrap (((l+t:Nat):Int)-l)=(t:Int):=by rw [a7 (by omega)]; omega
    have wat:IntKind.i64.wrap ((a:Int)+t)=((a+t:Nat):Int):=by rw [a7 (by omega)]; omega
    have k1:a+t<e.size:=by omega
    have k2:a+t<(e.setIfInBounds idx e[a+t]!).size:=by simpa using k1
    have hbs:=fin t ht (by
     unfold breakStep;simp only [ho];rw [if_pos (by omega)]
     simp)
    generalize hat:a+t=at' at *;generalize hlt:l+t=lt' at *
    push_cast [bO,b7,a9,b5,wt,wat,wi,c9 (m:=m) hidx,c9 (m:=m) k1,c9 (m:=m) k2,q8 (m:=m) hidx,q8 (m:=m) k2,zab,zac,zaa]
    repeat refine And.intro (by first | decide | omega | exact fun _=>by decide | (simp +contextual; done) | kernel_rfl) ?_
    refine ⟨⟨s',idx+1,xorNext r,swp e idx at',by omega,by omega,by rw [v5]; exact he,by rw [hE,hbs],(by first | rfl | exact ⟨rfl,rfl⟩ | exact ⟨rfl,rfl,rfl⟩)⟩,by omega⟩
   ·have hlo:o<l:=by simp at hc; omega
    have wat:IntKind.i64.wrap ((a:Int)+o)=((a+o:Nat):Int):=by rw [a7 (by omega)]; omega
    have k1:a+o<e.size:=by omega
    have k2:a+o<(e.setIfInBounds idx e[a+o]!).size:=by simpa using k1
    have hbs:=fin o hlo (by
     unfold breakStep;simp only [ho]
     rw [if_neg (by omega)])
    generalize hat:a+o=at' at *
    push_cast [bO,b7,a9,b5,wat,wi,c9 (m:=m) hidx,c9 (m:=m) k1,c9 (m:=m) k2,q8 (m:=m) hidx,q8 (m:=m) k2,zab,zac,zaa]
    repeat refine And.intro (by first | decide | omega | exact fun _=>by decide | (simp +contextual; done) | kernel_rfl) ?_
    refine ⟨⟨s',idx+1,xorNext r,swp e idx at',by omega,by omega,by rw [v5]; exact he,by rw [hE,hbs],(by first | rfl | exact ⟨rfl,rfl⟩ | exact ⟨rfl,rfl,rfl⟩)⟩,by omega⟩
  ·have hs:s=0:=by simp at hc; omega
   subst hs
   push_cast [bO,b7,a9,b5,zab,zac,zaa]
   rw [hE]
   rfl

open Go.Sort (swp ltInt bitsLen breakPatterns pdq insertionSort heapSort choosePivot Hint reverseRange partialInsertionSort partition partitionEqual Below PermIn SWO)
structure Rnd (e:Array Int) (a b limit:Nat) (wb wp:Bool) (d1:Array Int) (l1:Nat) (d2:Array Int) (pv:Nat) (hint:Hint) (F:Bool):Prop where
 g1:(if !wb then breakPatterns e a b else e)=d1
 g2:(if !wb then limit-1 else limit)=l1
 g3:(if (choosePivot ltInt d1 a b).2=.decreasing then reverseRange d1 a b else d1)=d2
 g4:(if (choosePivot ltInt d1 a b).2=.decreasing then (b-1)-((choosePivot ltInt d1 a b).1-a) else (choosePivot ltInt d1 a b).1)=pv
 g5:(if (choosePivot ltInt d1 a b).2=.decreasing then Hint.increasing else (choosePivot ltInt d1 a b).2)=hint
 g6:((wb&&wp&&decide (hint=.increasing))&&(partialInsertionSort ltInt d2 a b).2)=F
section
variable {e d1 d2:Array Int} {a b limit l1 pv:Nat} {wb wp F:Bool} {hint:Hint}
theorem a4s (h:b-a≤12):pdq ltInt e a b limit wb wp=insertionSort ltInt e a b:=by rw [pdq,if_pos h]
theorem a8c (h:¬b-a≤12) (h0:limit=0):pdq ltInt e a b limit wb wp=heapSort ltInt e a b:=by rw [pdq,if_neg h,if_pos h0]
theorem bil (hs:b-a<50) (c:Bool):(if c=true then partialInsertionSort ltInt d2 a b else (d2,false))=(d2,c&&(partialInsertionSort ltInt d2 a b).2):=by
 cases c
 ·rfl
 ·simp only [if_true,Bool.true_and];rw [azh hs]
theorem Rnd.eq (R:Rnd e a b limit wb wp d1 l1 d2 pv hint F) (h:¬b-a≤12) (h0:limit≠0) (hs:b-a<50) :
  pdq ltInt e a b limit wb wp=if F=true then d2 else
   if (decide (a>0) && !ltInt d2[a-1]! d2[pv]!)=true then
    match partitionEqual ltInt d2 a b pv with
    | (mid,d4)=>if _h:a<mid∧mid≤b then pdq ltInt d4 mid b l1 wb wp else d4
   else
    match partition ltInt d2 a b pv with
    | (mid,ap,d4)=>
     if _h:a≤mid∧mid<b then
      if mid-a<b-mid then pdq ltInt (pdq ltInt d4 a mid l1 true true) (mid+1) b l1 (decide (mid-a≥(b-a)/8)) ap
      else pdq ltInt (pdq ltInt d4 (mid+1) b l1 true true) a mid l1 (decide (b-mid≥(b-a)/8)) ap
     else d4:=by
 rw [pdq,if_neg h,if_neg h0];simp only [R.g1,R.g2,R.g3,R.g4,R.g5,bil hs,R.g6]
theorem Rnd.facts (R:Rnd e a b limit wb wp d1 l1 d2 pv hint F) (h:a<b) (hb:b≤e.size) (hB:Below ltInt a b e) :
  d1.size=e.size∧d2.size=e.size∧l1≤limit∧Below ltInt a b d2∧a≤pv∧pv<b:=by
 have s1:PermIn a b e d1:=by
  rw [← R.g1];split
  ·exact Go.Sort.breakPatterns_holds e a b (by omega) hb
  ·exact Go.Sort.permIn_refl e a b
 have b1:b≤d1.size:=by rw [s1.1]; exact hb
 have s2:PermIn a b d1 d2:=by
  rw [← R.g3];split
  ·exact Go.Sort.reverseRange_holds d1 a b (by omega) b1
  ·exact Go.Sort.permIn_refl d1 a b
 have hc:=Go.Sort.choosePivot_holds ltInt d1 a b h;refine ⟨s1.1,s2.1.trans s1.1,by rw [← R.g2]; split<;>omega,(hB.perm hb s1).perm b1 s2,?_,?_⟩
 ·rw [← R.g4]; split<;>omega
 ·rw [← R.g4]; split<;>omega
theorem Rnd.eqs (R:Rnd e a b limit wb wp d1 l1 d2 pv hint F) (h:¬b-a≤12) (hb:b≤e.size) (hB:Below ltInt a b e)
  (hnl:(decide (a>0) && !ltInt d2[a-1]! d2[pv]!)=true) {mid:Nat} {d4:Array Int} (hx:partitionEqual ltInt d2 a b pv=(mid,d4)) :
  a<mid∧mid≤b∧d4.size=e.size∧Below ltInt mid b d4:=by
 obtain ⟨f1,f2,f3,f4,f5,f6⟩:=R.facts (by omega) hb hB;simp only [Bool.and_eq_true,decide_eq_true_eq,Bool.not_eq_true'] at hnl;obtain ⟨r1,r2,r3,r4,_⟩:=Go.Sort.round_eq Go.Sort.swo_ltInt (Go.Sort.partitionEqual_holds ltInt) hnl.1 f5 f6 (by omega) f4 hnl.2 hx;exact ⟨r1,r2,r3.trans f2,r4⟩
theorem Rnd.parts (R:Rnd e a b limit wb wp d1 l1 d2 pv hint F) (h:¬b-a≤12) (hb:b≤e.size) (hB:Below ltInt a b e) {mid:Nat} {ap:Bool} {d4:Array Int} (hx:partition ltInt d2 a b pv=(mid,ap,d4)) :
  a≤mid∧mid<b∧d4.size=e.size∧Below ltInt a mid d4∧Below ltInt (mid+1) b d4 ∧
  (pdq ltInt d4 a mid l1 true true).size=e.size∧Below ltInt (mid+1) b (pdq ltInt d4 a mid l1 true true) ∧
  (pdq ltInt d4 (mid+1) b l1 true true).size=e.size∧Below ltInt a mid (pdq ltInt d4 (mid+1) b l1 true true):=by
 obtain ⟨f1,f2,f3,f4,f5,f6⟩:=R.facts (by omega) hb hB;obtain ⟨g1,g2,hs4,hBa,hBr,hl,hr⟩:=Go.Sort.round_part Go.Sort.swo_ltInt (Go.Sort.partition_holds ltInt) f5 f6 (by omega) f4 hx;have p1:=Go.Sort.pdq_sorts ltInt Go.Sort.swo_ltInt d4 a mid l1 true true g1 (by omega) hBa;have p2:=Go.Sort.pdq_sorts ltInt Go.Sort.swo_ltInt d4 (mid+1) b l1 true true (by omega) (by omega) hBr;exact ⟨g1,g2,hs4.trans f2,hBa,hBr,p1.1.1.trans (hs4.trans f2),(hl _ p1.1 p1.2).1,p2.1.1.trans (hs4.trans f2),(hr _ p2.1 p2.2).1⟩
end

open Go.Sort (swp ltInt bitsLen breakPatterns pdq insertionSort heapSort choosePivot Hint reverseRange partialInsertionSort partition partitionEqual Below PermIn SWO)
def cj:Mk P0 f168:={ x:=_ }
theorem fi:d5 168 4 cj:=c8 func168
theorem ama (i:Nat) (x y:Nat×Ob) (f:Obs):upd i x (upd i y f)=upd i x f:=by
 funext n;simp only [upd];split<;>rfl
def a93 (m N:Nat):Prop:=∀(d:Array Int) (a b limit:Nat),b-a≤N→a≤b→b≤d.size→d.size<50→limit≤100→Below ltInt a b d →
  a8 P0 168 [.own 1000000 0 0 d.size,int .i64 a,int .i64 b,int .i64 limit] [bO d m] (.tup []) [bO (pdq ltInt d a b limit true true) m]
theorem ql {m:Nat} {f g:Array Int} (h:g.size=f.size):y9 [bO f m] [bO g m]:=⟨by rw [b7,b7,h],trivial⟩
set_option maxHeartbeats 2000000 in
theorem a8b (m N:Nat) (ih:∀N',N'<N→a93 m N'):a93 m N:=by
 intro d a b limit hN hab hb hn hlim hB;refine fi rfl (by simp) ?_;obtain ⟨RR,hRR⟩:∃RR,pdq ltInt d a b limit true true=RR:=⟨_,rfl⟩
 rw [hRR]
 push_cast [cj,bO,b7,a9,b5,zae,zad,zab,zac,zaa]
 repeat refine And.intro (by first | decide | omega | exact fun _=>by decide | (simp +contextual; done) | kernel_rfl) ?_
 obtain ⟨n,hnn⟩:∃n,d.size=n:=⟨_,rfl⟩
 rw [hnn] at hb hn ⊢
 refine run_loop [(8,false),(9,false),(0,false),(1,false),(2,false),(3,false)] (fun vs pos los=>∃(a b limit:Nat) (wb wp:Bool) (e:Array Int),a≤b∧b≤n∧e.size=n∧b-a≤N∧limit≤100∧Below ltInt a b e∧RR=pdq ltInt e a b limit wb wp∧vs=[bl wb,bl wp,.own 1000000 0 0 n,int .i64 a,int .i64 b,int .i64 limit]∧pos=[bO e m]∧los=[])
  (fun vs _ _=>match vs with | [_,_,_,.r (.v (.int _ a)),.r (.v (.int _ b)),_]=>(b-a).toNat | _=>0) rfl ?_ ?_
 ·push_cast [bO,a9,b5]
  exact ⟨a,b,limit,true,true,d,hab,hb,hnn,hN,hlim,hB,hRR.symm,(by first | rfl | exact ⟨rfl,rfl⟩ | exact ⟨rfl,rfl,rfl⟩)⟩
 ·clear hRR hB hlim hN hab hb hnn;rintro vs pos los ⟨a,b,limit,wb,wp,e,hab,hb,he,hN,hlim,hB,hRR,rfl,rfl,rfl⟩;have w0:IntKind.i64.wrap ((b:Int)-a)=(b:Int)-a:=a7 (by omega);obtain ⟨l,hl⟩:∃l,b-a=l:=⟨_,rfl⟩
  have w0:IntKind.i64.wrap ((b:Int)-a)=(l:Int):=by rw [a7 (by omega)]; omega
  push_cast [bO,b7,a9,b5,w0,zab,zac,zaa]
  refine c7 (fun hc=>?_) (fun hc=>?_)
  ·have h12:b-a≤12:=by simp at hc; omega
   push_cast [bO,b7,a9,b5,zab,zac,zaa]
   have ht:=bi5 e a b hab (by omega) (by omega) m;rw [he] at ht;refine a5 ht rfl (ql (Go.Sort.insertionSort_holds Go.Sort.swo_ltInt e a b hab (by omega)).1.1) ?_;rw [hRR,a4s h12]
   push_cast [bO,b7,a9,b5,zab,zac,zaa]
  ·have h12:¬b-a≤12:=by simp at hc; omega
   push_cast [bO,b7,a9,b5,zab,zac,zaa]
   refine c7 (fun hc2=>?_) (fun hc2=>?_)
   ·have h0:limit=0:=by simp at hc2; omega
    push_cast [bO,b7,a9,b5,zab,zac,zaa]
    have ht:=bgs e a b (by omega) (by omega) (by omega) m;rw [he] at ht;refine a5 ht rfl (ql (Go.Sort.heapSort_holds Go.Sort.swo_ltInt e a b hab (by omega)).1.1) ?_;rw [hRR,a8c h12 h0]
    push_cast [bO,b7,a9,b5,zab,zac,zaa]
   ·have h0:limit≠0:=by simp at hc2; omega
    push_cast [bO,b7,a9,b5,zab,zac,zaa]
    refine ai9 (fun E ob=>∃(d1:Array Int) (l1:Nat),(if !wb then breakPatterns e a b else e)=d1∧(if !wb then limit-1 else limit)=l1∧E 0=.own 1000000 0 0 n∧E 1=int .i64 a∧E 2=int .i64 b∧E 3=int .i64 l1∧E 8=bl wb∧E 9=bl wp∧E 10=int .i64 l∧ob=upd 1000000 (0,bO d1 m) (fun _=>none)) ?_ (fun hc3=>?_) (fun hc3=>?_)
    ·rintro E ob ⟨d1,l1,q1,q2,e0,e1,e2,e3,e8,e9,e10,rfl⟩
     have hz1:d1.size=n:=by
      rw [← he,← q1];split
      ·exact (Go.Sort.breakPatterns_holds e a b hab (by omega)).1
      ·rfl
     push_cast [bO,b7,a9,b5,e0,e1,e2,e3,e8,e9,e10,zab,zac,zaa]
     have ht:=bco d1 a b (by omega) (by omega) (by omega) m;rw [hz1] at ht;refine a5 ht rfl (ql rfl) ?_;clear ht;obtain ⟨c,h,hch⟩:∃c h,choosePivot ltInt d1 a b=(c,h):=⟨_,_,rfl⟩
     have hcr:=Go.Sort.choosePivot_holds ltInt d1 a b (by omega);rw [hch] at hcr ⊢;simp only at hcr
     push_cast [bO,b7,a9,b5,e0,e1,e2,e3,e8,e9,e10,zab,zac,zaa]
     refine ai9 (fun E ob=>∃(d2:Array Int) (pv:Nat) (hint:Hint),(if h=.decreasing then reverseRange d1 a b else d1)=d2∧(if h=.decreasing then (b-1)-(c-a) else c)=pv∧(if h=.decreasing then Hint.increasing else h)=hint∧E 0=.own 1000000 0 0 n∧E 1=int .i64 a∧E 2=int .i64 b∧E 3=int .i64 l1∧E 8=bl wb∧E 9=bl wp∧E 10=int .i64 l∧E 11=int .i64 pv∧E 12=int .i64 (amn hint)∧ob=upd 1000000 (0,bO d2 m) (fun _=>none)) ?_ (fun hc4=>?_) (fun hc4=>?_)
     ·clear e0 e1 e2 e3 e8 e9 e10 E;rintro E ob ⟨d2,pv,hint,q3,q4,q5,e0,e1,e2,e3,e8,e9,e10,e11,e12,rfl⟩
      push_cast [bO,b7,a9,b5,e0,e1,e2,e3,e8,e9,e10,e11,e12,zab,zac,zaa]
      have hG:(bif bif wb then wp else false then amn hint == 1 else false)=(wb&&wp&&decide (hint=.increasing)):=by cases wb<;>cases wp<;>cases hint<;>rfl
      have R:Rnd e a b limit wb wp d1 l1 d2 pv hint ((wb&&wp&&decide (hint=.increasing))&&(partialInsertionSort ltInt d2 a b).2):=⟨q1,q2,by rw [hch]; exact q3,by rw [hch]; exact q4,by rw [hch]; exact q5,rfl⟩
      obtain ⟨hz1',hz2,hl1,hB2,hpv1,hpv2⟩:=R.facts (by omega) (by omega) hB;have hRe:=R.eq h12 h0 (by omega);refine ai9 (fun E ob=>((wb&&wp&&decide (hint=.increasing))&&(partialInsertionSort ltInt d2 a b).2)=false∧E 0=.own 1000000 0 0 n∧E 1=int .i64 a∧E 2=int .i64 b∧E 3=int .i64 l1∧E 8=bl wb∧E 9=bl wp∧E 10=int .i64 l∧E 11=int .i64 pv∧ob=upd 1000000 (0,bO d2 m) (fun _=>none)) ?_ (fun hc5=>?_) (fun hc5=>?_)
      ·clear e0 e1 e2 e3 e8 e9 e10 e11 e12 E;rintro E ob ⟨hF,e0,e1,e2,e3,e8,e9,e10,e11,rfl⟩;rw [hF] at R hRe;rw [if_neg (by simp)] at hRe;clear hG hF;by_cases ha0:0<a
       ·obtain ⟨a1,rfl⟩:∃a1,a=a1+1:=⟨a-1,by omega⟩
        have g0:decide ((a1:Int)+1>0)=true:=by rw [decide_eq_true_eq]; omega
        have wk:IntKind.i64.wrap ((a1:Int)+1-1)=(a1:Int):=by rw [a7 (by omega)]; omega
        have k1:a1<d2.size:=by omega
        have k2:pv<d2.size:=by omega
        push_cast [bO,b7,a9,b5,g0,wk,e0,e1,e2,e3,e8,e9,e10,e11,c9 (m:=m) k1,c9 (m:=m) k2,zab,zac,zaa]
        repeat refine And.intro (by first | decide | omega | exact fun _=>by decide | (simp +contextual; done) | kernel_rfl) ?_
        refine d9 (zu d2[a1]! d2[pv]!) rfl trivial ?_
        push_cast [bO,b7,a9,b5,g0,wk,e0,e1,e2,e3,e8,e9,e10,e11,c9 (m:=m) k1,c9 (m:=m) k2,zab,zac,zaa]
        repeat refine And.intro (by first | decide | omega | exact fun _=>by decide | (simp +contextual; done) | kernel_rfl) ?_
        refine c7 (fun hc7=>?_) (fun hc7=>?_)
        ·have hcon:(decide (a1+1>0) && !ltInt d2[a1+1-1]! d2[pv]!)=true:=by simpa using hc7
         have ht:=a8d d2 (a1+1) b pv (by omega) (by omega) (by omega) (by omega) m;rw [hz2,he] at ht;obtain ⟨mid,d4,hx⟩:∃mid d4,partitionEqual ltInt d2 (a1+1) b pv=(mid,d4):=⟨_,_,rfl⟩
         obtain ⟨r1,r2,r3,r4⟩:=R.eqs h12 (by omega) hB hcon hx;rw [hx] at ht hRe;simp only at ht;rw [if_pos hcon] at hRe;simp only [dif_pos (show a1+1<mid∧mid≤b from ⟨r1,r2⟩)] at hRe
         push_cast [bO,b7,a9,b5,g0,wk,e0,e1,e2,e3,e8,e9,e10,e11,zab,zac,zaa]
         refine a5 ht rfl (ql (by omega)) ?_
         push_cast [bO,b7,a9,b5,g0,wk,e0,e1,e2,e3,e8,e9,e10,e11,zab,zac,zaa]
         exact ⟨⟨mid,b,l1,wb,wp,d4,by omega,by omega,by omega,by omega,by omega,r4,by rw [hRR,hRe],(by first | rfl | exact ⟨rfl,rfl⟩ | exact ⟨rfl,rfl,rfl⟩)⟩,by omega⟩
        ·have hcon:¬(decide (a1+1>0) && !ltInt d2[a1+1-1]! d2[pv]!)=true:=by simpa using hc7
         push_cast [bO,b7,a9,b5,g0,wk,e0,e1,e2,e3,e8,e9,e10,e11,zab,zac,zaa]
         have ht:=a4t d2 (a1+1) b pv (by omega) (by omega) (by omega) (by omega) m;rw [hz2,he] at ht;obtain ⟨mid,ap,d4,hx⟩:∃mid ap d4,partition ltInt d2 (a1+1) b pv=(mid,ap,d4):=⟨_,_,_,rfl⟩
         obtain ⟨r1,r2,r3,r4,r5,r6,r7,r8,r9⟩:=R.parts h12 (by omega) hB hx;rw [hx] at ht hRe;simp only at ht;refine a5 ht rfl (ql (by omega)) ?_;rw [if_neg (by exact hcon)] at hRe;simp only [dif_pos (show (a1+1)≤mid∧mid<b from ⟨r1,r2⟩)] at hRe;obtain ⟨t8,ht8⟩:∃t8,(b-(a1+1))/8=t8:=⟨_,rfl⟩
         obtain ⟨x,hx'⟩:∃x,mid-(a1+1)=x:=⟨_,rfl⟩
         obtain ⟨y,hy'⟩:∃y,b-mid=y:=⟨_,rfl⟩
         have wx:IntKind.i64.wrap ((mid:Int)-((a1:Int)+1))=(x:Int):=by rw [a7 (by omega)]; omega
         have wy:IntKind.i64.wrap ((b:Int)-mid)=(y:Int):=by rw [a7 (by omega)]; omega
         have w8:(l:Int).tdiv 8=(t8:Int):=by rw [zav (by omega)]; omega
         have w8':IntKind.i64.wrap (t8:Int)=(t8:Int):=a7 (by omega);have wm:IntKind.i64.wrap ((mid:Int)+1)=((mid+1:Nat):Int):=by rw [a7 (by omega)]; omega
         have dx:decide ((x:Int)≥(t8:Int))=decide (x≥t8):=by simp
         have dy:decide ((y:Int)≥(t8:Int))=decide (y≥t8):=by simp
         rw [ht8,hx',hy'] at hRe;clear ht
         push_cast [bO,b7,a9,b5,wx,wy,w8,w8',dx,dy,e0,e1,e2,e3,e8,e9,e10,e11,zab,zac,zaa]
         repeat refine And.intro (by first | decide | omega | exact fun _=>by decide | (simp +contextual; done) | kernel_rfl) ?_
         refine c7 (fun hcp=>?_) (fun hcp=>?_)
         ·have hlt:x<y:=by simpa using hcp
          rw [if_pos hlt] at hRe;have ht:=ih (mid-(a1+1)) (by omega) d4 (a1+1) mid l1 (by omega) r1 (by omega) (by omega) (by omega) r4;rw [r3,he] at ht;generalize hmm:mid+1=mid1 at *
          push_cast [bO,b7,a9,b5,wx,wy,wm,w8,w8',dx,dy,e0,e1,e2,e3,e8,e9,e10,e11,zab,zac,zaa]
          refine a5 ht rfl (ql (by omega)) ?_
          push_cast [bO,b7,a9,b5,wx,wy,wm,w8,w8',dx,dy,e0,e1,e2,e3,e8,e9,e10,e11,zab,zac,zaa]
          exact ⟨⟨mid1,b,l1,decide (x≥t8),ap,pdq ltInt d4 (a1+1) mid l1 true true,by omega,by omega,by omega,by omega,by omega,r7,by rw [hRR,hRe],(by first | rfl | exact ⟨rfl,rfl⟩ | exact ⟨rfl,rfl,rfl⟩)⟩,by omega⟩
         ·have hlt:¬x<y:=by simpa using hcp
          rw [if_neg hlt] at hRe;have ht:=ih (b-(mid+1)) (by omega) d4 (mid+1) b l1 (by omega) (by omega) (by omega) (by omega) (by omega) r5;rw [r3,he] at ht;generalize hmm:mid+1=mid1 at *
          push_cast [bO,b7,a9,b5,wx,wy,wm,w8,w8',dx,dy,e0,e1,e2,e3,e8,e9,e10,e11,zab,zac,zaa]
          refine a5 ht rfl (ql (by omega)) ?_
          push_cast [bO,b7,a9,b5,wx,wy,wm,w8,w8',dx,dy,e0,e1,e2,e3,e8,e9,e10,e11,zab,zac,zaa]
          exact ⟨⟨(a1+1),mid,l1,decide (y≥t8),ap,pdq ltInt d4 mid1 b l1 true true,by omega,by omega,by omega,by omega,by omega,r9,by rw [hRR,hRe],(by first | rfl | exact ⟨rfl,rfl⟩ | exact ⟨rfl,rfl,rfl⟩)⟩,by omega⟩
       ·obtain rfl:a=0:=by omega
        have g0:decide (((0:Nat):Int)>0)=false:=by decide
        have g0':decide ((0:Int)>0)=false:=by decide
        have wk:True:=trivial;have hcon:¬(decide (0>0) && !ltInt d2[0-1]! d2[pv]!)=true:=by simp
        push_cast [bO,b7,a9,b5,g0,g0',e0,e1,e2,e3,e8,e9,e10,e11,zab,zac,zaa]
        repeat refine And.intro (by first | decide | omega | exact fun _=>by decide | (simp +contextual; done) | kernel_rfl) ?_
        try push_cast [bO,b7,a9,b5,g0,wk,e0,e1,e2,e3,e8,e9,e10,e11,zab,zac,zaa]
        have ht:=a4t d2 0 b pv (by omega) (by omega) (by omega) (by omega) m;rw [hz2,he] at ht;obtain ⟨mid,ap,d4,hx⟩:∃mid ap d4,partition ltInt d2 0 b pv=(mid,ap,d4):=⟨_,_,_,rfl⟩
        obtain ⟨r1,r2,r3,r4,r5,r6,r7,r8,r9⟩:=R.parts h12 (by omega) hB hx;rw [hx] at ht hRe;simp only at ht;refine a5 ht rfl (ql (by omega)) ?_;rw [if_neg (by exact hcon)] at hRe;simp only [dif_pos (show 0≤mid∧mid<b from ⟨r1,r2⟩)] at hRe;obtain ⟨t8,ht8⟩:∃t8,(b-0)/8=t8:=⟨_,rfl⟩
        obtain ⟨x,hx'⟩:∃x,mid-0=x:=⟨_,rfl⟩
        obtain ⟨y,hy'⟩:∃y,b-mid=y:=⟨_,rfl⟩
        have wx:IntKind.i64.wrap ((mid:Int)-0)=(x:Int):=by rw [a7 (by omega)]; omega
        have wy:IntKind.i64.wrap ((b:Int)-mid)=(y:Int):=by rw [a7 (by omega)]; omega
        have w8:(l:Int).tdiv 8=(t8:Int):=by rw [zav (by omega)]; omega
        have w8':IntKind.i64.wrap (t8:Int)=(t8:Int):=a7 (by omega);have wm:IntKind.i64.wrap ((mid:Int)+1)=((mid+1:Nat):Int):=by rw [a7 (by omega)]; omega
        have dx:decide ((x:Int)≥(t8:Int))=decide (x≥t8):=by simp
        have dy:decide ((y:Int)≥(t8:Int))=decide (y≥t8):=by simp
        rw [ht8,hx',hy'] at hRe;clear ht
        push_cast [bO,b7,a9,b5,wx,wy,w8,w8',dx,dy,e0,e1,e2,e3,e8,e9,e10,e11,zab,zac,zaa]
        repeat refine And.intro (by first | decide | omega | exact fun _=>by decide | (simp +contextual; done) | kernel_rfl) ?_
        refine c7 (fun hcp=>?_) (fun hcp=>?_)
        ·have hlt:x<y:=by simpa using hcp
         rw [if_pos hlt] at hRe;have ht:=ih (mid-0) (by omega) d4 0 mid l1 (by omega) r1 (by omega) (by omega) (by omega) r4;rw [r3,he] at ht;generalize hmm:mid+1=mid1 at *
         push_cast [bO,b7,a9,b5,wx,wy,wm,w8,w8',dx,dy,e0,e1,e2,e3,e8,e9,e10,e11,zab,zac,zaa]
         refine a5 ht rfl (ql (by omega)) ?_
         push_cast [bO,b7,a9,b5,wx,wy,wm,w8,w8',dx,dy,e0,e1,e2,e3,e8,e9,e10,e11,zab,zac,zaa]
         exact ⟨⟨mid1,b,l1,decide (x≥t8),ap,pdq ltInt d4 0 mid l1 true true,by omega,by omega,by omega,by omega,by omega,r7,by rw [hRR,hRe],(by first | rfl | exact ⟨rfl,rfl⟩ | exact ⟨rfl,rfl,rfl⟩)⟩,by omega⟩
        ·have hlt:¬x<y:=by simpa using hcp
         rw [if_neg hlt] at hRe;have ht:=ih (b-(mid+1)) (by omega) d4 (mid+1) b l1 (by omega) (by omega) (by omega) (by omega) (by omega) r5;rw [r3,he] at ht;generalize hmm:mid+1=mid1 at *
         push_cast [bO,b7,a9,b5,wx,wy,wm,w8,w8',dx,dy,e0,e1,e2,e3,e8,e9,e10,e11,zab,zac,zaa]
         refine a5 ht rfl (ql (by omega)) ?_
         push_cast [bO,b7,a9,b5,wx,wy,wm,w8,w8',dx,dy,e0,e1,e2,e3,e8,e9,e10,e11,zab,zac,zaa]
         exact ⟨⟨0,mid,l1,decide (y≥t8),ap,pdq ltInt d4 mid1 b l1 true true,by omega,by omega,by omega,by omega,by omega,r9,by rw [hRR,hRe],(by first | rfl | exact ⟨rfl,rfl⟩ | exact ⟨rfl,rfl,rfl⟩)⟩,by omega⟩
      ·rw [hG] at hc5;have ht:=bfo d2 a b (by omega) (by omega) (by omega) m;rw [hz2,he] at ht
       push_cast [bO,b7,a9,b5,e0,e1,e2,e3,e8,e9,e10,e11,e12,zab,zac,zaa]
       refine a5 ht rfl (ql rfl) ?_
       push_cast [bO,b7,a9,b5,e0,e1,e2,e3,e8,e9,e10,e11,e12,zab,zac,zaa]
       refine c7 (fun hc6=>?_) (fun hc6=>?_)
       ·rw [hc5,hc6] at hRe;simp only [Bool.and_self,if_true] at hRe
        push_cast [bO,b7,a9,b5,zab,zac,zaa]
        rw [hRR,hRe]
       ·push_cast [bO,b7,a9,b5,ama,e0,e1,e2,e3,e8,e9,e10,e11,e12,zab,zac,zaa]
        rw [hc6]; simp
      ·rw [hG] at hc5
       push_cast [bO,b7,a9,b5,e0,e1,e2,e3,e8,e9,e10,e11,e12,zab,zac,zaa]
       rw [hc5]; simp
     ·have hd:h=.decreasing:=by cases h<;>simp [amn] at hc4 ⊢
      subst hd;have ht:=bii d1 a b (by omega) (by omega) (by omega) (by omega) m;rw [hz1] at ht;have wc1:IntKind.i64.wrap ((b:Int)-1)=(b:Int)-1:=a7 (by omega);have wc2:IntKind.i64.wrap ((c:Int)-a)=(c:Int)-a:=a7 (by omega);have wc3:IntKind.i64.wrap ((b:Int)-1-((c:Int)-a))=(((b-1)-(c-a):Nat):Int):=by rw [a7 (by omega)]; omega
      generalize hpv:(b-1)-(c-a)=pv at *
      push_cast [bO,b7,a9,b5,e0,e1,e2,e3,e8,e9,e10,zab,zac,zaa]
      refine a5 ht rfl (ql (Go.Sort.reverseRange_holds d1 a b (by omega) (by omega)).1) ?_
      push_cast [bO,b7,a9,b5,wc1,wc2,wc3,e0,e1,e2,e3,e8,e9,e10,zab,zac,zaa]
      refine ⟨_,_,_,rfl,rfl,rfl,?_⟩;simp only [ama];exact ⟨trivial,rfl,trivial⟩
     ·have hd:h≠.decreasing:=by rintro rfl; simp [amn] at hc4
      push_cast [bO,b7,a9,b5,e0,e1,e2,e3,e8,e9,e10,zab,zac,zaa]
      refine ⟨_,_,_,rfl,rfl,rfl,?_⟩;rw [if_neg hd,if_neg hd,if_neg hd];simp only [ama,and_self]
    ·have hwb:wb=false:=by simpa using hc3
     subst hwb;have wl:IntKind.i64.wrap ((limit:Int)-1)=((limit-1:Nat):Int):=by rw [a7 (by omega)]; omega
     push_cast [bO,b7,a9,b5,zab,zac,zaa]
     have ht:=bd0 e a b (by omega) (by omega) (by omega) m;rw [he] at ht;have hz1:=(Go.Sort.breakPatterns_holds e a b hab (by omega)).1;refine a5 ht rfl (ql hz1) ?_;generalize hll:limit-1=l1 at *
     push_cast [bO,b7,a9,b5,wl,zab,zac,zaa]
     refine ⟨_,_,rfl,rfl,?_⟩;simp only [ama,and_self]
     first | done | simpa using hll
    ·have hwb:wb=true:=by simpa using hc3
     subst hwb
     push_cast [bO,b7,a9,b5,zab,zac,zaa]
     refine ⟨_,_,rfl,rfl,?_⟩;exact ⟨rfl,rfl⟩

open Go.Sort (swp ltInt bitsLen pdq sort Below)
def eh:Mk P0 f119:={ x:=_ }
theorem ix:d5 119 1 eh:=c8 func119
theorem bim (m:Nat):∀N,a93 m N:=by
 intro N
 induction N using Nat.strongRecOn with
 | _ N ih=>exact a8b m N ih
def xc (ws:List Int):List Int:=ws.mergeSort (fun x y=>decide (x≤y))
def qf (ws:List Int):List RV:=ws.map fun n=>RV.v (.int .u64 n)
def z7 (ws:List Int):Ob:=.row 1 (.v (.int .u64 0)) true true (qf ws)
theorem aoo (ws:List Int):(xc ws).length=ws.length:=List.length_mergeSort ..
theorem axs (ws:List Int) (m:Nat):fo (ws.map fun n=>Value.int .u64 n) m=bc ws.toArray m:=by
 simp [fo,bc,bu,Function.comp_def]
theorem abc (ws:List Int):(qf ws).length=ws.length:=by simp [qf]
theorem bbm (d:Array Int) (hn:d.size<50) (m:Nat):a8 P0 119 [.own 1000000 0 0 d.size] [bO d m] (.tup []) [bO (sort ltInt d) m]:=by
 refine ix rfl (by simp) ?_;have hb:bitsLen d.size≤6:=(Go.Sort.bitsLen_le_iff d.size 6).2 (by omega);have w:IntKind.u64.wrap (d.size:Int)=d.size:=yb (by omega)
 push_cast [eh,bO,b7,a9,b5,w,zae,zad,zab,zac,zaa]
 refine a5 (axt d.size (by omega)) rfl trivial ?_
 push_cast [bO,b7,a9,b5,w,zae,zad,zab,zac,zaa]
 have ht:=bim m d.size d 0 d.size (bitsLen d.size) (by omega) (by omega) (by omega) hn (by omega) (.inl rfl);refine a5 ht rfl (ql (Go.Sort.pdq_sorts ltInt Go.Sort.swo_ltInt d 0 d.size _ true true (by omega) (by omega) (.inl rfl)).1.1) ?_
 push_cast [bO,b7,a9,b5,w,zae,zad,zab,zac,zaa]
 rfl
def vu (ws:List Int):List Value:=ws.map fun n=>Value.int .u64 n
theorem a3e (ws:List Int):(vu ws).length=ws.length:=by simp [vu]
theorem a3d (ws:List Int):(vu ws).map RV.v=qf ws:=by simp [vu,qf,Function.comp_def]
theorem be4 (ws:List Int) (hn:ws.length<50) (m:Nat):a8 P0 119 [.own 1000000 0 0 ws.length] [.box (fo (vu ws) m)] (.tup []) [.box (fo (vu (xc ws)) m)]:=by
 have:=bbm ws.toArray (by simpa using hn) m;unfold vu;rw [axs,axs]
 have e:(xc ws).toArray=sort ltInt ws.toArray:=by
  have:=Go.Sort.sortInt ws;unfold xc;rw [← this]
 rw [e];simpa [bO] using this
theorem bid (ws ws':List Int) (h:ws'.length=ws.length) (m:Nat):y9 [.box (fo (vu ws) m)] [.box (fo (vu ws') m)]:=⟨by simp [fo,a3e,h],trivial⟩
theorem ale (xs:List Value) (m:Nat):m5 (fo xs m)=[]:=alf _ fun x hx=>by
 rcases zaz.1 hx with hx | hx
 ·obtain ⟨n,_,rfl⟩:=zam.1 hx
  rfl
 ·rw [(List.mem_replicate.1 hx).2]; rfl
theorem aw4 (F:Ren) (xs:List Value) (m:Nat):imL F (fo xs m)=fo xs m:=rn F _ (ale xs m)
theorem bc3:a8 P0 204 [.r (.sl 1 []),int .i64 0,int .i64 0] [] (.tup []) []:=by
 refine cn rfl (by decide) ?_;have g:decide (IntKind.i64.wrap (0+1)<0)=false:=by decide
 simp only [ag,push_cast,↓reduceIte,reduceCtorEq,zB,zE,zA,zS,zL,zD,zM];refine run_loop [(6,false),(2,false)] (fun vs pos los=>vs=[int .i64 (IntKind.i64.wrap (0+1)),int .i64 0]∧pos=[]∧los=[]) (fun _ _ _=>0) rfl ?_ ?_
 ·simp only [push_cast,↓reduceIte,reduceCtorEq,zB,zE,zA,zS,zL,zD,zM]
 ·rintro vs pos los ⟨rfl,rfl,rfl⟩;simp only [g,push_cast,↓reduceIte,reduceCtorEq,zB,zE,zA,zS,zL,zD,zM]
theorem bcp:a8 P0 168 [.r (.sl 1 []),int .i64 0,int .i64 0,int .i64 0] [] (.tup []) []:=by
 refine fi rfl (by decide) ?_;have g:decide ((0:Int)≤12)=true:=by decide
 have w:IntKind.i64.wrap (0-0)=0:=rfl;simp only [cj,push_cast,↓reduceIte,reduceCtorEq,zB,zE,zA,zS,zL,zD,zM];refine run_loop [(8,false),(9,false),(0,false),(1,false),(2,false),(3,false)] (fun vs pos los=>vs=[bl true,bl true,.r (.sl 1 []),int .i64 0,int .i64 0,int .i64 0]∧pos=[]∧los=[]) (fun _ _ _=>0) rfl ?_ ?_
 ·simp only [push_cast,↓reduceIte,reduceCtorEq,zB,zE,zA,zS,zL,zD,zM]
 ·rintro vs pos los ⟨rfl,rfl,rfl⟩;simp only [w,g,push_cast,↓reduceIte,reduceCtorEq,zB,zE,zA,zS,zL,zD,zM];refine a5 bc3 rfl trivial ?_;simp only [push_cast,↓reduceIte,reduceCtorEq,zB,zE,zA,zS,zL,zD,zM]
theorem a7j:a8 P0 119 [.r (.sl 1 [])] [] (.tup []) []:=by
 refine ix rfl (by decide) ?_
 push_cast [eh,zae,zad]
 refine a5 (axt 0 (by decide)) rfl trivial ?_
 push_cast
 refine a5 bcp rfl trivial ?_
 push_cast

def cr:Mk P0 f69:={ x:=_ }
theorem aes:d5 69 2 cr:=c8 func69
def kI (e:MapEntry):Int:=match e.key with | .int _ n=>n | _=>0
def KeysU (es:List MapEntry) (c:Nat):Prop:=(∀e∈es,e.key=.int .u64 (kI e))∧(es.map (·.born)).Nodup∧∀e∈es,e.born<c
theorem bds {f:Nat→Nat} {es:List MapEntry} {c:Nat} (h:CM f es c):KeysU es c:=by
 obtain ⟨ws,h1,h2,h3⟩:=h.ex;refine ⟨fun e he=>?_,h1.nd,h1.lt⟩;have:(e.key,e.val)∈ws.map cnE:=by rw [← h1.kv]; exact zam.2 ⟨e,he,rfl⟩
 obtain ⟨a,_,ha⟩:=zam.1 this;simp only [ent,Prod.mk.injEq] at ha;simp [kI,← ha.1]
theorem as3 {es:List MapEntry} {seen:List Nat} {e:MapEntry} (he:e∈db es seen):(db es (seen++[e.born])).length<(db es seen).length:=by
 have e1:db es (seen++[e.born])=(db es seen).filter fun x=>!(x.born == e.born):=by
  unfold db;rw [List.filter_filter];apply List.filter_congr;intro x _;simp only [List.contains_eq_mem,zaz,List.mem_singleton,Bool.decide_or,Bool.not_or,Bool.and_comm];by_cases hx:x.born=e.born<;>simp [hx]
 rw [e1]
 have:((db es seen).filter fun x=>!(x.born == e.born)).length<(db es seen).length:=by
  rw [List.length_filter_lt_length_iff_exists];exact ⟨e,he,by simp⟩
 exact this
structure Vis (es V:List MapEntry) (seen:List Nat):Prop where
 s:seen=V.map (·.born)
 sub:∀e∈V,e∈es
 nd:seen.Nodup
 b:V.length+(db es seen).length≤es.length
theorem ba6 (es:List MapEntry):Vis es [] []:=⟨rfl,by simp,by simp,by simp only [zad,zaa]; exact List.length_filter_le ..⟩
theorem Vis.add {es V:List MapEntry} {seen:List Nat} (h:Vis es V seen) {e:MapEntry} (he:e∈db es seen):Vis es (V++[e]) (seen++[e.born]):=by
 obtain ⟨h1,h2⟩:=List.mem_filter.1 he;refine ⟨by rw [h.s]; simp,fun x hx=>?_,?_,by have:=h.b; have:=as3 he; simp only [zai,zbc]; omega⟩
 ·rcases zaz.1 hx with hx | hx
  ·exact h.sub x hx
  ·simp at hx; subst hx; exact h1
 ·rw [List.nodup_append];refine ⟨h.nd,by simp,fun a ha b hb=>?_⟩;simp at hb;subst hb;rintro rfl;simp at h2;exact h2 ha
theorem Vis.all {es V:List MapEntry} {seen:List Nat} (h:Vis es V seen) (hnd:(es.map (·.born)).Nodup) (h0:db es seen=[]):V.Perm es:=by
 have hV:V.Nodup:=by
  have:=h.nd;rw [h.s] at this;exact (List.pairwise_map.1 this).imp fun {a b} hab e=>hab (by rw [e])
 have hE:es.Nodup:=(List.pairwise_map.1 hnd).imp fun {a b} hab e=>hab (by rw [e]);refine (List.perm_ext_iff_of_nodup hV hE).2 fun x=>⟨h.sub x,fun hx=>?_⟩
 have:¬x∈db es seen:=by rw [h0]; simp
 unfold db at this;rw [List.mem_filter,h.s] at this;simp only [hx,true_and,Bool.not_eq_true',List.contains_eq_mem,decide_eq_false_iff_not,Classical.not_not,zam] at this;obtain ⟨y,hy,e⟩:=this;have hye:=h.sub y hy;obtain ⟨i,hi⟩:=zbd hx;obtain ⟨j,hj⟩:=zbd hye;have:=aq7 hnd (i:=i) (j:=j) (x:=x.born) (by simp [hi]) (by simp [hj,e]);subst this;rw [hi] at hj;cases hj;exact hy
theorem aun {es:List MapEntry} (hnd:(es.map (·.born)).Nodup) {e:MapEntry} (he:e∈es) (seen:List Nat):axk es (seen++[e.born])=some e:=by
 unfold axk;simp only [List.getLast?_append,List.getLast?_singleton,Option.some_or];cases hf:es.find? fun x=>x.born == e.born with
 | none=>
  have:=List.find?_eq_none.1 hf e he;simp at this
 | some y=>
  have hy:=List.mem_of_find?_eq_some hf;have hb:=List.find?_some hf;simp at hb;obtain ⟨i,hi⟩:=zbd he;obtain ⟨j,hj⟩:=zbd hy;have:=aq7 hnd (i:=i) (j:=j) (x:=e.born) (by simp [hi]) (by simp [hj,hb]);subst this;rw [hi] at hj;exact hj.symm
theorem atv {a b:List Int} (h:a.Perm b):xc a=xc b:=by
 have h1:(xc a).Perm (xc b):=((List.mergeSort_perm a _).trans h).trans (List.mergeSort_perm b _).symm;have tr:∀x y z:Int,decide (x≤y)=true→decide (y≤z)=true→decide (x≤z)=true:=by simp; omega
 have tot:∀x y:Int,(decide (x≤y)||decide (y≤x))=true:=by simp; omega
 have s1:=List.pairwise_mergeSort tr tot a;have s2:=List.pairwise_mergeSort tr tot b;refine List.Perm.eq_of_pairwise (le:=fun x y=>decide (x≤y)=true) (fun x y _ _ h1 h2=>by simp at h1 h2; omega) s1 s2 h1
theorem bdx {args:List AV} {po:List Ob} {D:AV→List Ob→Prop} (hal:args.length=2) (hpo:po.length≤1000)
  (h:run P0 po.length (atn po.length [(4,false,none)] D) [.c cr.1.2] ⟨pb 0 args,ob0 po⟩):amv P0 69 args po D:=
 aka (fn:=f69) (c:=(f69.body).getD .skip) (pc:=cr.1.2) (rs:=[(4,false,none)]) func69 rfl (by decide) (by kernel_rfl) (by rw [hal]; decide) rfl (by kernel_rfl) (by kernel_rfl) (by decide) hpo (ax2 h)
theorem bbh (V:List MapEntry) (x:Int):zaj V.length (qf (V.map kI))++[RV.v (.int .u64 x)]=qf (V.map kI++[x]):=by
 rw [zaq (by simp [qf])];simp [qf]
section
variable {es:List MapEntry} {c:Nat} {ns:List (List Ky)} {ce:Nat→List MapEntry} {cc:Nat→Nat}
set_option maxHeartbeats 40000000 in
theorem cells_some {r : Nat} (hr : r < 13) {E : List MapEntry} {C : Nat} (eE : ce r = E) (eC : cc r = C) (h : KeysU E C) (hn : E.length < 50) (hne : E ≠ []) :
    amv P0 69 [.ptr 1000000 0 0,int .i64 r] (stOs es c ns ce cc) fun v os=>∃m,v=.own 1000016 0 0 E.length∧os=stOs es c ns ce cc++[.box (fo (vu (xc (E.map kI))) m)]:=by
  refine bdx rfl (by simp [stOs]) ?_;have g1:decide ((r:Int)<0)=false:=by simp
  have g2:decide ((r:Int)≥13)=false:=by simp; omega
  obtain ⟨K,hK⟩:∃K,xc (E.map kI)=K:=⟨_,rfl⟩
  rw [hK];obtain ⟨M,hM⟩:∃M,1000003+r=M:=⟨_,rfl⟩
  push_cast [cr,stOs,g1,g2,zae,zad]
  rcases (show r=0∨r=1∨r=2∨r=3∨r=4∨r=5∨r=6∨r=7∨r=8∨r=9∨r=10∨r=11∨r=12 by omega) with rfl | rfl | rfl | rfl | rfl | rfl | rfl | rfl | rfl | rfl | rfl | rfl | rfl<;>(
    simp only [Nat.reduceAdd] at hM
    push_cast [eE,eC,zar,zas]
    repeat refine And.intro (by first | decide | omega | exact fun _=>by decide | (simp +contextual; done) | kernel_rfl) ?_
    refine run_loop [(5, false), (19, false)] (fun vs pos los => ∃ (V : List MapEntry) (seen : List Nat), Vis E V seen ∧ pos = stOs es c ns ce cc ∧ ∃ st, C ≤ st ∧
        (V=[]∧vs=[.nils 1 (.v (.int .u64 0)),.ptr 2000000 0 0]∧los=[.iter (.mp M 0) C seen st] ∨
         V≠[]∧vs=[.own 2000000 0 0 V.length,.ptr 2000001 0 0]∧los=[z7 (V.map kI),.iter (.mp M 0) C seen st]))
      (fun _ _ los=>match los with | [.iter _ _ seen _]=>(db E seen).length | [_,.iter _ _ seen _]=>(db E seen).length | _=>0) rfl ?_ ?_
    · push_cast [stOs,eE,eC,← hM]
      exact ⟨[],[],ba6 _,C,zah _,by simp⟩
    · rintro vs pos los ⟨V,seen,hV,rfl,st,hst,⟨h0,rfl,rfl⟩ | ⟨h0,rfl,rfl⟩⟩
      · subst h0
        push_cast [stOs,eE,eC,← hM]
        have hs:seen=[]:=hV.s;refine awg h.2.2 hst (fun hl=>?_) (fun en hen=>?_)
        · exfalso;rw [hs] at hl;unfold db at hl;simp at hl;exact hne (List.eq_nil_iff_forall_not_mem.2 fun x hx=>by simpa using hl x hx)
        · have hk:en.key=.int .u64 (kI en):=h.1 en ((hV.add hen).sub en (by simp));have hE:=aun h.2.1 ((hV.add hen).sub en (by simp)) seen
          push_cast [hk,hE,ac9,Option.isSome_some]
          repeat refine And.intro (by first | decide | omega | exact fun _=>by decide | (simp +contextual; done) | kernel_rfl) ?_
          exact ⟨⟨[en],_,hV.add hen,C,zah _,.inr ⟨by simp,rfl,rfl⟩⟩,as3 hen⟩
      · push_cast [stOs,eE,eC,← hM]
        refine awg h.2.2 hst (fun hl=>?_) (fun en hen=>?_)
        · push_cast [z7,qf]
          have hP:=hV.all h.2.1 hl;have hlen:=hP.length_eq;refine a6k 2000000 0 (.v (.int .u64 0)) (vu (V.map kI)) (by rw [a3d]; rfl) (by simpa [vu] using h0) (fun m=>?_);rw [show zan (fun x=>AV.r (RV.v x)) (vu (V.map kI))++List.replicate m AV.undef=fo (vu (V.map kI)) m from rfl];have ht:=be4 (V.map kI) (by simp; omega) m;rw [atv (hP.map kI),hK] at ht;simp only [zak] at ht
          push_cast [z7,qf,ale,aw4]
          refine a5 ht rfl (bid _ _ (by rw [← hK,aoo,zak,zak,hlen]) m) ?_
          push_cast [z7,qf,ale,aw4,hlen]
          exact ⟨m,by simp⟩
        · have hk:en.key=.int .u64 (kI en):=h.1 en ((hV.add hen).sub en (by simp));have hE:=aun h.2.1 ((hV.add hen).sub en (by simp)) seen;have hvl:=(hV.add hen).b;simp only [zai,zbc] at hvl;have hmx:=j7
          push_cast [hk,hE,ac9,Option.isSome_some,z7,bbh]
          repeat refine And.intro (by first | decide | omega | exact fun _=>by decide | (simp +contextual; done) | kernel_rfl) ?_
          exact ⟨⟨V++[en],_,hV.add hen,C,zah _,.inr ⟨by simp,by simp,by simp [qf]⟩⟩,as3 hen⟩)
set_option maxHeartbeats 40000000 in
theorem a2k {r:Nat} (hr:r<13) (h0:ce r=[]) :
  a8 P0 69 [.ptr 1000000 0 0,int .i64 r] (stOs es c ns ce cc) (.nils 1 (.v (.int .u64 0))) (stOs es c ns ce cc):=by
 refine aes rfl (by simp [stOs]) ?_;have g1:decide ((r:Int)<0)=false:=by simp
 have g2:decide ((r:Int)≥13)=false:=by simp; omega
 obtain ⟨M,hM⟩:∃M,1000003+r=M:=⟨_,rfl⟩
 obtain ⟨C,eC⟩:∃C,cc r=C:=⟨_,rfl⟩
 push_cast [cr,stOs,g1,g2,zae,zad]
 rcases (show r=0∨r=1∨r=2∨r=3∨r=4∨r=5∨r=6∨r=7∨r=8∨r=9∨r=10∨r=11∨r=12 by omega) with rfl | rfl | rfl | rfl | rfl | rfl | rfl | rfl | rfl | rfl | rfl | rfl | rfl<;>(
  simp only [Nat.reduceAdd] at hM
  push_cast [h0,eC,zar,zas]
  repeat refine And.intro (by first | decide | omega | exact fun _=>by decide | (simp +contextual; done) | kernel_rfl) ?_
  refine run_loop [(5,false),(19,false)] (fun vs pos los=>vs=[.nils 1 (.v (.int .u64 0)),.ptr 2000000 0 0]∧pos=stOs es c ns ce cc∧los=[.iter (.mp M 0) C [] C])
   (fun _ _ _=>0) rfl ?_ ?_
  ·push_cast [stOs,h0,eC,← hM]
  ·rintro vs pos los ⟨rfl,rfl,rfl⟩
   push_cast [stOs,h0,eC,← hM]
   refine awg (by simp) (zah _) (fun hl=>?_) (fun en hen=>?_)
   ·push_cast
    refine a5 a7j rfl trivial ?_
    push_cast
   ·simp [db] at hen)
end

def dd:List Nat→List Nat
 | []=>[]
 | a::l=>if a∈dd l then dd l else a::dd l
theorem ars {w:Nat}:∀{l:List Nat},w∈dd l↔w∈l
 | []=>by simp [dd]
 | a::l=>by
  rw [dd];split
  ·rename_i h;rw [ars,List.mem_cons];constructor
   ·exact .inr
   ·rintro (rfl | h2)
    ·exact ars.1 h
    ·exact h2
  ·rw [List.mem_cons,List.mem_cons,ars]
theorem ai6:∀(l:List Nat),(dd l).Nodup
 | []=>by simp [dd]
 | a::l=>by
  rw [dd];split
  ·exact ai6 l
  ·rename_i h;exact List.nodup_cons.2 ⟨h,ai6 l⟩
theorem a56:∀(l:List Nat),(dd l).length≤l.length
 | []=>by simp [dd]
 | a::l=>by
  have:=a56 l;rw [dd];split<;>simp<;>omega
def ahb (L:List Pt) (r:Nat):List Nat:=dd (L.map (·.w r))
theorem adn {L:List Pt} {r w:Nat}:w∈ahb L r↔∃p∈L,p.w r=w:=by unfold ahb; rw [ars,zam]
def asI (ws:List Nat):List Int:=ws.map fun n:Nat=>(n:Int)
def ae (L:List Pt) (r:Nat):List Int:=xc (asI (ahb L r))
theorem axo {L:List Pt} {r:Nat} {es:List MapEntry} {c:Nat} (h:CM (cnt L r) es c):(es.map kI).Perm (asI (ahb L r)):=by
 obtain ⟨ws,h1,h2,h3⟩:=h.ex
 have e:es.map kI=asI (ws.map (·.1)):=by
  have:=congrArg (zan fun q:Value×Value=>match q.1 with | .int _ n=>n | _=>(0:Int)) h1.kv;simp only [List.map_map,Function.comp_def,ent] at this;unfold asI;rw [List.map_map];exact this
 rw [e];refine List.Perm.map _ ((List.perm_ext_iff_of_nodup h2 (ai6 _)).2 fun w=>?_);rw [show dd (L.map (·.w r))=ahb L r from rfl,adn,zam];constructor
 ·rintro ⟨a,ha,rfl⟩;have:=((h3 a.1 a.2).1 ha).2;unfold cnt at this;rw [List.countP_pos_iff] at this;obtain ⟨p,hp,e⟩:=this;exact ⟨p,hp,by simpa using e⟩
 ·rintro ⟨p,hp,rfl⟩;refine ⟨(p.w r,_),(h3 _ _).2 ⟨rfl,?_⟩,rfl⟩;unfold cnt;rw [List.countP_pos_iff];exact ⟨p,hp,by simp⟩
theorem aea (L:List Pt) (r:Nat):(ae L r).length≤L.length:=by
 unfold ae asI;rw [aoo,zak];exact Nat.le_trans (a56 _) (by simp)
theorem bhb {L:List Pt} {r:Nat} {es:List MapEntry} {c:Nat} (h:CM (cnt L r) es c):es.length=(ae L r).length:=by
 have:=(axo h).length_eq;unfold ae;rw [aoo,← this,zak]
section
variable {L:List Pt} {es:List MapEntry} {c:Nat} {ns:List (List Ky)} {ce:Nat→List MapEntry} {cc:Nat→Nat}
theorem a9n (h:StL L es c ns ce cc) (hl:L.length<50) (r:Nat) (hr:r<13) :
  a8 P0 69 [.ptr 1000000 0 0,int .i64 r] (stOs es c ns ce cc) (.own 1000016 0 0 (ae L r).length) (stOs es c ns ce cc++[z7 (ae L r)]):=by
 have hcm:=h.cm r hr;have hK:=bds hcm;have hlen:=bhb hcm;have hle:=aea L r;have hsrt:xc ((ce r).map kI)=ae L r:=atv (axo hcm);have hs:∀o∈stOs es c ns ce cc,imO (qt 16) o=o:=(SF L).shut ⟨es,c,ns,ce,cc,h,rfl⟩;by_cases hne:ce r=[]
 ·have h0:ae L r=[]:=List.length_eq_zero_iff.1 (by rw [← hlen,hne]; rfl);rw [h0];have key:=a2k (es:=es) (c:=c) (ns:=ns) (cc:=cc) hr hne;exact bcw (os:=stOs es c ns ce cc) (by simp [stOs]) hs key
 ·have key:=cells_some (es:=es) (c:=c) (ns:=ns) hr rfl rfl hK (by omega) hne;rw [hsrt,hlen] at key
  have:=bh6 (os:=stOs es c ns ce cc) (ys:=vu (ae L r)) (z:=.v (.int .u64 0)) (a3e _) (by simp [stOs]) hs (fun y hy=>by
   obtain ⟨n,_,rfl⟩:=zam.1 hy
   rfl) key
  rw [a3d] at this;exact this
end
theorem bdw (L:List Pt) (hl:L.length<50) (r:Nat) (hr:r<13):a8 P0 69 [.ptr 1000000 0 0,int .i64 r] [.abs (sT L)] (.own 1000001 0 0 (ae L r).length) [.abs (sT L),z7 (ae L r)]:=
 a1j (F:=SF L) (F':=SF L) rfl (ex:=[z7 (ae L r)]) (fun os h=>by
  obtain ⟨es,c,ns,ce,cc,h,rfl⟩:=h;exact ⟨_,⟨_,_,_,_,_,h,rfl⟩,a9n h hl r hr⟩) rfl (by
  intro o ho;simp at ho;subst ho;intro x hx;obtain ⟨n,_,rfl⟩:=zam.1 hx
  trivial) (by simp [v9])

def ajj:Mk P0 f37:={ x:=_ }
theorem amy:d5 37 2 ajj:=c8 func37
def tw (t:Til) (n:Int):Bool:=tch (ah n.toNat t.r.toNat) t.r.toNat (2^(30-t.z).toNat) t.x t.y
def v3 (L:List Pt) (t:Til):List Int:=(ae L t.r.toNat).filter (tw t)
theorem ar1 {L:List Pt} {r i:Nat} {n:Int} (h:(ae L r)[i]?=some n):∃p∈L,n=((p.w r:Nat):Int):=by
 have h1:=List.mem_of_getElem? h;unfold ae xc at h1;rw [List.mem_mergeSort] at h1;obtain ⟨w,hw,rfl⟩:=zam.1 h1;obtain ⟨p,hp,e⟩:=adn.1 hw;exact ⟨p,hp,by rw [e]⟩
theorem acj {ws:List Int} {i:Nat} {n:Int} (h:ws[i]?=some n) (z:RV):(qf ws).getD ((i:Int)).toNat z=.v (.int .u64 n):=by
 simp [List.getD,qf,h]
theorem adw {ws:List Int} {i:Nat} {n:Int} (h:ws[i]?=some n) (z:RV):(qf ws).getD (0+((i:Int)).toNat) z=.v (.int .u64 n):=by rw [zaa]; exact acj h z
theorem anj {C:List Int} {f:Int→Bool} {i:Nat} {n:Int} (h:C[i]?=some n):(C.take (i+1)).filter f=(C.take i).filter f++(if f n then [n] else []):=by
 rw [List.take_add_one,h,List.filter_append];simp only [Option.toList_some,List.filter_cons,List.filter_nil]
set_option maxHeartbeats 4000000 in
theorem vcells_t (L : List Pt) (hL : L.length < 50) (hok : ∀ p ∈ L, p.ok) (t : Til) (ht : t.ok) (hti : tis t = true) (hf : fine t = false) {res : AV} {ro : List Ob}
    (hres:(v3 L t=[]∧res=.tup [.nils 1 (.v (.int .u64 0)),int .i64 0]∧ro=[.abs (sT L)])∨(v3 L t≠[]∧res=.tup [.own 1000001 0 0 (v3 L t).length,int .i64 0]∧ro=[.abs (sT L),z7 (v3 L t)])) :
    a8 P0 37 [t.v,.ptr 1000000 0 0] [.abs (sT L)] res ro:=by
  refine amy rfl (by simp) ?_;have hb:0≤t.z∧t.z≤18∧0≤t.r∧t.r≤12∧0≤t.x∧t.x<2^t.z.toNat∧0≤t.y∧t.y<2^t.z.toNat:=by simpa [tis] using hti
  have hO:=bfv t ht;rw [hti,hf] at hO;simp only [if_true,Bool.false_eq_true,if_false] at hO;have f0:((0:Int) != 0)=false:=rfl
  push_cast [ajj,Til.v,zae,zad]
  refine b9 (as':=[t.v]) rfl ?_;refine a5 hO rfl trivial ?_
  push_cast [f0]
  refine b9 (as':=[t.v]) rfl ?_;refine a5 (axb t hti) rfl trivial ?_
  push_cast [bxv]
  obtain ⟨R,hR⟩:∃R:Nat,t.r=R:=⟨t.r.toNat,by omega⟩
  have hca:=bdw L hL R (by omega);rw [hR];have hcl:=aea L R;have hCat:=fun i n h=>ar1 (L:=L) (r:=R) (i:=i) (n:=n) h;have hsh:v3 L t=(ae L R).filter (tw t):=by unfold v3; rw [hR,zab]
  rw [hsh] at hres;generalize ae L R=C at *;refine a5 hca rfl ⟨rfl,trivial⟩ ?_
  push_cast [z7]
  obtain ⟨BX,hBX⟩:∃BX,bxv (t.x*2^(30-t.z).toNat) (t.y*2^(30-t.z).toNat) ((t.x+1)*2^(30-t.z).toNat) ((t.y+1)*2^(30-t.z).toNat)=.r BX:=⟨_,rfl⟩
  have hfn:xm P0 68=true:=rfl;have hmx:=j7;have hin:=ahh hti;have hs2:=yg (show 0≤t.z∧t.z≤18 by omega)
  have hfts:∀p∈L,a8 P0 68 [.r BX,cel R (ah (p.w R) R)] [] (bl (tw t ((p.w R:Nat):Int))) []:=fun p hp=>by
    have hpo:=hok p hp;have hk:=xi p.x p.y R hpo.2.1.1 hpo.2.1.2 (by omega);obtain ⟨c1,c2,c3,c4⟩:=xz R _ hk;have hwe:p.w R=ao R (i5 p.x p.y R):=rfl;have hz:ah (p.w R) R=i5 p.x p.y R:=by rw [hwe,c3]
    have hl:=awx p.x p.y R (by omega)
    have:=arn (i5 p.x p.y R) (R:Int) (by omega) (by rw [zab]; exact hk) (t.x*2^(30-t.z).toNat) (t.y*2^(30-t.z).toNat) ((t.x+1)*2^(30-t.z).toNat) ((t.y+1)*2^(30-t.z).toNat)
      (by rw [zab]; exact ad0 (by omega) hpo.2.1 hl) ⟨hin.1.1,by rw [Int.add_mul]; omega,hin.1.2⟩ ⟨hin.2.1,by rw [Int.add_mul]; omega,hin.2.2⟩
    rw [hBX] at this
    have e:tw t ((p.w R:Nat):Int)=aq (i5 p.x p.y R) R (3*(t.x*2^(30-t.z).toNat)) (3*(t.y*2^(30-t.z).toNat)) (3*((t.x+1)*2^(30-t.z).toNat)) (3*((t.y+1)*2^(30-t.z).toNat)):=by
      unfold tw tch;rw [zab,hR,zab,hz]
    rw [e,hz];rw [zab] at this;exact this
  refine run_loop [(26, false), (25, false), (24, false), (7, false), (8, false)] (fun vs pos los => ∃ i : Nat, i ≤ C.length ∧ pos = [.abs (sT L)] ∧
      ((C.take i).filter (tw t)=[]∧vs=[int .i64 i,int .i64 C.length,.own 2000000 0 0 C.length,.fn (.func 68) [.r BX] 1,.nils 1 (.v (.int .u64 0))]∧los=[z7 C] ∨
       (C.take i).filter (tw t)≠[]∧vs=[int .i64 i,int .i64 C.length,.own 2000000 0 0 C.length,.fn (.func 68) [.r BX] 1,.own 2000001 0 0 ((C.take i).filter (tw t)).length]∧los=[z7 C,z7 ((C.take i).filter (tw t))]))
    (fun vs _ _=>match vs with | .r (.v (.int _ j))::_=>(C.length-j).toNat | _=>0) rfl ?_ ?_
  · unfold bxv at hBX;cases hBX
    push_cast [z7]
    exact ⟨0,by omega,by simp⟩
  · rintro vs pos los ⟨i,hi,rfl,⟨h0,rfl,rfl⟩ | ⟨h0,rfl,rfl⟩⟩
    · have hFl:True:=trivial
      push_cast [z7]
      refine c7 (fun h=>?_) (fun h=>?_)
      · have hi':i<C.length:=by simpa using h
        obtain ⟨n,hn⟩:∃n,C[i]?=some n:=⟨C[i],by simp [hi']⟩
        obtain ⟨p,hp,rfl⟩:=hCat i n hn;have hpo:=hok p hp;have hwr:=Pt.w_res hpo (show R<13 by omega);have hic:=as8 (p.w R) hwr.2.2 hwr.1;rw [hwr.2.1] at hic;have wk:IntKind.i64.wrap ((i:Int)+1)=(i:Int)+1:=a7 (by omega);have hft:=hfts p hp;have htk:=anj (f:=tw t) hn
        push_cast [acj hn,adw hn,z7,abc,hfn]
        repeat refine And.intro (by first | decide | omega | exact fun _=>by decide | (simp +contextual; done) | kernel_rfl) ?_
        refine a5 hic rfl trivial ?_
        push_cast [cel,hfn,z7]
        refine b9 (as':=[.r BX,cel R (ah (p.w R) R)]) rfl ?_;refine a5 hft rfl trivial ?_
        push_cast [z7]
        refine c7 (fun hc=>?_) (fun hc=>?_)
        · rw [if_pos hc] at htk
          push_cast [wk,z7,abc]
          repeat refine And.intro (by first | decide | omega | exact fun _=>by decide | (simp +contextual; done) | kernel_rfl) ?_
          exact ⟨⟨i+1,by omega,.inr ⟨by rw [htk]; simp,by rw [htk,h0]; rfl,by rw [htk,h0]; rfl⟩⟩,by omega⟩
        · rw [if_neg (by rw [hc]; simp)] at htk
          push_cast [wk,z7,abc]
          exact ⟨⟨i+1,by omega,.inl ⟨by rw [htk,h0]; rfl,by simp⟩⟩,by omega⟩
      · have hi2:i=C.length:=by
          have:¬i<C.length:=by simpa using h
          omega
        rw [hi2,zat] at h0;rcases hres with ⟨g0,rfl,rfl⟩ | ⟨g0,rfl,rfl⟩
        · push_cast
        · exact absurd h0 g0
    · have hFl:((C.take i).filter (tw t)).length≤50:=Nat.le_trans (List.length_filter_le ..) (by simp; omega)
      push_cast [z7]
      refine c7 (fun h=>?_) (fun h=>?_)
      · have hi':i<C.length:=by simpa using h
        obtain ⟨n,hn⟩:∃n,C[i]?=some n:=⟨C[i],by simp [hi']⟩
        obtain ⟨p,hp,rfl⟩:=hCat i n hn;have hpo:=hok p hp;have hwr:=Pt.w_res hpo (show R<13 by omega);have hic:=as8 (p.w R) hwr.2.2 hwr.1;rw [hwr.2.1] at hic;have wk:IntKind.i64.wrap ((i:Int)+1)=(i:Int)+1:=a7 (by omega);have hft:=hfts p hp;have htk:=anj (f:=tw t) hn
        push_cast [acj hn,adw hn,z7,abc,hfn]
        repeat refine And.intro (by first | decide | omega | exact fun _=>by decide | (simp +contextual; done) | kernel_rfl) ?_
        refine a5 hic rfl trivial ?_
        push_cast [cel,hfn,z7]
        refine b9 (as':=[.r BX,cel R (ah (p.w R) R)]) rfl ?_;refine a5 hft rfl trivial ?_
        push_cast [z7]
        refine c7 (fun hc=>?_) (fun hc=>?_)
        · rw [if_pos hc] at htk
          push_cast [wk,z7,abc]
          repeat refine And.intro (by first | decide | omega | exact fun _=>by decide | (simp +contextual; done) | kernel_rfl) ?_
          exact ⟨⟨i+1,by omega,.inr ⟨by rw [htk]; simp,by rw [htk]; simp,by rw [htk]; simp only [qf,z7,List.map_append]; rw [zaq (by simp)]; rfl⟩⟩,by omega⟩
        · rw [if_neg (by rw [hc]; simp)] at htk
          push_cast [wk,z7,abc]
          exact ⟨⟨i+1,by omega,.inr ⟨by rw [htk]; simpa using h0,by rw [htk]; simp,by rw [htk]; simp [qf]⟩⟩,by omega⟩
      · have hi2:i=C.length:=by
          have:¬i<C.length:=by simpa using h
          omega
        rw [hi2,zat] at h0;rw [hi2,zat];rcases hres with ⟨g0,rfl,rfl⟩ | ⟨g0,rfl,rfl⟩
        · exact absurd g0 h0
        · push_cast [z7]


section
variable {P:Program} {f:FuncId}
theorem a8n {args:List AV} {po os:List Ob} {sz:Nat} {z:RV} {y:Value} (hpo:po.length≤os.length) (hsh:∀o∈os,imO (qt os.length) o=o)
  (h:a8 P f args po (.tup [.nils sz z,.r (.v y)]) os):a8 P f args po (.tup [.own (1000000+os.length) 0 0 0,.r (.v y)]) (os++[.row sz z true true []]):=by
 intro w cargs ρ B hgl hB hM hcs hargs;refine (h w cargs ρ B hgl hB hM hcs hargs).mono ?_;rintro e w' ⟨c,ρ',rfl,hM',hr⟩
 obtain ⟨cs,rfl,hcl,hcr⟩:∃cs:Array Value,c=.tuple cs∧cs.size=2∧∀(i:Nat) (x:AV) (d:Value),([.nils sz z,.r (.v y)]:List AV)[i]?=some x→cs[i]?=some d→RelA w' (g8 B (ob0 os) ρ' w') (ob0 os) ρ' x d:=by
  cases hr with
  | tup _ cs hl h=>exact ⟨cs,rfl,hl,h⟩
 have hin:∀(x:Ob) (i:Nat) (o:Ob),os[i]?=some o→ob0 (os++[x]) (1000000+i)=some (0,o):=fun x i o ho=>i8 (by rw [zbh (List.getElem?_eq_some_iff.1 ho).1]; exact ho);have hla:∀x:Ob,ob0 (os++[x]) (1000000+os.length)=some (0,x):=fun x=>i8 (by simp)
 have hat:∀(y:Ob) (id:Nat) (x:Nat×Ob),ob0 (os++[y]) id=some x→(∃i o,i<os.length∧id=1000000+i∧os[i]?=some o∧x=(0,o))∨(id=1000000+os.length∧x=(0,y)):=fun y id x hx=>by
  obtain ⟨i,hi,rfl,ho,hv⟩:=bn hx;by_cases hlt:i<os.length
  ·rw [zbh hlt] at ho;exact .inl ⟨i,x.2,hlt,rfl,ho,by rw [← hv]⟩
  ·have:i=os.length:=by simp at hi; omega
   subst this;rw [List.getElem?_append_right (zah _)] at ho;simp at ho;exact .inr ⟨rfl,by rw [ho,← hv]⟩
 obtain ⟨ρ2,r1,r2,r3,r4⟩:∃ρ2:Pl→Option Nat,(∀i,i<os.length→ρ2 (.o (1000000+i))=ρ' (.o (1000000+i)))∧(∀i j,i<os.length→ρ2 (.s (1000000+i) j)=ρ' (.s (1000000+i) j))∧ρ2 (.o (1000000+os.length))=none∧(∀j,ρ2 (.s (1000000+os.length) j)=none):=
  ⟨fun | .o i=>if i=1000000+os.length then none else ρ' (.o i) | .s i j=>if i=1000000+os.length then none else ρ' (.s i j),fun i hi=>by simp only; rw [if_neg (by omega)],fun i j hi=>by simp only; rw [if_neg (by omega)],by simp,by simp⟩
 have hft:∀(id:Nat) (x:Nat×Ob) (b:Nat),ob0 (os++[Ob.row sz z true true []]) id=some x→foot ρ2 id x.2 b→ob0 os id=some x∧foot ρ' id x.2 b:=fun id x b hx hf=>by
  rcases hat _ id x hx with ⟨i,o,hi,rfl,ho,rfl⟩ | ⟨rfl,rfl⟩
  ·refine ⟨i8 ho,?_⟩;rcases hf with q | ⟨ha,j,q⟩
   ·exact .inl (by rw [← r1 i hi]; exact q)
   ·exact .inr ⟨ha,j,by rw [← r2 i j hi]; exact q⟩
  ·rcases hf with q | ⟨ha,j,q⟩
   ·rw [r3] at q; cases q
   ·cases ha
 have hfree:∀c,g8 B (ob0 os) ρ' w' c→g8 B (ob0 (os++[Ob.row sz z true true []])) ρ2 w' c:=fun c hc=>⟨hc.1,fun ⟨id,v,o,g1,g2,g3⟩=>by
  obtain ⟨q1,q2⟩:=hft id _ c g1 g3
  exact hc.2.1 ⟨id,v,o,q1,g2,q2⟩,hc.2.2⟩
 have hF:adf (ob0 os) (ob0 (os++[Ob.row sz z true true []])) ρ' ρ2 (qt os.length):=fun id ver j u hf=>by
  unfold qt at hf;split at hf
  ·rename_i hc;cases hf;obtain ⟨rfl,hc1,hc2⟩:=hc;obtain ⟨q,rfl⟩:∃q,id=1000000+q:=⟨id-1000000,by omega⟩
   have hq:os[q]?=some (os[q]'(by omega)):=by simp [show q<os.length by omega]
   exact ⟨_,_,i8 hq,hin _ q _ hq,r1 q (by omega),y7.refl _⟩
  ·cases hf
 refine ⟨_,ρ2,rfl,⟨fun id v o hx=>?_,fun id id' x x' b hx hx' hf hf'=>?_,hM'.keeps,fun id v o b hx hf=>?_,fun id b hp=>?_⟩,?_⟩
 ·rcases hat _ id _ hx with ⟨i,o',hi,rfl,ho,hx2⟩ | ⟨rfl,hx2⟩
  ·cases hx2;have:=(hM'.obj (1000000+i) 0 o (i8 ho)).im hfree hF (i:=1000000+i) (r1 i hi) (fun j=>r2 i j hi)
   rwa [hsh o (List.mem_of_getElem? ho)] at this
  ·cases hx2;exact .inl ⟨rfl,r3,rfl⟩
 ·obtain ⟨q1,q2⟩:=hft id x b hx hf;obtain ⟨q1',q2'⟩:=hft id' x' b hx' hf';exact hM'.inj id id' x x' b q1 q1' q2 q2'
 ·obtain ⟨q1,q2⟩:=hft id _ b hx hf;exact hM'.own id v o b q1 q2
 ·obtain ⟨q1,o,q2,q3⟩:=hM'.pin id b hp;obtain ⟨i,hi,rfl,ho,_⟩:=bn q2;exact ⟨by rw [r1 i hi]; exact q1,o,hin _ i o ho,q3⟩
 ·refine .tup _ cs hcl fun i x d hx hd=>?_
  match i,hx with
  | 0,hx=>
   simp at hx;subst hx;have h0:=hcr 0 _ d rfl hd;cases h0;exact .own _ _ _ _ _ rfl ⟨0,_,hla _,zah _,fun _=>⟨none,0,rfl,zah _,by simp,by simp,by simp⟩⟩
  | 1,hx=>
   simp at hx;subst hx;have h0:=hcr 1 _ d rfl hd;cases h0 with
   | r h0=>exact .r (h0.mono fun b hb=>⟨hfree b hb,rfl⟩)
end
theorem a66 (L:List Pt) (hL:L.length<50) (hok:∀p∈L,p.ok) (t:Til) (ht:t.ok) (hti:tis t=true) (hf:fine t=false) :
  a8 P0 37 [t.v,.ptr 1000000 0 0] [.abs (sT L)] (.tup [.own 1000001 0 0 (v3 L t).length,int .i64 0]) [.abs (sT L),z7 (v3 L t)]:=by
 by_cases h:v3 L t=[]
 ·have:=a8n (os:=[.abs (sT L)]) (by simp) (by simp [imO]) (vcells_t L hL hok t ht hti hf (.inl ⟨h,rfl,rfl⟩));rw [h];exact this
 ·exact vcells_t L hL hok t ht hti hf (.inr ⟨h,rfl,rfl⟩)


open Go.RowKit
def zig (n:Int):Int:=if 0≤n then 2*n else -2*n-1
theorem avc (x:BitVec 64):(x ^^^ zaf 64 18446744073709551615).toNat=18446744073709551615-x.toNat:=by
 have h:zaf 64 18446744073709551615=BitVec.allOnes 64:=by decide
 rw [h,BitVec.xor_allOnes,BitVec.toNat_not]
theorem a61 (n:Int) (h1:-9223372036854775808≤n) (h2:n≤9223372036854775807) :
  bits BinOp.xor IntKind.u64 (IntKind.u64.wrap (wrap64 (n*2))) (IntKind.u64.wrap (n/9223372036854775808))=zig n:=by
 have e:IntKind.u64.wrap (wrap64 (n*2))=(n*2)%18446744073709551616:=by
  rw [IntKind.wrap_u64]; unfold wrap64; omega
 rw [e];unfold zig;by_cases h:0≤n
 ·have e2:n/9223372036854775808=0:=by omega
  rw [e2,if_pos h,u64_xor _ _ (by omega) (by omega) (by decide) (by decide)];have e3:(IntKind.u64.wrap 0).toNat=0:=by decide
  rw [e3,Nat.xor_zero];omega
 ·have e2:n/9223372036854775808=-1:=by omega
  have e3:IntKind.u64.wrap (-1)=18446744073709551615:=by decide
  rw [e2,if_neg h,e3];show IntKind.u64.wrap ((zaf 64 _ ^^^ zaf 64 18446744073709551615).toNat:Int) = _;rw [avc,zba,IntKind.wrap_u64];omega
def vd:Nat→Nat→List UInt8
 | 0,_=>[]
 | f+1,n=>if n<128 then [zal n] else zal (n%128+128)::vd f (n/128)
def m7 (n:Nat):List UInt8:=vd 10 n
theorem a68 (f:Nat):∀n,(vd f n).length≤f:=by
 induction f with
 | zero=>intro n; exact zah _
 | succ f ih=>
  intro n;rw [vd];split
  ·simp
  ·have:=ih (n/128); simp; omega
theorem iq (n:Nat):(m7 n).length≤10:=a68 10 n
theorem aod {f n:Nat} (h:127<n) (hf:n<128^f):∃f',f=f'+1∧1≤f'∧n/128<128^f'∧vd f n=zal (n%128+128)::vd f' (n/128):=by
 match f with
 | 0=>simp at hf; omega
 | f'+1=>
  refine ⟨f',rfl,?_,?_,?_⟩
  ·match f' with
   | 0=>simp at hf; omega
   | k+1=>omega
  ·rw [Nat.pow_succ] at hf;omega
  ·rw [vd,if_neg (by omega)]
theorem aic {f n:Nat} (h:n≤127) (hf:1≤f):vd f n=[zal n]:=by
 match f with
 | f'+1=>rw [vd,if_pos (by omega)]
def fh:Nat→Nat→List UInt8→Nat×Nat
 | _,_,[]=>(0,0)
 | i,n,c::t=>
  if (i=9∧1<c.toNat)∨(0<i∧c.toNat=0) then (0,0)
  else if c.toNat<128 then (n+c.toNat%128*2^(7*i),i+1) else fh (i+1) (n+c.toNat%128*2^(7*i)) t
def take (l:List UInt8):Nat×Nat:=fh 0 0 l
theorem a00 (k m:Nat) (bs:List UInt8) (h:bs.length≤k):fh k m (bs.drop k)=(0,0):=by
 rw [List.drop_eq_nil_of_le h]; rfl
theorem a7g {k m b:Nat} {bs:List UInt8} (h:k<bs.length) (hb:bs[k].toNat=b) (hc:(k=9∧1<b)∨(0<k∧b=0)):fh k m (bs.drop k)=(0,0):=by
 rw [zbi h,fh,hb,if_pos hc]
theorem a3p {k m b:Nat} {bs:List UInt8} (h:k<bs.length) (hb:bs[k].toNat=b) (hc:¬((k=9∧1<b)∨(0<k∧b=0))) (h2:b<128) :
  fh k m (bs.drop k)=(m+b%128*2^(7*k),k+1):=by
 rw [zbi h,fh,hb,if_neg hc,if_pos h2]
theorem a7f {k m b:Nat} {bs:List UInt8} (h:k<bs.length) (hb:bs[k].toNat=b) (hc:¬((k=9∧1<b)∨(0<k∧b=0))) (h2:¬b<128) :
  fh k m (bs.drop k)=fh (k+1) (m+b%128*2^(7*k)) (bs.drop (k+1)):=by
 rw [zbi h,fh,hb,if_neg hc,if_neg h2]
theorem a3n {k m b:Nat} (hk:k≤9) (hm:m<2^(7*k)) (hb:b<256) (h9:k=9→b≤1) :
  bits BinOp.or IntKind.u64 (m:Int) (IntKind.u64.wrap (IntKind.u64.wrap (bits BinOp.and IntKind.u8 (b:Int) 127)*2^(7*k)))=((m+b%128*2^(7*k):Nat):Int):=by
 have e1:bits BinOp.and IntKind.u8 (b:Int) 127=((b%128:Nat):Int):=by
  have:=u8_and_nat b 127 hb (by decide);rw [nat_mask7] at this;exact this
 have hp:2^(7*k)≤2^63:=zbb (by decide) (by omega)
 have hq:b%128*2^(7*k)≤2^63:=by
  by_cases h:k=9
  ·have:=h9 h;exact Nat.le_trans (zbj _ (show b%128≤1 by omega)) (by omega)
  ·have h8:2^(7*k)≤2^56:=zbb (by decide) (by omega);exact Nat.le_trans (Nat.mul_le_mul (show b%128≤127 by omega) h8) (by decide)
 have e2:IntKind.u64.wrap ((b%128:Nat):Int)=((b%128:Nat):Int):=by rw [IntKind.wrap_u64]; omega
 have e3:IntKind.u64.wrap (((b%128:Nat):Int)*2^(7*k))=((b%128*2^(7*k):Nat):Int):=by
  have e4:((b%128:Nat):Int)*2^(7*k)=((b%128*2^(7*k):Nat):Int):=by simp
  rw [e4,IntKind.wrap_u64];generalize b%128*2^(7*k)=x at *;omega
 rw [e1,e2,e3,u64_or_nat _ _ (by omega) (by omega)];congr 1;rw [Nat.or_comm,nat_join (7*k) _ _ (Nat.mul_mod_left _ _) hm,Nat.add_comm]
theorem afu {k m b:Nat} (hm:m<2^(7*k)):m+b%128*2^(7*k)<2^(7*(k+1)):=by
 have h:b%128*2^(7*k)≤127*2^(7*k):=zbj _ (by omega);rw [show 7*(k+1)=7*k+7 from by omega,Nat.pow_add];omega
theorem ax8:∀(l:List UInt8) (i n:Nat),i≤9→n<2^(7*i)→(fh i n l).1<18446744073709551616∧(fh i n l).2≤10∧((fh i n l).2=0∨(fh i n l).2≤i+l.length):=by
 intro l
 induction l with
 | nil=>intro i n _ _; simp [fh]
 | cons c t ih=>
  intro i n hi hn;have hc:=c.toNat_lt;rw [fh];split
  ·simp
  ·rename_i h1;split
   ·rename_i h2;refine ⟨?_,by simp; omega,by simp⟩;have:=afu (k:=i) (m:=n) (b:=c.toNat) hn;by_cases h9:i=9
    ·subst h9;have h3:c.toNat≤1:=by omega
     have h4:c.toNat%128*2^(7*9)≤1*2^(7*9):=zbj _ (by omega);simp only at h4 ⊢;omega
    ·have:2^(7*(i+1))≤2^63:=zbb (by decide) (by omega);simp only;omega
   ·rename_i h2;have h9:i≠9:=by omega
    obtain ⟨a,b,d⟩:=ih (i+1) _ (by omega) (afu (k:=i) (m:=n) (b:=c.toNat) hn);refine ⟨a,b,?_⟩;simp only [zae];omega
theorem jr (l:List UInt8):(take l).1<18446744073709551616∧(take l).2≤10∧(take l).2≤l.length:=by
 obtain ⟨a,b,c⟩:=ax8 l 0 0 (by omega) (by decide);unfold take;exact ⟨a,b,by omega⟩
abbrev Fld:=Nat×Nat×Nat×List UInt8
def cz (l:List UInt8):Option (Fld×Nat):=
 if (take l).2=0∨(take l).1/8<1∨1000<(take l).1/8 then none
 else if (take (l.drop (take l).2)).2=0 then none
 else if (take l).1%8=0 then some (((take l).1/8,0,(take (l.drop (take l).2)).1,[]),(take l).2+(take (l.drop (take l).2)).2)
 else if (take l).1%8=2∧(take (l.drop (take l).2)).1≤l.length-(take l).2-(take (l.drop (take l).2)).2 then
  some (((take l).1/8,2,0,(l.drop ((take l).2+(take (l.drop (take l).2)).2)).take (take (l.drop (take l).2)).1),(take l).2+(take (l.drop (take l).2)).2+(take (l.drop (take l).2)).1)
 else none
def ff:Nat→List UInt8→Option (List Nat)
 | _,[]=>some []
 | 0,_::_=>none
 | f+1,c::l=>if (take (c::l)).2=0 then none else (ff f ((c::l).drop (take (c::l)).2)).map ((take (c::l)).1 :: ·)
def jp (l:List UInt8):Option (List Nat):=ff l.length l
def gk:Nat→List UInt8→Option (List Fld)
 | _,[]=>some []
 | 0,_::_=>none
 | f+1,c::l=>match cz (c::l) with
  | none=>none
  | some (x,k)=>(gk f ((c::l).drop k)).map (x :: ·)
def ar (l:List UInt8):Option (List Fld):=gk l.length l
theorem nf (f:Nat):ff f []=some []:=by cases f<;>rfl
theorem aoc {f:Nat} {l:List UInt8} (h:0<l.length) (h2:(take l).2=0):ff f l=none:=by
 match f,l,h with
 | 0,c::l,_=>rfl
 | f+1,c::l,_=>rw [ff,if_pos h2]
theorem aia {f n k:Nat} {l:List UInt8} (h:0<l.length) (hf:l.length≤f) (h1:take l=(n,k)) (h2:k≠0):∃f',f=f'+1∧ff f l=(ff f' (l.drop k)).map (n :: ·):=by
 match f,l,h with
 | 0,c::l,_=>simp at hf
 | f+1,c::l,_=>exact ⟨f,rfl,by rw [ff,h1,if_neg h2]⟩
theorem ni (f:Nat):gk f []=some []:=by cases f<;>rfl
theorem aot {f:Nat} {l:List UInt8} (h:0<l.length) (h2:cz l=none):gk f l=none:=by
 match f,l,h with
 | 0,c::l,_=>rfl
 | f+1,c::l,_=>rw [gk,h2]
theorem aip {f k:Nat} {x:Fld} {l:List UInt8} (h:0<l.length) (hf:l.length≤f) (h1:cz l=some (x,k)):∃f',f=f'+1∧gk f l=(gk f' (l.drop k)).map (x :: ·):=by
 match f,l,h with
 | 0,c::l,_=>simp at hf
 | f+1,c::l,_=>exact ⟨f,rfl,by rw [gk,h1]⟩
theorem zn {l:List UInt8} {x:Fld} {k:Nat} (h:cz l=some (x,k)):2≤k∧k≤l.length:=by
 obtain ⟨_,_,t3⟩:=jr l;obtain ⟨_,_,s3⟩:=jr (l.drop (take l).2);rw [zau] at s3;unfold cz at h;split at h
 ·cases h
 ·split at h
  ·cases h
  ·split at h
   ·simp only [Option.some.injEq,Prod.mk.injEq] at h;omega
   ·split at h
    ·simp only [Option.some.injEq,Prod.mk.injEq] at h;omega
    ·cases h
theorem adj {n:Nat} (h:n<256):(zal n).toNat=n:=by simp; omega
theorem a3o:∀(f i n m:Nat) (rest:List UInt8),1≤f→i≤9→n<128^f→(0<i→0<n)→m<2^(7*i)→m+n*2^(7*i)<18446744073709551616 →
  fh i m (vd f n++rest)=(m+n*2^(7*i),i+(vd f n).length):=by
 intro f
 induction f with
 | zero=>intro i n m rest h; omega
 | succ f ih=>
  intro i n m rest _ hi hn h0 hm hb
  have h9:i=9→n≤1:=by
   rintro rfl;rw [show 2^(7*9)=9223372036854775808 from by decide] at hb;omega
  rw [vd];split
  ·rename_i hs;rw [List.singleton_append,fh,adj (by omega),if_neg (by omega),if_pos hs,Nat.mod_eq_of_lt hs]
   rfl
  ·rename_i hs;have hi9:i≠9:=fun h=>by have:=h9 h; omega
   have e:(zal (n%128+128)).toNat=n%128+128:=adj (by omega);have e2:(n%128+128)%128=n%128:=by omega
   rw [List.cons_append,fh,e,if_neg (by omega),if_neg (by omega),e2]
   have hsum:m+n%128*2^(7*i)+n/128*2^(7*(i+1))=m+n*2^(7*i):=by
    rw [show 7*(i+1)=7*i+7 from by omega,Nat.pow_add];generalize 2^(7*i)=p;have:n/128*(p*2^7)=(n/128*128)*p:=by rw [Nat.mul_comm p,← Nat.mul_assoc]
    rw [this,Nat.add_assoc,← Nat.add_mul];congr 2;omega
   have hf:1≤f:=by
    match f with
    | 0=>simp at hn; omega
    | k+1=>omega
   rw [ih (i+1) (n/128) _ rest hf (by omega) (by rw [Nat.pow_succ] at hn; omega) (by omega) (afu hm) (by rw [hsum]; exact hb),hsum];simp;omega
theorem aij (n:Nat) (rest:List UInt8) (h:n<18446744073709551616):take (m7 n++rest)=(n,(m7 n).length):=by
 unfold take m7;rw [a3o 10 0 n 0 rest (by omega) (by omega) (Nat.lt_of_lt_of_le h (by decide)) (by omega) (by decide) (by simpa using h)];simp
theorem a67 (f n:Nat) (h:1≤f):0<(vd f n).length:=by
 match f with
 | f+1=>rw [vd]; split<;>simp
theorem aib (n:Nat):0<(m7 n).length:=a67 10 n (by omega)
theorem a0s {l:List UInt8} {n k:Nat} (h:0<l.length) (h1:take l=(n,k)) (h2:k≠0):jp l=(ff (l.length-1) (l.drop k)).map (n :: ·):=by
 obtain ⟨f',hf,e⟩:=aia h (zah _) h1 h2;unfold jp;rw [e];congr 1;congr 1;omega

open Go.RowKit
def bgu:Nat→Nat→Nat
 | 0,_=>0
 | f+1,m=>if m=0 then 0 else 1+bgu f (m/128)

def at9:Mk P0 f102:={ x:=_ }
theorem auz:d5 102 1 at9:=c8 func102
def aqp:Mk P0 f101:={ x:=_ }
theorem asl:d5 101 1 aqp:=c8 func101
def vk:Mk P0 f103:={ x:=_ }
theorem yk:d5 103 2 vk:=c8 func103
def aqr:Mk P0 f31:={ x:=_ }
theorem asn:d5 31 1 aqr:=c8 func31
def aqs:Mk P0 f33:={ x:=_ }
theorem aso:d5 33 1 aqs:=c8 func33
def aqw:Mk P0 f55:={ x:=_ }
theorem asp:d5 55 3 aqw:=c8 func55
def aku:Mk P0 f79:={ x:=_ }
theorem aox:d5 79 3 aku:=c8 func79
def ant:Mk P0 f56:={ x:=_ }
theorem aqv:d5 56 3 ant:=c8 func56
def anq:Mk P0 f189:={ x:=_ }
theorem aqo:d5 189 1 anq:=c8 func189
def anr:Mk P0 f148:={ x:=_ }
theorem aqt:d5 148 1 anr:=c8 func148
def aqq:Mk P0 f147:={ x:=_ }
theorem asm:d5 147 1 aqq:=c8 func147
def ans:Mk P0 f89:={ x:=_ }
theorem aqu:d5 89 1 ans:=c8 func89
def okB (f:Int):Bool:=decide (1≤f∧f≤1000)
theorem bau (f:Int):a8 P0 102 [int .i64 f] [] (bl (okB f)) []:=by
 refine auz rfl (by decide) ?_
 push_cast [at9,zad]
 repeat refine And.intro (by simp +contextual) ?_
 refine la ?_;simp [okB]
theorem bak (l:List UInt8) (hl:l.length≤140737488355328):a8 P0 101 [sb l] [] (.ptr 1000000 0 0) [.box [.own 1000001 0 0 l.length],qg l]:=by
 refine asl rfl (by decide) ?_
 push_cast [aqp,zad]
 have:=j7;refine ⟨by simp,by omega,by rw [zaa]⟩
theorem bio:∀x:Fin 128,(zaf 8 (x.val:Int) ||| zaf 8 128).toNat=x.val+128:=by decide +kernel
theorem ak3 (U:Int) (h0:0≤U) (h1:U<18446744073709551616) :
  RV.v (.int .u8 (IntKind.u8.wrap ((zaf IntKind.u8.bits (IntKind.u8.wrap (IntKind.u64.wrap ((zaf IntKind.u64.bits U &&& zaf IntKind.u64.bits 127).toNat))) ||| zaf IntKind.u8.bits 128).toNat)))=by8 (zal (U.toNat%128+128)):=by
 rw [ajf U 127 7 (by decide) (by decide) h0 h1,IntKind.wrap_u8 (U%2^7)];have e:U%2^7%256=((U.toNat%128:Nat):Int):=by omega
 have:=bio ⟨U.toNat%128,Nat.mod_lt _ (by decide)⟩;simp only at this;rw [e,show IntKind.u8.bits=8 from rfl,this,IntKind.wrap_u8];simp only [by8];congr 2
theorem ak7 (U:Int) (h0:0≤U) (h1:U≤127):RV.v (.int .u8 (IntKind.u8.wrap U))=by8 (zal U.toNat):=by
 rw [IntKind.wrap_u8];simp only [by8];congr 2;simp;omega
theorem wvar_t (l : List UInt8) (n : Int) (n0 : 0 ≤ n) (hn : n < 18446744073709551616) (hl : l.length ≤ 140000000000000) :
    a8 P0 103 [.ptr 1000000 0 0,int .u64 n] [.box [.own 1000001 0 0 l.length],qg l] (.tup []) [.box [.own 1000001 0 0 (l++m7 n.toNat).length],qg (l++m7 n.toNat)]:=by
  refine yk rfl (by simp) ?_;simp only [vk,push_cast,↓reduceIte,reduceCtorEq,zB,zE,zA,zS,zL,zD,zM];have hmax:=j7
  refine run_loop [(0,false),(1,false)] (fun vs pos los=>∃(U:Int) (f:Nat) (r:List UInt8),0≤U∧U<18446744073709551616∧1≤f∧f≤10∧U.toNat<128^f∧r++vd f U.toNat=l++m7 n.toNat ∧
    vs=[.ptr 1000000 0 0,int .u64 U]∧pos=[.box [.own 1000001 0 0 r.length],qg r]∧los=[])
    (fun vs _ _=>match vs with | [_,.r (.v (.int _ j))]=>j.toNat | _=>0) rfl ?_ ?_
  · simp only [push_cast,↓reduceIte,reduceCtorEq,zB,zE,zA,zS,zL,zD,zM];exact ⟨n,10,l,n0,hn,by decide,by decide,by omega,rfl,rfl,rfl⟩
  · rintro vs pos los ⟨U,f,r,U0,U1,f1,f10,Uf,hr,rfl,rfl,rfl⟩
    have hrl:r.length≤l.length+10:=by
      have h1:=congrArg zay hr;have h2:=iq n.toNat;rw [zai,zai] at h1;omega
    simp only [push_cast,↓reduceIte,reduceCtorEq,zB,zE,zA,zS,zL,zD,zM];refine c7 (fun h=>?_) (fun h=>?_)
    · have h1:127<U:=by simpa using h
      obtain ⟨f',rfl,hf',hUf,hv⟩:=aod (f:=f) (n:=U.toNat) (by omega) Uf;have hs:U.fdiv (2^min (zap 7) IntKind.u64.bits)=U/128:=au2 U 7 (by decide);have hU:(U/128).toNat=U.toNat/128:=by omega
      simp only [hs,push_cast,↓reduceIte,reduceCtorEq,zB,zE,zA,zS,zL,zD,zM];rw [ak3 U U0 U1];refine ⟨by simp,by omega,by omega,⟨U/128,f',r++[zal (U.toNat%128+128)],by omega,by omega,hf',by omega,by rw [hU]; exact hUf,?_,rfl,by simp⟩,by omega⟩;rw [← hr,hv,hU,zaw]; rfl
    · have h1 : U ≤ 127 := by have : ¬ (U > 127) := by simpa using h
                              omega
      have hv:=aic (f:=f) (n:=U.toNat) (by omega) f1;rw [hv] at hr;simp only [← hr,push_cast,↓reduceIte,reduceCtorEq,zB,zE,zA,zS,zL,zD,zM];rw [ak7 U U0 h1]
      have e:r.length+1=l.length+(m7 n.toNat).length:=by
        have:=congrArg zay hr;simpa using this
      refine ⟨by simp,by omega,?_⟩;rw [e];simp

open Go Go.RowKit
theorem wvarN_t (n : Int) (n0 : 0 ≤ n) (hn : n < 18446744073709551616) :
    a8 P0 103 [.ptr 1000000 0 0,int .u64 n] [.box [.nils 1 (.v (.int .u8 0))]] (.tup []) [.box [.own 1000001 0 0 (m7 n.toNat).length],qg (m7 n.toNat)]:=by
  refine yk rfl (by simp) ?_;simp only [vk,push_cast,↓reduceIte,reduceCtorEq,zB,zE,zA,zS,zL,zD,zM];have hmax:=j7
  refine run_loop [(0,false),(1,false)] (fun vs pos los=>∃(U:Int) (f:Nat) (r:List UInt8),0≤U∧U<18446744073709551616∧1≤f∧f≤10∧U.toNat<128^f∧r++vd f U.toNat=m7 n.toNat ∧
    vs=[.ptr 1000000 0 0,int .u64 U]∧((r=[]∧pos=[.box [.nils 1 (.v (.int .u8 0))]]∧los=[])∨(pos=[.box [.own 2000000 0 0 r.length]]∧los=[qg r])))
    (fun vs _ _=>match vs with | [_,.r (.v (.int _ j))]=>j.toNat | _=>0) rfl ?_ ?_
  · simp only [push_cast,↓reduceIte,reduceCtorEq,zB,zE,zA,zS,zL,zD,zM];exact ⟨n,10,[],n0,hn,by decide,by decide,by omega,rfl,rfl,.inl rfl⟩
  · rintro vs pos los ⟨U,f,r,U0,U1,f1,f10,Uf,hr,rfl,hc⟩
    have hrl:r.length≤10:=by
      have h1:=congrArg zay hr;have h2:=iq n.toNat;rw [zai] at h1;omega
    have hs:U.fdiv (2^min (zap 7) IntKind.u64.bits)=U/128:=au2 U 7 (by decide);have hU:(U/128).toNat=U.toNat/128:=by omega
    rcases hc with ⟨rfl,rfl,rfl⟩ | ⟨rfl,rfl⟩
    · simp only [push_cast,↓reduceIte,reduceCtorEq,zB,zE,zA,zS,zL,zD,zM];refine c7 (fun h=>?_) (fun h=>?_)
      · have h1:127<U:=by simpa using h
        obtain ⟨f',rfl,hf',hUf,hv⟩:=aod (f:=f) (n:=U.toNat) (by omega) Uf;simp only [hs,push_cast,↓reduceIte,reduceCtorEq,zB,zE,zA,zS,zL,zD,zM];rw [ak3 U U0 U1];refine ⟨by simp,by omega,by omega,⟨U/128,f',[zal (U.toNat%128+128)],by omega,by omega,hf',by omega,by rw [hU]; exact hUf,?_,rfl,.inr ⟨rfl,rfl⟩⟩,by omega⟩;rw [← hr,hv,hU]; rfl
      · have h1 : U ≤ 127 := by have : ¬ (U > 127) := by simpa using h
                                omega
        have hv:=aic (f:=f) (n:=U.toNat) (by omega) f1;rw [hv] at hr;simp only [← hr,push_cast,↓reduceIte,reduceCtorEq,zB,zE,zA,zS,zL,zD,zM];rw [ak7 U U0 h1];refine ⟨by simp,by omega,?_⟩;simp
    · simp only [push_cast,↓reduceIte,reduceCtorEq,zB,zE,zA,zS,zL,zD,zM];refine c7 (fun h=>?_) (fun h=>?_)
      · have h1:127<U:=by simpa using h
        obtain ⟨f',rfl,hf',hUf,hv⟩:=aod (f:=f) (n:=U.toNat) (by omega) Uf;simp only [hs,push_cast,↓reduceIte,reduceCtorEq,zB,zE,zA,zS,zL,zD,zM];rw [ak3 U U0 U1];refine ⟨by simp,by omega,by omega,⟨U/128,f',r++[zal (U.toNat%128+128)],by omega,by omega,hf',by omega,by rw [hU]; exact hUf,?_,rfl,.inr ⟨by simp,by simp⟩⟩,by omega⟩;rw [← hr,hv,hU,zaw]; rfl
      · have h1 : U ≤ 127 := by have : ¬ (U > 127) := by simpa using h
                                omega
        have hv:=aic (f:=f) (n:=U.toNat) (by omega) f1;rw [hv] at hr;simp only [← hr,push_cast,↓reduceIte,reduceCtorEq,zB,zE,zA,zS,zL,zD,zM];rw [ak7 U U0 h1];refine ⟨by simp,by omega,?_⟩;simp
theorem bjl (n:Int) (hn:in64 n):IntKind.u64.wrap ((zaf IntKind.u64.bits (IntKind.u64.wrap (IntKind.i64.wrap (n*2))) ^^^ zaf IntKind.u64.bits (IntKind.u64.wrap (n/9223372036854775808))).toNat)=zig n:=by
 have:=a61 n hn.1 hn.2;rw [show wrap64 (n*2)=IntKind.i64.wrap (n*2) by rw [IntKind.wrap_i64]; unfold wrap64; omega] at this;exact this
theorem apw (n:Int) (hn:in64 n):a8 P0 31 [int .i64 n] [] (int .u64 (zig n)) []:=by
 refine asn rfl (by decide) ?_;simp only [aqr,push_cast,↓reduceIte,reduceCtorEq,zB,zE,zA,zS,zL,zD,zM];have e1:n.fdiv (2^min (zap 63) IntKind.i64.bits)=n/9223372036854775808:=bie n 63 (by decide);have e2:n*2^min (zap 1) IntKind.i64.bits=n*2:=rfl;refine ⟨by decide,by decide,?_⟩;rw [e1,e2,bjl n hn]
def u5 (f n:Int):List UInt8:=if okB f then m7 (f*8).toNat++m7 n.toNat else []
def zag (n:Int):Int:=if n%2=0 then n/2 else -(n/2)-1
theorem bjm (n:Int) (h0:0≤n) (h1:n<18446744073709551616):IntKind.i64.wrap ((zaf IntKind.i64.bits (IntKind.i64.wrap (n/2)) ^^^ zaf IntKind.i64.bits (IntKind.i64.wrap (0-IntKind.i64.wrap (n%2)))).toNat)=zag n:=by
 rw [show IntKind.i64.bits=64 from rfl,a7 (x:=n/2) (by omega),a7 (x:=n%2) (by omega),a7 (x:=0-n%2) (by omega)];unfold zag;split
 ·rename_i h;rw [h,show (0:Int)-0=0 by omega,show zaf 64 0=0#64 from rfl,BitVec.xor_zero,zba,IntKind.wrap_i64];omega
 ·rename_i h;rw [show n%2=1 by omega,show zaf 64 (0-1)=zaf 64 18446744073709551615 by decide,avc,zba,IntKind.wrap_i64];omega
theorem a94 (n:Int) (h0:0≤n) (h1:n<18446744073709551616):a8 P0 33 [int .u64 n] [] (int .i64 (zag n)) []:=by
 refine aso rfl (by decide) ?_;simp only [aqs,push_cast,↓reduceIte,reduceCtorEq,zB,zE,zA,zS,zL,zD,zM];have e1:n.fdiv (2^min (zap 1) IntKind.u64.bits)=n/2:=au2 n 1 (by decide);have e2:=ajf n 1 1 (by decide) (by decide) h0 h1;rw [show (2:Int)^1=2 from rfl] at e2;refine ⟨by decide,?_⟩;rw [e1,e2,bjm n h0 h1]
theorem aha (n:Int):zag (zig n)=n:=by unfold zag zig; split<;>split<;>omega
theorem avb (n:Int) (h0:0≤n) (h1:n<18446744073709551616):in64 (zag n):=by unfold zag in64; split<;>omega
theorem aqz (l:List UInt8) (f n:Int) (hf:in64 f) (n0:0≤n) (hn:n<18446744073709551616) (hl:l.length≤130000000000000) :
  a8 P0 55 [sb l,int .i64 f,int .u64 n] [] (.own 1000000 0 0 (l++u5 f n).length) [qg (l++u5 f n)]:=by
 refine asp rfl (by decide) ?_
 push_cast [aqw,zad]
 refine a5 (bak l (by omega)) rfl trivial ?_
 push_cast
 refine a5 (bau f) rfl trivial ?_;cases hk:okB f with
 | false=>
  push_cast [u5,hk]
  rw [Nat.add_zero]
 | true=>
  have h1:1≤f∧f≤1000:=by simpa [okB] using hk
  have e1:IntKind.u64.wrap f=f:=by rw [IntKind.wrap_u64]; omega
  have e2:IntKind.u64.wrap (f*8)=f*8:=by rw [IntKind.wrap_u64]; omega
  push_cast [u5,hk,e1,e2]
  refine ⟨by kernel_rfl,?_⟩;refine a5 (wvar_t l (f*8) (by omega) (by omega) (by omega)) rfl ⟨rfl,trivial⟩ ?_;have h2:=iq (f*8).toNat;have h3:(l++m7 (f*8).toNat).length≤140000000000000:=by rw [zai]; omega
  generalize hm:l++m7 (f*8).toNat=m at h3
  push_cast [hk,e1,e2]
  refine ⟨by kernel_rfl,?_⟩;refine a5 (wvar_t m n n0 hn (by omega)) rfl ⟨rfl,trivial⟩ ?_;rw [← hm,zaw]
  push_cast
def o9 (f:Int) (x:List UInt8):List UInt8:=if okB f then m7 (f*8+2).toNat++(m7 x.length++x) else []
theorem abu (l:List UInt8) (f:Int) (x:List UInt8) (hf:in64 f) (hx:x.length≤1000000000000) (hl:l.length≤130000000000000) :
  a8 P0 79 [sb l,int .i64 f,sb x] [] (.own 1000000 0 0 (l++o9 f x).length) [qg (l++o9 f x)]:=by
 refine aox rfl (by decide) ?_
 push_cast [aku,zad]
 refine a5 (bak l (by omega)) rfl trivial ?_
 push_cast
 refine a5 (bau f) rfl trivial ?_;have hmax:=j7;cases hk:okB f with
 | false=>
  push_cast [o9,hk]
  rw [Nat.add_zero]
 | true=>
  have h1:1≤f∧f≤1000:=by simpa [okB] using hk
  have e1:IntKind.u64.wrap f=f:=by rw [IntKind.wrap_u64]; omega
  have e2:IntKind.u64.wrap (f*8)=f*8:=by rw [IntKind.wrap_u64]; omega
  have e3:IntKind.u64.wrap (f*8+2)=f*8+2:=by rw [IntKind.wrap_u64]; omega
  obtain ⟨X,hX,X0,X1⟩:∃X:Int,X=x.length∧0≤X∧X≤1000000000000:=⟨_,rfl,by omega,by omega⟩
  have e4:IntKind.u64.wrap X=X:=by rw [IntKind.wrap_u64]; omega
  have eX:m7 x.length=m7 X.toNat:=by rw [hX]; rfl
  push_cast [o9,hk,e1,e2,e3,eX,← hX]
  refine ⟨by kernel_rfl,?_⟩;refine a5 (wvar_t l (f*8+2) (by omega) (by omega) (by omega)) rfl ⟨rfl,trivial⟩ ?_;have h2:=iq (f*8+2).toNat;have h3:(l++m7 (f*8+2).toNat).length≤130000000000010:=by rw [zai]; omega
  rw [← zaw l];generalize hm:l++m7 (f*8+2).toNat=m at h3;have hm':=congrArg zay hm;rw [zai] at hm';clear hm
  push_cast [hk,e1,e2,e4,← hX]
  refine ⟨by kernel_rfl,?_⟩;refine a5 (wvar_t m X X0 (by omega) (by omega)) rfl ⟨rfl,trivial⟩ ?_;have h4:=iq X.toNat;have h5:(m++m7 X.toNat).length≤130000000000020:=by rw [zai]; omega
  rw [← zaw m];generalize hm2:m++m7 X.toNat=m2 at h5;have hm2':=congrArg zay hm2;rw [zai] at hm2';clear hm2
  push_cast [← hX]
  refine ⟨by omega,?_⟩;simp;omega
theorem pack_t (l : List UInt8) (f : Int) (ns : List Int) (hf : in64 f) (hn : ∀ n ∈ ns, 0 ≤ n ∧ n < 18446744073709551616) (hns : ns.length ≤ 1000000000) (hl : l.length ≤ 130000000000000) :
    a8 P0 56 [sb l,int .i64 f,.r (.sl 1 (ns.map fun n=>.v (.int .u64 n)))] [] (.own 1000000 0 0 (l++o9 f (ns.flatMap fun n=>m7 n.toNat)).length) [qg (l++o9 f (ns.flatMap fun n=>m7 n.toNat))]:=by
  refine aqv rfl (by decide) ?_
  push_cast [ant,zad]
  have hmax:=j7;obtain ⟨N,hN,N0,N1⟩:∃N:Int,N=ns.length∧0≤N∧N≤1000000000:=⟨_,rfl,by omega,by omega⟩
  simp only [← hN]
  have hlen:∀i:Nat,((ns.take i).flatMap fun n=>m7 n.toNat).length≤10*i:=fun i=>by
    induction i with
    | zero=>simp
    | succ i ih=>
      rw [List.take_add_one,zbk,zai]
      have:((ns[i]?.toList).flatMap fun n=>m7 n.toNat).length≤10:=by
        cases ns[i]? with
        | none=>simp
        | some n=>simpa using iq n.toNat
      omega
  refine run_loop [(0,false),(1,false),(7,false),(12,false),(13,false),(14,false)] (fun vs pos los=>∃(i:Int) (r:List UInt8),0≤i∧i≤N∧r=(ns.take i.toNat).flatMap (fun n=>m7 n.toNat) ∧
    vs=[sb l,int .i64 f,.ptr 2000000 0 0,.r (.sl 1 (ns.map fun n=>.v (.int .u64 n))),int .i64 N,int .i64 i]∧pos=[] ∧
    ((r=[]∧los=[.box [.nils 1 (.v (.int .u8 0))]])∨los=[.box [.own 2000001 0 0 r.length],qg r]))
    (fun vs _ _=>match vs with | [_,_,_,_,_,.r (.v (.int _ j))]=>(N-j).toNat | _=>0) rfl ?_ ?_
  · push_cast
    exact ⟨0,[],by omega,by omega,rfl,rfl,.inl rfl⟩
  · rintro vs pos los ⟨i,r,i0,iN,hr,rfl,rfl,hc⟩;have hrl:=hlen i.toNat;rw [← hr] at hrl;rcases hc with ⟨rfl,rfl⟩ | rfl
    · push_cast
      refine c7 (fun h=>?_) (fun h=>?_)
      · have hi:i<N:=by simpa using h
        have hin:i.toNat<ns.length:=by omega
        have hb:=hn _ (List.getElem_mem hin);have hg:(zan (fun n=>RV.v (.int .u64 n)) ns).getD i.toNat (.v (.int .u64 0))=.v (.int .u64 ns[i.toNat]):=by simp [List.getD,hin]
        have w4:IntKind.i64.wrap (i+1)=i+1:=a7 (by omega)
        push_cast [hg,← hN]
        refine ⟨⟨i0,hi⟩,?_⟩;refine a5 (wvarN_t _ hb.1 hb.2) rfl ⟨rfl,trivial⟩ ?_
        push_cast [w4]
        refine ⟨⟨i+1,m7 (ns[i.toNat]).toNat,by omega,by omega,?_,rfl,.inr rfl⟩,by omega⟩;rw [show (i+1).toNat=i.toNat+1 by omega,List.take_succ_eq_append_getElem hin,zbk,← hr];simp
      · have hi : i = N := by have : ¬ i < N := by simpa using h
                              omega
        rw [hi,show N.toNat=ns.length by omega,zat] at hr
        push_cast
        refine b9 (as':=[sb l,int .i64 f,sb []]) rfl ?_;refine a5 (abu l f [] hf (by simp) hl) rfl trivial ?_;rw [← hr]
        push_cast
    · push_cast
      refine c7 (fun h=>?_) (fun h=>?_)
      · have hi:i<N:=by simpa using h
        have hin:i.toNat<ns.length:=by omega
        have hb:=hn _ (List.getElem_mem hin);have hg:(zan (fun n=>RV.v (.int .u64 n)) ns).getD i.toNat (.v (.int .u64 0))=.v (.int .u64 ns[i.toNat]):=by simp [List.getD,hin]
        have w4:IntKind.i64.wrap (i+1)=i+1:=a7 (by omega)
        push_cast [hg,← hN]
        refine ⟨⟨i0,hi⟩,?_⟩;refine a5 (wvar_t r _ hb.1 hb.2 (by omega)) rfl ⟨rfl,trivial⟩ ?_;generalize hq:r++m7 (ns[i.toNat]).toNat=q
        push_cast [w4]
        refine ⟨⟨i+1,q,by omega,by omega,?_,rfl,.inr rfl⟩,by omega⟩;rw [show (i+1).toNat=i.toNat+1 by omega,List.take_succ_eq_append_getElem hin,zbk,← hr,← hq];simp
      · have hi : i = N := by have : ¬ i < N := by simpa using h
                              omega
        rw [hi,show N.toNat=ns.length by omega,zat] at hr
        push_cast [← hr]
        refine m0 ?_
        push_cast
        refine b9 (as':=[sb l,int .i64 f,sb r]) rfl ?_;refine a5 (abu l f r hf (by omega) hl) rfl trivial ?_
        push_cast

open Go Go.RowKit
theorem bib {U i C:Int} {m k b:Nat} (hU:U=m) (hi:i=k) (hC:C=b) (hk:k≤9) (hm:m<2^(7*k)) (hb:b<256) (h9:k=9→b≤1) :
  IntKind.u64.wrap ((zaf IntKind.u64.bits U ||| zaf IntKind.u64.bits (IntKind.u64.wrap (IntKind.u64.wrap (IntKind.u8.wrap ((zaf IntKind.u8.bits C &&& zaf IntKind.u8.bits 127).toNat))*2^min (IntKind.u64.wrap (IntKind.i64.wrap (7*i))).toNat IntKind.u64.bits))).toNat)=((m+b%128*2^(7*k):Nat):Int):=by
 have e1:IntKind.i64.wrap (7*i)=7*i:=a7 (by omega);have e2:IntKind.u64.wrap (7*i)=7*i:=by rw [IntKind.wrap_u64]; omega
 rw [e1,e2,show (7*i).toNat=7*k by omega,show min (7*k) IntKind.u64.bits=7*k from Nat.min_eq_left (by simp [IntKind.bits]; omega),hU,hC];exact a3n hk hm hb h9
theorem a86 (l:List UInt8) (i:Nat) (z:RV) (hi:i<l.length):(zan by8 l).getD i z=.v (.int .u8 (l[i].toNat:Int)):=by
 simp [List.getD,hi,by8]
theorem ap8 (l:List UInt8) (hl:l.length≤140737488355328):a8 P0 189 [sb l] [] (.tup [int .u64 (take l).1,int .i64 (take l).2]) []:=by
 refine aqo rfl (by decide) ?_;obtain ⟨N,hN,N0,N1⟩:∃N:Int,N=l.length∧0≤N∧N≤140737488355328:=⟨_,rfl,by omega,by omega⟩
 push_cast [anq,zad,← hN]
 refine run_loop [(4,false),(7,false),(8,false),(9,false)] (fun vs pos los=>∃(i U:Int) (k m:Nat),i=k∧U=m∧k≤l.length∧k≤9∧m<2^(7*k)∧take l=fh k m (l.drop k) ∧
  vs=[int .u64 U,sb l,int .i64 N,int .i64 i]∧pos=[]∧los=[])
  (fun vs _ _=>match vs with | [_,_,_,.r (.v (.int _ j))]=>(N-j).toNat | _=>0) rfl ?_ ?_
 ·push_cast
  exact ⟨0,0,0,0,rfl,rfl,by omega,by omega,by decide,rfl,rfl⟩
 ·rintro vs pos los ⟨i,U,k,m,hik,hUm,hkl,hk9,hm,ht,rfl,rfl,rfl⟩
  push_cast
  refine c7 (fun h=>?_) (fun h=>?_)
  ·have hi:i<N:=by simpa using h
   have hin:k<l.length:=by omega
   have hit:i.toNat=k:=by omega
   obtain ⟨b,hb⟩:∃b,l[k].toNat=b:=⟨_,rfl⟩
   have hb2:b<256:=by rw [← hb]; exact l[k].toNat_lt
   obtain ⟨C,hC⟩:∃C:Int,C=b:=⟨_,rfl⟩
   have hg:(zan by8 l).getD i.toNat (.v (.int .u8 0))=.v (.int .u8 C):=by
    rw [hit,a86 l k _ hin,hC,hb]
   have w4:IntKind.i64.wrap (i+1)=i+1:=a7 (by omega)
   push_cast [hg]
   refine ⟨⟨by omega,by omega⟩,?_⟩
   repeat refine And.intro (by by_cases c1:i=9<;>by_cases c2:C>1<;>by_cases c3:i>0<;>by_cases c4:C=0<;>simp [c1,c2,c3,c4]<;>omega) ?_
   refine c7 (fun h2=>?_) (fun h2=>?_)
   ·have hc:(k=9∧1<b)∨(0<k∧b=0):=by
     by_cases c1:i=9<;>by_cases c2:C>1<;>by_cases c3:i>0<;>by_cases c4:C=0<;>simp [c1,c2,c3,c4] at h2<;>omega
    push_cast
    rw [ht,a7g hin hb hc]
    rfl
   ·have hc:¬((k=9∧1<b)∨(0<k∧b=0)):=by
     intro hc;by_cases c1:i=9<;>by_cases c2:C>1<;>by_cases c3:i>0<;>by_cases c4:C=0<;>simp [c1,c2,c3,c4] at h2<;>omega
    have hv:=bib hUm hik hC hk9 hm hb2 (fun h9=>by omega);have hml:=afu (b:=b) hm;have hw7:0≤IntKind.u64.wrap (IntKind.i64.wrap (7*i)):=by rw [IntKind.wrap_u64]; omega
    generalize hm':m+b%128*2^(7*k)=m' at hv hml;generalize hV:((m':Nat):Int)=V at hv
    push_cast [hv]
    by_cases c1:C<128
    ·have g1:decide (C<128)=true:=by simp [c1]
     push_cast [g1,w4]
     refine ⟨hw7,?_⟩;rw [ht,a3p hin hb hc (by omega),hm'];refine congrArg AV.tup ?_;rw [← hV,show i+1=((k+1:Nat):Int) by omega]
    ·have g1:decide (C<128)=false:=by simp; omega
     push_cast [g1,w4]
     refine ⟨hw7,⟨i+1,V,k+1,m',by omega,by omega,by omega,by omega,hml,?_,rfl⟩,by omega⟩;rw [ht,a7f hin hb hc (by omega),hm']
  ·have hi:¬i<N:=by simpa using h
   push_cast
   rw [ht,a00 k m l (by omega)]
   rfl
theorem acd {x:Int} {n:Nat} (h:x=n):x.toNat=n:=by omega
def ki (ns:List Nat):List RV:=ns.map fun n:Nat=>RV.v (.int .u64 (n:Int))
abbrev a1a (ns:List Nat):Ob:=.row 1 (.v (.int .u64 0)) true true (ki ns)
def ap1:Option (List Nat)→AV
 | none=>.tup [.nils 1 (.v (.int .u64 0)),int .i64 10]
 | some []=>.tup [.nils 1 (.v (.int .u64 0)),int .i64 0]
 | some (n::ns)=>.tup [.own 1000000 0 0 (n::ns).length,int .i64 0]
def ap2:Option (List Nat)→List Ob
 | none=>[]
 | some []=>[]
 | some (n::ns)=>[a1a (n::ns)]
theorem a46 (ns:List Nat) (n:Nat):ki ns++[.v (.int .u64 (n:Int))]=ki (ns++[n]):=by simp [ki]
theorem a8k (ns:List Nat):(ki ns).length=ns.length:=by simp [ki]
theorem atu (ns:List Nat):zaj ns.length (ki ns)=ki ns:=zaq (by rw [a8k]; exact zah _)
theorem ae5 (l:List UInt8) (k:Nat):zao k (zan by8 l)=zan by8 (l.drop k):=by rw [List.map_drop]
theorem ben (l:List UInt8) (hl:l.length≤1000000000):a8 P0 148 [sb l] [] (ap1 (jp l)) (ap2 (jp l)):=by
  refine aqt rfl (by decide) ?_
  push_cast [anr,zad]
  have hmax:=j7
  refine run_loop [(0,false),(4,false)] (fun vs pos los=>∃(r:List UInt8) (f:Nat) (ns:List Nat),r.length≤f∧r.length+ns.length≤l.length∧jp l=(ff f r).map (ns ++ ·)∧pos=[] ∧
    ((ns=[]∧vs=[sb r,.nils 1 (.v (.int .u64 0))]∧los=[])∨(ns≠[]∧vs=[sb r,.own 2000000 0 0 ns.length]∧los=[a1a ns])))
    (fun vs _ _=>match vs with | .r (.sl _ xs)::_=>xs.length | _=>0) rfl ?_ ?_
  · push_cast
    refine ⟨l,l.length,[],zah _,by simp,?_,.inl ⟨rfl,rfl⟩⟩;show ff l.length l = _;cases ff l.length l<;>simp
  · rintro vs pos los ⟨r,f,ns,hf,hlen,hv,rfl,hc⟩;obtain ⟨R,hR,R0⟩:∃R:Int,R=r.length∧0≤R:=⟨_,rfl,by omega⟩
    have hb:=jr r;obtain ⟨U,hU⟩:∃U:Int,U=(take r).1:=⟨_,rfl⟩
    obtain ⟨K,hK⟩:∃K:Int,K=(take r).2:=⟨_,rfl⟩
    have hdr:zao (take r).2 (zaj R.toNat (bys r))=bys (r.drop (take r).2):=by
      rw [zaq (by simp; omega)];exact ae5 r _
    have hdl:(r.drop (take r).2).length=r.length-(take r).2:=zau;have hsnoc:ki ns++[.v (.int .u64 U)]=ki (ns++[(take r).1]):=by rw [hU]; exact a46 _ _
    rcases hc with ⟨rfl,rfl,rfl⟩ | ⟨hns,rfl,rfl⟩
    · push_cast [← hR]
      refine c7 (fun h=>?_) (fun h=>?_)
      · have hr0 : 0 < r.length := by have : R > 0 := by simpa using h
                                      omega
        push_cast [← hR]
        refine a5 (ap8 r (by omega)) rfl trivial ?_;rw [← hU,← hK]
        push_cast [← hR]
        by_cases k0:K=0
        · have g0:(K == 0)=true:=by simp [k0]
          push_cast [g0]
          rw [hv,aoc hr0 (by omega)];exact ⟨rfl,rfl⟩
        · have g0:(K == 0)=false:=by simp [k0]
          obtain ⟨f',hf',hv'⟩:=aia (n:=(take r).1) (k:=(take r).2) hr0 hf rfl (by omega)
          push_cast [g0,← hR,ae5,acd hK]
          rw [hdr];refine ⟨by simp,by omega,⟨by omega,by omega,by omega⟩,⟨r.drop (take r).2,f',[(take r).1],by omega,by simp only [zae,zad] at hlen ⊢; omega,?_,.inr ⟨by simp,rfl,by rw [hU]; rfl⟩⟩,by simp only [zak]; omega⟩;rw [hv,hv',zbe];congr 1
      · have hr0:r=[]:=by
          have:¬R>0:=by simpa using h
          exact zbf (by omega)
        push_cast
        rw [hv,hr0,nf];exact ⟨rfl,rfl⟩
    · push_cast [← hR]
      have hout:∀m:List Nat,m≠[]→ap1 (some m)=.tup [.own 1000000 0 0 m.length,int .i64 0]∧ap2 (some m)=[a1a m]:=fun m hm=>by
        cases m with
        | nil=>exact absurd rfl hm
        | cons=>exact ⟨rfl,rfl⟩
      refine c7 (fun h=>?_) (fun h=>?_)
      · have hr0 : 0 < r.length := by have : R > 0 := by simpa using h
                                      omega
        push_cast [← hR]
        refine a5 (ap8 r (by omega)) rfl trivial ?_;rw [← hU,← hK]
        push_cast [← hR]
        by_cases k0:K=0
        · have g0:(K == 0)=true:=by simp [k0]
          push_cast [g0]
          rw [hv,aoc hr0 (by omega)];exact ⟨rfl,rfl⟩
        · have g0:(K == 0)=false:=by simp [k0]
          obtain ⟨f',hf',hv'⟩:=aia (n:=(take r).1) (k:=(take r).2) hr0 hf rfl (by omega)
          push_cast [g0,← hR,ae5,acd hK,atu]
          rw [hdr,hsnoc];refine ⟨by simp,by omega,⟨by omega,by omega,by omega⟩,⟨r.drop (take r).2,f',ns++[(take r).1],by omega,by rw [zai,hdl,zbc]; omega,?_,.inr ⟨by simp,by simp,rfl⟩⟩,by simp only [zak]; omega⟩;rw [hv,hv',zbe];congr 1;funext x;simp
      · have hr0:r=[]:=by
          have:¬R>0:=by simpa using h
          exact zbf (by omega)
        push_cast
        rw [hv,hr0,nf,Option.map_some,List.append_nil,(hout ns hns).1,(hout ns hns).2];exact ⟨rfl,rfl⟩

open Go Go.RowKit
theorem bbr (l:List UInt8) (a n:Nat):zao a (zaj (a+n) (bys l))=bys ((l.drop a).take n):=by
 show zao a (zaj (a+n) (zan by8 l))=zan by8 ((l.drop a).take n);rw [List.drop_take,← List.map_drop,← List.map_take,Nat.add_sub_cancel_left]
def vn (x:Fld):RV:=.agg [.v (.int .i64 (x.1:Nat)),.v (.int .i64 (x.2.1:Nat)),.v (.int .u64 (x.2.2.1:Nat)),.sl 1 (bys x.2.2.2)]
def akx:Option (Fld×Nat)→AV
 | none=>.tup [.r (vn (0,0,0,[])),int .i64 0]
 | some (x,k)=>.tup [.r (vn x),int .i64 (k:Nat)]
theorem af3:AV.tup [.r (.agg [.v (.int .i64 0),.v (.int .i64 0),.v (.int .u64 0),.sl 1 []]),.r (.v (.int .i64 0))]=akx none:=rfl
theorem auc {a b c k:Int} {x:Fld} {n:Nat} {d:List RV} (ha:a=(x.1:Nat)) (hb:b=(x.2.1:Nat)) (hc:c=(x.2.2.1:Nat)) (hd:d=bys x.2.2.2) (hk:k=(n:Nat)) :
  AV.tup [.r (.agg [.v (.int .i64 a),.v (.int .i64 b),.v (.int .u64 c),.sl 1 d]),.r (.v (.int .i64 k))]=akx (some (x,n)):=by
 rw [ha,hb,hc,hd,hk]; rfl
theorem bal (l:List UInt8) (hl:l.length≤1000000000):a8 P0 147 [sb l] [] (akx (cz l)) []:=by
 refine asm rfl (by decide) ?_;have hmax:=j7;obtain ⟨R,hR,R0⟩:∃R:Int,R=l.length∧0≤R:=⟨_,rfl,by omega⟩
 obtain ⟨ht1,ht2,ht3⟩:=jr l;obtain ⟨T,hT⟩:∃U:Int,U=(take l).1:=⟨_,rfl⟩
 obtain ⟨K,hK⟩:∃K:Int,K=(take l).2:=⟨_,rfl⟩
 have m8:IntKind.i64.wrap (T.tmod 8)=T%8:=by rw [Int.tmod_eq_emod_of_nonneg (by omega)]; exact a7 (by omega)
 have d8:IntKind.u64.wrap (T.tdiv 8)=T/8:=by rw [zav (by omega),IntKind.wrap_u64]; omega
 have d8i:IntKind.i64.wrap (T/8)=T/8:=a7 (by omega);simp only [aqq,push_cast,↓reduceIte,reduceCtorEq,zB,zE,zA,zS,zL,zD,zM];refine a5 (ap8 l (by omega)) rfl trivial ?_;rw [← hT,← hK];simp only [m8,d8,push_cast,↓reduceIte,reduceCtorEq,zB,zE,zA,zS,zL,zD,zM]
 repeat refine And.intro (by by_cases c1:K=0<;>by_cases c2:T/8<1<;>by_cases c3:T/8>1000<;>simp [c1,c2,c3]<;>omega) ?_
 refine c7 (fun h=>?_) (fun h=>?_)
 ·have hc:(take l).2=0∨(take l).1/8<1∨1000<(take l).1/8:=by
   by_cases c1:K=0<;>by_cases c2:T/8<1<;>by_cases c3:T/8>1000<;>simp [c1,c2,c3] at h<;>omega
  have hone:cz l=none:=if_pos hc;simp only [push_cast,↓reduceIte,reduceCtorEq,zB,zE,zA,zS,zL,zD,zM];rw [hone];exact af3
 ·have hc:¬((take l).2=0∨(take l).1/8<1∨1000<(take l).1/8):=by
   intro hc;by_cases c1:K=0<;>by_cases c2:T/8<1<;>by_cases c3:T/8>1000<;>simp [c1,c2,c3] at h<;>omega
  have hdr:zao K.toNat (zaj R.toNat (bys l))=bys (l.drop (take l).2):=by
   rw [zaq (by simp; omega),acd hK];exact ae5 l _
  obtain ⟨hn1,hn2,hn3⟩:=jr (l.drop (take l).2);have hdl:(l.drop (take l).2).length=l.length-(take l).2:=zau;obtain ⟨U,hU⟩:∃U:Int,U=(take (l.drop (take l).2)).1:=⟨_,rfl⟩
  obtain ⟨J,hJ⟩:∃U:Int,U=(take (l.drop (take l).2)).2:=⟨_,rfl⟩
  have hkj:IntKind.i64.wrap (K+J)=K+J:=a7 (by omega);simp only [m8,d8,d8i,← hR,push_cast,↓reduceIte,reduceCtorEq,zB,zE,zA,zS,zL,zD,zM];rw [hdr];refine ⟨by omega,⟨by omega,by omega,by omega⟩,?_⟩;refine a5 (ap8 (l.drop (take l).2) (by omega)) rfl trivial ?_;rw [← hU,← hJ];simp only [m8,d8,d8i,push_cast,↓reduceIte,reduceCtorEq,zB,zE,zA,zS,zL,zD,zM];by_cases j0:J=0
  ·have g:(J == 0)=true:=by simp [j0]
   have hone:cz l=none:=by
    rw [cz,if_neg hc,if_pos (by omega)]
   simp only [g,push_cast,↓reduceIte,reduceCtorEq,zB,zE,zA,zS,zL,zD,zM];rw [hone];exact af3
  ·have g:(J == 0)=false:=by simp [j0]
   simp only [g,push_cast,↓reduceIte,reduceCtorEq,zB,zE,zA,zS,zL,zD,zM];by_cases t0:T%8=0
   ·have g2:(T%8 == 0)=true:=by simp [t0]
    have hone:cz l=some (((take l).1/8,0,(take (l.drop (take l).2)).1,[]),(take l).2+(take (l.drop (take l).2)).2):=by
     rw [cz,if_neg hc,if_neg (by omega),if_pos (by omega)]
    simp only [g2,hkj,push_cast,↓reduceIte,reduceCtorEq,zB,zE,zA,zS,zL,zD,zM];rw [hone];exact auc (by dsimp only; omega) (by dsimp only; omega) (by dsimp only; omega) rfl (by omega)
   ·have g2:(T%8 == 0)=false:=by simp [t0]
    simp only [g2,push_cast,↓reduceIte,reduceCtorEq,zB,zE,zA,zS,zL,zD,zM];by_cases t2:T%8=2
    ·have g3:(T%8 == 2)=true:=by simp [t2]
     have wR:IntKind.u64.wrap (IntKind.i64.wrap (IntKind.i64.wrap (R-K)-J))=R-K-J:=by
      rw [a7 (x:=R-K) (by omega),a7 (x:=R-K-J) (by omega),IntKind.wrap_u64]; omega
     simp only [g3,← hR,push_cast,↓reduceIte,reduceCtorEq,zB,zE,zA,zS,zL,zD,zM];rw [wR];by_cases un:U≤R-K-J
     ·have g4:decide (U≤R-K-J)=true:=by simp [un]
      have wU:IntKind.i64.wrap U=U:=a7 (by omega);have wS:IntKind.i64.wrap (K+J+U)=K+J+U:=a7 (by omega)
      have hone:cz l=some (((take l).1/8,2,0,(l.drop ((take l).2+(take (l.drop (take l).2)).2)).take (take (l.drop (take l).2)).1),(take l).2+(take (l.drop (take l).2)).2+(take (l.drop (take l).2)).1):=by
       rw [cz,if_neg hc,if_neg (by omega),if_neg (by omega),if_pos ⟨by omega,by omega⟩]
      simp only [g4,hkj,wU,wS,← hR,push_cast,↓reduceIte,reduceCtorEq,zB,zE,zA,zS,zL,zD,zM]
      have hseg:zao (K+J).toNat (zaj (K+J+U).toNat (bys l))=bys ((l.drop ((take l).2+(take (l.drop (take l).2)).2)).take (take (l.drop (take l).2)).1):=by
       rw [show (K+J+U).toNat=(take l).2+(take (l.drop (take l).2)).2+(take (l.drop (take l).2)).1 by omega,show (K+J).toNat=(take l).2+(take (l.drop (take l).2)).2 by omega,bbr]
      have hsl:(bys ((l.drop ((take l).2+(take (l.drop (take l).2)).2)).take (take (l.drop (take l).2)).1)).length≤1000000000:=by
       rw [zak,List.length_take,zau]; omega
      rw [hone,hseg]
      have hfin:∀s:List RV,s=bys ((l.drop ((take l).2+(take (l.drop (take l).2)).2)).take (take (l.drop (take l).2)).1)→AV.tup [.r (.agg [.v (.int .i64 (T/8)),.v (.int .i64 (T%8)),.v (.int .u64 0),.sl 1 s]),.r (.v (.int .i64 (K+J+U)))]=akx (some (((take l).1/8,2,0,(l.drop ((take l).2+(take (l.drop (take l).2)).2)).take (take (l.drop (take l).2)).1),(take l).2+(take (l.drop (take l).2)).2+(take (l.drop (take l).2)).1)):=
       fun s hs=>auc (by dsimp only; omega) (by dsimp only; omega) rfl hs (by omega)
      generalize hsg:bys ((l.drop ((take l).2+(take (l.drop (take l).2)).2)).take (take (l.drop (take l).2)).1)=sg at hsl hfin;refine ⟨by simp,⟨by omega,by omega,by omega,by omega⟩,⟨by omega,by omega⟩,?_⟩;refine hfin _ ?_;rw [zaa,zat]
     ·have g4:decide (U≤R-K-J)=false:=by simp; omega
      have hone:cz l=none:=by
       rw [cz,if_neg hc,if_neg (by omega),if_neg (by omega),if_neg (by omega)]
      simp only [g4,push_cast,↓reduceIte,reduceCtorEq,zB,zE,zA,zS,zL,zD,zM];rw [hone];exact af3
    ·have g3:(T%8 == 2)=false:=by simp [t2]
     have hone:cz l=none:=by
      rw [cz,if_neg hc,if_neg (by omega),if_neg (by omega),if_neg (by omega)]
     simp only [g3,push_cast,↓reduceIte,reduceCtorEq,zB,zE,zA,zS,zL,zD,zM];rw [hone];exact af3

open Go Go.RowKit
abbrev a1b (fs:List Fld):Ob:=.row 4 (.agg [.v (.int .i64 0),.v (.int .i64 0),.v (.int .u64 0),.sl 1 []]) true true (fs.map vn)
abbrev awl:AV:=.nils 4 (.agg [.v (.int .i64 0),.v (.int .i64 0),.v (.int .u64 0),.sl 1 []])
def ab2:Option (List Fld)→AV
 | none=>.tup [awl,int .i64 10]
 | some []=>.tup [awl,int .i64 0]
 | some (n::ns)=>.tup [.own 1000000 0 0 (n::ns).length,int .i64 0]
def afz:Option (List Fld)→List Ob
 | none=>[]
 | some []=>[]
 | some (n::ns)=>[a1b (n::ns)]
theorem em {m:List Fld} (hm:m≠[]):ab2 (some m)=.tup [.own 1000000 0 0 m.length,int .i64 0]∧afz (some m)=[a1b m]:=by
 cases m with
 | nil=>exact absurd rfl hm
 | cons=>exact ⟨rfl,rfl⟩
theorem aqi (l:List UInt8) (hl:l.length≤100000000):a8 P0 89 [sb l] [] (ab2 (ar l)) (afz (ar l)):=by
  refine aqu rfl (by decide) ?_
  push_cast [ans,zad]
  have hmax:=j7
  refine run_loop [(0,false),(4,false)] (fun vs pos los=>∃(r:List UInt8) (f:Nat) (ns:List Fld),r.length≤f∧r.length+ns.length≤l.length∧ar l=(gk f r).map (ns ++ ·)∧pos=[] ∧
    ((ns=[]∧vs=[sb r,awl]∧los=[])∨(ns≠[]∧vs=[sb r,.own 2000000 0 0 ns.length]∧los=[a1b ns])))
    (fun vs _ _=>match vs with | .r (.sl _ xs)::_=>xs.length | _=>0) rfl ?_ ?_
  · push_cast
    refine ⟨l,l.length,[],zah _,by simp,?_,.inl ⟨rfl,rfl⟩⟩;show gk l.length l = _;cases gk l.length l<;>simp
  · rintro vs pos los ⟨r,f,ns,hf,hlen,hv,rfl,hc⟩;obtain ⟨R,hR,R0⟩:∃R:Int,R=r.length∧0≤R:=⟨_,rfl,by omega⟩
    have hdr:∀k:Nat,zao k (zaj R.toNat (bys r))=bys (r.drop k):=fun k=>by
      rw [zaq (by simp; omega)];exact ae5 r _
    have hdl:∀k:Nat,(r.drop k).length=r.length-k:=fun k=>zau;rcases hc with ⟨rfl,rfl,rfl⟩ | ⟨hns,rfl,rfl⟩
    · push_cast [← hR]
      refine c7 (fun h=>?_) (fun h=>?_)
      · have hr0 : 0 < r.length := by have : R > 0 := by simpa using h
                                      omega
        push_cast [← hR]
        refine a5 (bal r (by omega)) rfl trivial ?_;cases ho:cz r with
        | none=>
          push_cast [akx,vn]
          rw [hv,aot hr0 ho];exact ⟨rfl,rfl⟩
        | some p=>
          obtain ⟨x,k⟩:=p;have hb:=zn ho;obtain ⟨K,hK⟩:∃K:Int,K=k:=⟨_,rfl⟩
          have g0:(K == 0)=false:=by rw [beq_eq_false_iff_ne]; omega
          obtain ⟨f',hf',hv'⟩:=aip hr0 hf ho;have hdk:=hdl k
          push_cast [akx,← hK,g0,← hR,vn]
          rw [hdr,acd hK];refine ⟨by simp,by omega,⟨by omega,by omega,by omega⟩,⟨r.drop k,f',[x],by omega,by simp only [zae,zad] at hlen ⊢; omega,?_,.inr ⟨by simp,rfl,rfl⟩⟩,by simp only [zak]; omega⟩;rw [hv,hv',zbe];congr 1
      · have hr0:r=[]:=by
          have:¬R>0:=by simpa using h
          exact zbf (by omega)
        push_cast
        rw [hv,hr0,ni];exact ⟨rfl,rfl⟩
    · push_cast [← hR]
      refine c7 (fun h=>?_) (fun h=>?_)
      · have hr0 : 0 < r.length := by have : R > 0 := by simpa using h
                                      omega
        push_cast [← hR]
        refine a5 (bal r (by omega)) rfl trivial ?_;cases ho:cz r with
        | none=>
          push_cast [akx,vn]
          rw [hv,aot hr0 ho];exact ⟨rfl,rfl⟩
        | some p=>
          obtain ⟨x,k⟩:=p;have hb:=zn ho;obtain ⟨K,hK⟩:∃K:Int,K=k:=⟨_,rfl⟩
          have g0:(K == 0)=false:=by rw [beq_eq_false_iff_ne]; omega
          obtain ⟨f',hf',hv'⟩:=aip hr0 hf ho;have hdk:=hdl k;have hx:vn x=.agg [.v (.int .i64 (x.1:Nat)),.v (.int .i64 (x.2.1:Nat)),.v (.int .u64 (x.2.2.1:Nat)),.sl 1 (bys x.2.2.2)]:=rfl
          push_cast [akx,← hK,g0,← hR,hx,akg]
          rw [hdr,acd hK];refine ⟨by simp,by omega,⟨by omega,by omega,by omega⟩,⟨r.drop k,f',ns++[x],by omega,by rw [zai,hdk,zbc]; omega,?_,.inr ⟨by simp,by simp,by simp [vn]⟩⟩,by simp only [zak]; omega⟩;rw [hv,hv',zbe];congr 1;funext y;simp
      · have hr0:r=[]:=by
          have:¬R>0:=by simpa using h
          exact zbf (by omega)
        push_cast
        rw [hv,hr0,ni,Option.map_some,List.append_nil,(em hns).1,(em hns).2];exact ⟨rfl,rfl⟩

open Go Go.RowKit

open Go Go.RowKit

open Go Go.RowKit

open Go Go.RowKit

open Go Go.RowKit
theorem iz (G n:Int):(u5 G n).length≤20:=by
 unfold u5; split
 ·have:=iq (G*8).toNat; have:=iq n.toNat; rw [zai]; omega
 ·simp
theorem kw (G:Int) (y:List UInt8):(o9 G y).length≤20+y.length:=by
 unfold o9; split
 ·have:=iq (G*8+2).toNat; have:=iq y.length; rw [zai,zai]; omega
 ·simp
theorem ali (ns:List Int):(ns.flatMap fun n=>m7 n.toNat).length≤10*ns.length:=by
 induction ns with
 | nil=>simp
 | cons m ns ih=>
  have:=iq m.toNat;rw [List.flatMap_cons,zai,zae]; omega
theorem att:∀(f:Nat) (l:List UInt8) (m:List Nat),l.length≤f→ff f l=some m→m.length≤l.length
 | f,[],m,_,h=>by
  rw [nf] at h;cases h; simp
 | 0,_::_,m,hf,h=>by simp at hf
 | f+1,c::l,m,hf,h=>by
  have hb:=jr (c::l);by_cases h0:(take (c::l)).2=0
  ·rw [aoc (by simp) h0] at h; cases h
  ·obtain ⟨f',hf',hv⟩:=aia (f:=f+1) (n:=(take (c::l)).1) (k:=(take (c::l)).2) (l:=c::l) (by simp) hf rfl h0;rw [hv] at h;obtain ⟨m',hm',rfl⟩:=Option.map_eq_some_iff.1 h;have hd:((c::l).drop (take (c::l)).2).length=(c::l).length-(take (c::l)).2:=zau;have e:f'=f:=by omega
   subst e;have:=att f' ((c::l).drop (take (c::l)).2) m' (by omega) hm';simp only [zae] at *;omega
theorem a3f {l:List UInt8} {m:List Nat} (h:jp l=some m):m.length≤l.length:=att _ l m (zah _) h
theorem at2:∀(f:Nat) (l:List UInt8) (m:List Fld),l.length≤f→gk f l=some m→m.length≤l.length
 | f,[],m,_,h=>by
  rw [ni] at h;cases h; simp
 | 0,_::_,m,hf,h=>by simp at hf
 | f+1,c::l,m,hf,h=>by
  cases ho:cz (c::l) with
  | none=>rw [aot (by simp) ho] at h; cases h
  | some p=>
   obtain ⟨x,k⟩:=p;have hb:=zn ho;obtain ⟨f',hf',hv⟩:=aip (f:=f+1) (by simp) hf ho;rw [hv] at h;obtain ⟨m',hm',rfl⟩:=Option.map_eq_some_iff.1 h;have hd:((c::l).drop k).length=(c::l).length-k:=zau;have e:f'=f:=by omega
   subst e;have:=at2 f' ((c::l).drop k) m' (by omega) hm';simp only [zae] at *;omega
theorem ack {l:List UInt8} {m:List Fld} (h:ar l=some m):m.length≤l.length:=at2 _ l m (zah _) h

def acx:Mk P0 f10:={ x:=_ }
theorem adh:d5 10 1 acx:=c8 func10
def ame (p q:P2):List Int:=[zig (IntKind.i64.wrap (q.1-p.1)),zig (IntKind.i64.wrap (q.2-p.2))]
def v6:P2→List P2→List Int
 | _,[]=>[]
 | p,q::r=>ame p q++v6 q r
def s7:List P2→List Int
 | []=>[]
 | p::r=>if r.length<2 then [] else [9,zig p.1,zig p.2,8*(r.length:Int)+2]++v6 p r++[15]
def i64P (l:List P2):Prop:=∀p∈l,in64 p.1∧in64 p.2
def ai (l:List Int):List RV:=l.map fun n=>.v (.int .u64 n)
abbrev asi (l:List Int):Ob:=.row 1 (.v (.int .u64 0)) true true (ai l)
theorem ag7 (n:Int) (h:in64 n):0≤zig n∧zig n<18446744073709551616:=by unfold zig in64 at *; split<;>omega
theorem anl:∀(r:List P2) (p q o:P2) (i:Nat),r[i]?=some q→(p::r)[i]?=some o→v6 p (r.take (i+1))=v6 p (r.take i)++ame o q
 | [],p,q,o,i,h,_=>by simp at h
 | a::r,p,q,o,0,h,g=>by
  simp at h g;subst h; subst g;simp [v6]
 | a::r,p,q,o,i+1,h,g=>by
  have ih:=anl r a q o i (by simpa using h) (by simpa using g);rw [List.take_succ_cons,List.take_succ_cons,v6,v6,ih,zaw]
theorem nq:∀(r:List P2) (p:P2),(v6 p r).length=2*r.length
 | [],p=>rfl
 | a::r,p=>by
  rw [v6,zai,nq r a];simp [ame];omega
set_option maxHeartbeats 1000000 in
theorem a7c (ring:List P2) (hl:ring.length≤100000) (h:i64P ring) (h3:3≤ring.length):a8 P0 10 [b8 ring] [] (.own 1000000 0 0 (s7 ring).length) [asi (s7 ring)]:=by
 refine adh rfl (by decide) ?_;have hmx:=j7
 obtain ⟨p,r,rfl⟩:∃p r,ring=p::r:=by
  cases ring with
  | nil=>simp at h3
  | cons p r=>exact ⟨p,r,rfl⟩
 simp only [zae] at h3 hl;have d0:decide (((r.length:Nat):Int)+1<3)=false:=decide_eq_false (by omega);have z1:=apw p.1 (h p (by simp)).1;have z2:=apw p.2 (h p (by simp)).2;simp only [acx,b8,ptR,pnt,d0,zar,zaa,zax,zab,zac,zaa,push_cast,↓reduceIte,reduceCtorEq,zB,zE,zA,zS,zL,zD,zM];refine And.intro ⟨by omega,by omega⟩ (And.intro ⟨by omega,by omega⟩ ?_);refine d9 z1 rfl trivial ?_
 have wl:IntKind.u64.wrap (IntKind.i64.wrap (IntKind.i64.wrap (8*IntKind.i64.wrap ((r.length:Int)+1-1))+2))=8*(r.length:Int)+2:=by
  rw [a7 (x:=(r.length:Int)+1-1) (by omega),a7 (x:=8*((r.length:Int)+1-1)) (by omega),a7 (x:=8*((r.length:Int)+1-1)+2) (by omega),IntKind.wrap_u64];omega
 simp only [b8,ptR,pnt,zar,zas,zaa,zax,Nat.mul_one,zab,zac,zaa,push_cast,↓reduceIte,reduceCtorEq,zB,zE,zA,zS,zL,zD,zM];refine And.intro ⟨by omega,by omega⟩ (And.intro ⟨by omega,by omega⟩ ?_);refine d9 z2 rfl trivial ?_;simp only [b8,ptR,pnt,wl,zar,zas,zaa,zax,Nat.mul_one,zab,zac,zaa,push_cast,↓reduceIte,reduceCtorEq,zB,zE,zA,zS,zL,zD,zM];refine And.intro (by simp) (And.intro (by kernel_rfl) ?_);refine And.intro ⟨by omega,by omega,by omega⟩ ?_;obtain ⟨H,hH⟩:∃H:List Int,H=[9,zig p.1,zig p.2,8*(r.length:Int)+2]:=⟨_,rfl⟩
 refine run_loop [(29,false),(28,false),(27,false),(0,false),(3,false)] (fun vs pos los=>∃i:Nat,i≤r.length∧vs=[int .i64 i,int .i64 r.length,b8 r,b8 (p::r),.own 2000000 0 0 (H++v6 p (r.take i)).length]∧pos=[]∧los=[asi (H++v6 p (r.take i))])
  (fun vs _ _=>match vs with | .r (.v (.int _ a))::_=>(r.length-a).toNat | _=>0) rfl ?_ ?_
 ·simp only [b8,ptR,pnt,push_cast,↓reduceIte,reduceCtorEq,zB,zE,zA,zS,zL,zD,zM];refine ⟨0,by omega,?_,?_⟩
  ·rw [hH]; rfl
  ·rw [hH]; rfl
 ·rintro vs pos los ⟨i,hi,rfl,rfl,rfl⟩;simp only [b8,push_cast,↓reduceIte,reduceCtorEq,zB,zE,zA,zS,zL,zD,zM];refine c7 (fun hd=>?_) (fun hd=>?_)
  ·have hi2:i<r.length:=by simpa using hd
   obtain ⟨q,hq⟩:∃q,r[i]?=some q:=⟨r[i],by simp [hi2]⟩
   obtain ⟨o,ho⟩:∃o,(p::r)[i]?=some o:=⟨(p::r)[i]'(by simp; omega),by simp [show i<r.length+1 by omega]⟩
   have wi:IntKind.i64.wrap ((i:Int)+1)=(i:Int)+1:=a7 (by omega)
   have g1:∀z,(r.map ptR).getD i z=.agg [.v (.int .i64 q.1),.v (.int .i64 q.2)]:=fun z=>by
    rw [zbg,List.getElem?_map,hq]; rfl
   have g2:∀z,(ptR p::r.map ptR).getD i z=.agg [.v (.int .i64 o.1),.v (.int .i64 o.2)]:=fun z=>by
    rw [← List.map_cons];rw [zbg,List.getElem?_map,ho]; rfl
   have y1:=apw (IntKind.i64.wrap (q.1-o.1)) (aeh _);have y2:=apw (IntKind.i64.wrap (q.2-o.2)) (aeh _);simp only [b8,g1,g2,wi,zar,zas,zaa,zax,Nat.mul_one,zab,zac,zaa,push_cast,↓reduceIte,reduceCtorEq,zB,zE,zA,zS,zL,zD,zM]
   repeat refine And.intro ⟨by omega,by omega⟩ ?_
   refine d9 y1 rfl trivial ?_;simp only [b8,g1,g2,wi,zar,zas,zaa,zax,Nat.mul_one,zab,zac,zaa,push_cast,↓reduceIte,reduceCtorEq,zB,zE,zA,zS,zL,zD,zM]
   repeat refine And.intro ⟨by omega,by omega⟩ ?_
   refine d9 y2 rfl trivial ?_;simp only [b8,g1,g2,wi,zar,zas,zaa,zax,Nat.mul_one,zab,zac,zaa,push_cast,↓reduceIte,reduceCtorEq,zB,zE,zA,zS,zL,zD,zM];have hsl:=nq (r.take i) p;have hHl:H.length=4:=by rw [hH]; rfl
   rw [List.length_take,Nat.min_eq_left hi] at hsl;have hsu:=anl r p q o i hq ho;have htk:zaj (H.length+(v6 p (r.take i)).length) (ai (H++v6 p (r.take i)))=ai (H++v6 p (r.take i)):=zaq (by simp [ai]);rw [htk];refine And.intro (by simp) (And.intro ⟨by omega,by omega⟩ (And.intro (by kernel_rfl) ?_));refine ⟨⟨i+1,by omega,?_,?_⟩,by omega⟩
   ·rw [hsu]; simp [ame]; omega
   ·rw [hsu]; simp [ai,ame]
  ·have hi2:i=r.length:=by
    have:¬i<r.length:=by simpa using hd
    omega
   simp only [b8,push_cast,↓reduceIte,reduceCtorEq,zB,zE,zA,zS,zL,zD,zM];subst hi2;have hsl:=nq r p;have hHl:H.length=4:=by rw [hH]; rfl
   have hC:s7 (p::r)=H++v6 p r++[15]:=by rw [s7,if_neg (by omega),hH]
   rw [zat];have htk:zaj (H.length+(v6 p r).length) (ai (H++v6 p r))=ai (H++v6 p r):=zaq (by simp [ai]);rw [htk,hC];refine ⟨by simp,⟨by omega,by omega⟩,?_,?_⟩
   ·simp; omega
   ·simp [ai]
theorem a3j (ring:List P2) (h3:ring.length<3):a8 P0 10 [b8 ring] [] (.nils 1 (.v (.int .u64 0))) []:=by
 refine adh rfl (by decide) ?_;have d0:decide (((ring.length:Nat):Int)<3)=true:=decide_eq_true (by omega)
 push_cast [acx,b8,zak,d0,zad]

end
end Go.Ev

import Derived.Sort.AssemblyPlain
import Derived.Test.YtocfnfcflljooaaGreatM8
open Nat renaming reduceBEq → zB, reduceEqDiff → zE, reduceAdd → zA, reduceSub → zS, reduceLT → zL, reduceLeDiff → zD, reduceMul → zM
open Go.Proofs.Tryz renaming prog → P0
open Go.Proofs.Tryz
open Nat renaming zero_add → zaa, le_refl → zai, add_sub_cancel → zao
open Int renaming toNat_natCast → zab, toNat_natCast_add_one → zac, tdiv_eq_ediv_of_nonneg → zak
open List renaming length_nil → zad, length_cons → zae, mem_map → zaf, length_map → zag, getD_eq_getElem?_getD → zah, mem_append → zaj, getElem?_of_mem → zam, mem_cons → zan, mergeSort_perm → zap, mem_append_left → zaq
open BitVec renaming ofInt → zal
namespace Go.Ev
set_option maxHeartbeats 8000000
set_option maxRecDepth 100000
noncomputable section
open Go
set_option linter.unusedSectionVars false
set_option linter.unnecessarySimpa false
open Go.Sort (swp insInner insOuter insertionSort ltInt)
set_option linter.unusedSimpArgs false
set_option linter.unusedVariables false
def tm:Mk P0 f126:={ x:=_ }
def vj:Mk P0 f87:={ x:=_ }
def ca:Mk P0 f85:={ x:=_ }
def q8:Mk P0 f81:={ x:=_ }
def bu (d:Array Int):List AV:=d.toList.map λ n=>AV.r (.v (.int .u64 n))
def bc (d:Array Int) (m:Nat):List AV:=bu d++List.replicate m .undef
def bO (d:Array Int) (m:Nat):Ob:=.box (bc d m)
theorem adb:∀(xs:List AV),(∀x∈xs,t9 x=[])->l8 xs=[]
 | [],_=>rfl
 | x::xs,h=>by rw [l8,h x (by simp),adb xs λ y hy=>h y (by simp [hy])]; rfl
theorem a5 (d:Array Int) (m:Nat):l8 (bc d m)=[]:=adb _ λ x hx=>by
 rcases zaj.1 hx with hx | hx
 ·obtain ⟨n,_,rfl⟩:=zaf.1 hx
  rfl
 rw [(List.mem_replicate.1 hx).2]; rfl
theorem a8 (F:Ren) (d:Array Int) (m:Nat):imL F (bc d m)=bc d m:=mb F _ (a5 d m)
theorem adu (d:Array Int):(bu d).length=d.size:=by simp [bu]
theorem a9 (d:Array Int) (m:Nat):(bc d m).length=d.size+m:=by simp [bc,adu]
variable {d:Array Int} {m i:Nat}
theorem b6 (h:i<d.size) (z:AV):(bc d m).getD i z=.r (.v (.int .u64 d[i]!)):=by
 unfold bc;rw [zah,List.getElem?_append_left (by rw [adu]; exact h)];simp [bu,h]
theorem l7 (h:i<d.size) (x:Int):List.take i (bc d m)++[AV.r (.v (.int .u64 x))]++List.drop (i+1) (bc d m)=bc (d.setIfInBounds i x) m:=by
 unfold bc;have e:bu (d.setIfInBounds i x)=(bu d).set i (.r (.v (.int .u64 x))):=by simp [bu,List.map_set]
 rw [e,List.take_append_of_le_length (by rw [adu]; omega),List.drop_append_of_le_length (by rw [adu]; omega),List.set_eq_take_append_cons_drop,if_pos (by rw [adu]; exact h)];simp
theorem p5 (d:Array Int) (i j:Nat):(swp d i j).size=d.size:=by simp [swp]
theorem azx (x:Int):b5 P0 126 [int .u64 x] [] (bl false) []:=by
 refine tm.t func126 ?_;have h:(x != x)=false:=by simp
 push_cast [tm,h,zad]
theorem pb (x y:Int):b5 P0 87 [int .u64 x,int .u64 y] [] (bl (ltInt x y)) []:=by
 refine vj.t func87 ?_
 push_cast [vj,zad]
 refine a7 (azx x) rfl trivial ?_
 push_cast
 rfl
theorem a0b (d:Array Int) (a b:Nat) (D:a<=b) (I:b<=d.size) (H:d.size<=100000) (m:Nat):b5 P0 81 [.own 1000000 0 0 d.size,int .i64 a,int .i64 b] [bO d m] (.tup []) [bO (insertionSort ltInt d a b) m]:=by
 refine q8.t func81 ?_;have z:IntKind.i64.wrap ((a:Int)+1)=(a:Int)+1:=a6 (by omega)
 push_cast [q8,bO,a9,a5,a8,z,zae,zad]
 generalize B:d.size=n at *
 refine c9 [(6,false),(0,false),(1,false),(2,false)] (λ vs pos c=>∃(i:Nat) (e:Array Int),a+1<=i/\i<=100002/\e.size=n/\insertionSort ltInt d a b=insOuter ltInt a b i e/\vs=[int .i64 i,.own 1000000 0 0 n,int .i64 a,int .i64 b]/\pos=[bO e m]/\c=[])
  (λ vs _ _=>match vs with | .r (.v (.int _ j))::_=>(b-j).toNat | _=>0) rfl ?_ ?_
 ·push_cast [bO,a9,a5,a8]
  exact ⟨a+1,d,by omega,by omega,B,rfl,rfl,rfl⟩
 rintro vs pos c ⟨i,e,G,A,C,w,rfl,rfl,rfl⟩
 push_cast [bO,a9,a5,a8]
 refine c7 (λ h=>?_) (λ h=>?_)
 ·have p:i<b:=by
   simp at h;omega
  have x:IntKind.i64.wrap ((i:Int)+1)=(i:Int)+1:=a6 (by omega)
  push_cast
  refine c9 [(6,false),(7,false),(0,false),(1,false),(2,false)] (λ vs pos c=>∃(j:Nat) (f:Array Int),j<=i/\f.size=n/\insInner ltInt a i e=insInner ltInt a j f/\vs=[int .i64 i,int .i64 j,.own 1000000 0 0 n,int .i64 a,int .i64 b]/\pos=[bO f m]/\c=[])
   (λ vs _ _=>match vs with | _ :: .r (.v (.int _ j))::_=>j.toNat | _=>0) rfl ?_ ?_
  ·push_cast [bO,a9,a5,a8]
   exact ⟨i,e,by omega,C,rfl,rfl,rfl⟩
  rintro vs pos c ⟨j,f,F,u,s,rfl,rfl,rfl⟩;by_cases E:j<=a
  ·have g:decide ((j:Int)>a)=false:=by simp; omega
   push_cast [bO,a9,a5,a8,g,x]
   repeat refine sI ?_
   refine ⟨⟨i+1,f,by omega,by omega,u,?_,(by first | rfl | exact ⟨rfl,rfl⟩ | exact ⟨rfl,rfl,rfl⟩)⟩,by omega⟩;rw [w,insOuter,if_pos p,s];congr 1;cases j with
   | zero=>rfl
   | succ k=>rw [insInner,if_neg (by simp; omega)]
  obtain ⟨k,rfl⟩:∃k,j=k+1:=⟨j-1,by omega⟩
  have g:decide ((k:Int)+1>a)=true:=by simp; omega
  have q:IntKind.i64.wrap ((k:Int)+1-1)=(k:Int):=by rw [a6 (by omega)]; omega
  have o:k<f.size:=by omega
  have l:k+1<f.size:=by omega
  push_cast [bO,a9,a5,a8,g,q,b6 (m:=m) o,b6 (m:=m) l,zab,zac,zaa]
  repeat refine sI ?_
  refine d9 (pb f[k+1]! f[k]!) rfl trivial ?_
  push_cast [bO,a9,a5,a8,g,q,b6 (m:=m) o,b6 (m:=m) l,zab,zac,zaa]
  refine ⟨by kernel_rfl,?_⟩;refine c7 (λ hc=>?_) (λ hc=>?_)
  ·have y:k<(f.setIfInBounds (k+1) f[k]!).size:=by simpa using o
   push_cast [bO,a9,a5,a8,g,q,b6 (m:=m) o,b6 (m:=m) l,b6 (m:=m) y,l7 (m:=m) l,l7 (m:=m) y,zab,zac,zaa]
   repeat refine sI ?_
   refine ⟨⟨k,swp f (k+1) k,by omega,by rw [p5]; exact u,?_,(by first | rfl | exact ⟨rfl,rfl⟩ | exact ⟨rfl,rfl,rfl⟩)⟩,by omega⟩;rw [s,insInner,if_pos];simp [hc];omega
  push_cast [bO,a9,a5,a8,g,q,x,b6 (m:=m) o,b6 (m:=m) l,zab,zac,zaa]
  refine ⟨⟨i+1,f,by omega,by omega,u,?_,(by first | rfl | exact ⟨rfl,rfl⟩ | exact ⟨rfl,rfl,rfl⟩)⟩,by omega⟩;rw [w,insOuter,if_pos p,s,insInner,if_neg];simp [hc]
 have p:¬i<b:=by
  simp at h;omega
 push_cast [a5,a8]
 rw [w,insOuter,if_neg p]

open Go.Sort (swp ltInt reverseLoop reverseRange siftDown heapSort heapBuild heapPop)
def du:Mk P0 f121:={ x:=_ }
def dv:Mk P0 f82:={ x:=_ }
theorem azm (d:Array Int) (a b:Nat) (B:a<=b) (x:1<=b) (F:b<=d.size) (E:d.size<=100000) (m:Nat):b5 P0 85 [.own 1000000 0 0 d.size,int .i64 a,int .i64 b] [bO d m] (.tup []) [bO (reverseRange d a b) m]:=by
 refine ca.t func85 ?_;have o:IntKind.i64.wrap ((b:Int)-1)=((b-1:Nat):Int):=by rw [a6 (by omega)]; omega
 obtain ⟨l,c⟩:∃l,b-1=l:=⟨_,rfl⟩
 rw [c] at o
 push_cast [ca,bO,a9,a5,a8,o,zae,zad]
 generalize y:d.size=n at *
 refine c9 [(6,false),(7,false),(0,false)] (λ vs pos f=>∃(i j:Nat) (e:Array Int),j<n/\i<=j+1/\e.size=n/\reverseRange d a b=reverseLoop i j e/\vs=[int .i64 i,int .i64 j,.own 1000000 0 0 n]/\pos=[bO e m]/\f=[])
  (λ vs _ _=>match vs with | .r (.v (.int _ i)) :: .r (.v (.int _ j))::_=>(j-i).toNat | _=>0) rfl ?_ ?_
 ·push_cast [bO,a9,a5,a8]
  exact ⟨a,l,d,by omega,by omega,y,by rw [reverseRange,c],(by first | rfl | exact ⟨rfl,rfl⟩ | exact ⟨rfl,rfl,rfl⟩)⟩
 rintro vs pos f ⟨i,j,e,C,D,z,u,rfl,rfl,rfl⟩
 push_cast [bO,a9,a5,a8]
 refine c7 (λ h=>?_) (λ h=>?_)
 ·have g:i<j:=by
   simp at h;omega
  obtain ⟨k,rfl⟩:∃k,j=k+1:=⟨j-1,by omega⟩
  have w:IntKind.i64.wrap ((i:Int)+1)=(i:Int)+1:=a6 (by omega);have A:IntKind.i64.wrap ((k:Int)+1-1)=(k:Int):=by rw [a6 (by omega)]; omega
  have s:i<e.size:=by omega
  have q:k+1<e.size:=by omega
  have p:k+1<(e.setIfInBounds i e[k+1]!).size:=by simpa using q
  push_cast [bO,a9,a5,a8,w,A,b6 (m:=m) s,b6 (m:=m) q,b6 (m:=m) p,l7 (m:=m) s,l7 (m:=m) p,zab,zac,zaa]
  repeat refine sI ?_
  refine ⟨⟨i+1,k,swp e i (k+1),by omega,by omega,by rw [p5]; exact z,?_,(by first | rfl | exact ⟨rfl,rfl⟩ | exact ⟨rfl,rfl,rfl⟩)⟩,by omega⟩;rw [u,reverseLoop,if_pos g]
  rfl
 have g:¬i<j:=by
  simp at h;omega
 push_cast [a5,a8,a9]
 rw [u,reverseLoop,if_neg g]
theorem jw (b first:Nat):∀(k a:Nat) (d:Array Int),b-a<=k->(siftDown ltInt b first a d).size=d.size:=by
 intro k
 induction k with
 | zero=>
   intro a d c;rw [siftDown];rw [dif_pos (by omega)]
 | succ k ih=>
   intro a d c;rw [siftDown];split
   ·rfl
   split
   ·split
    ·rfl
    split
    ·rw [ih _ _ (by omega),p5]
    rfl
   split
   ·rfl
   rw [ih _ _ (by omega),p5]
theorem aop (d:Array Int) (D a first:Nat) (L:first+a<=d.size) (B:D<=100000) (K:d.size<=100000) (m:Nat):b5 P0 121 [.own 1000000 0 0 d.size,int .i64 D,int .i64 a,int .i64 first] [bO d m] (.tup []) [bO (siftDown ltInt a first D d) m]:=by
 refine du.t func121 ?_
 push_cast [du,bO,a9,a5,a8,zae,zad]
 generalize I:d.size=n at *
 refine c9 [(8,false),(0,false),(2,false),(3,false)] (λ vs pos E=>∃(r:Nat) (e:Array Int),r<=100000/\e.size=n/\siftDown ltInt a first D d=siftDown ltInt a first r e/\vs=[int .i64 r,.own 1000000 0 0 n,int .i64 a,int .i64 first]/\pos=[bO e m]/\E=[])
  (λ vs _ _=>match vs with | .r (.v (.int _ i))::_=>(a-i).toNat | _=>0) rfl ?_ ?_
 ·push_cast [bO,a9,a5,a8]
  exact ⟨D,d,B,I,rfl,(by first | rfl | exact ⟨rfl,rfl⟩ | exact ⟨rfl,rfl,rfl⟩)⟩
 rintro vs pos E ⟨r,e,J,G,C,rfl,rfl,rfl⟩;obtain ⟨c,hc⟩:∃c,2*r+1=c:=⟨_,rfl⟩
 have l:IntKind.i64.wrap (2*(r:Int))=2*(r:Int):=a6 (by omega);have o:IntKind.i64.wrap (2*(r:Int)+1)=(c:Int):=by rw [a6 (by omega)]; omega
 push_cast [bO,a9,a5,a8,l,o]
 refine c7 (λ h=>?_) (λ h=>?_)
 ·have H:c>=a:=by
   simp at h;omega
  push_cast [a5,a8,a9]
  rw [C,siftDown,dif_pos (by omega)]
 have H:¬c>=a:=by
  simp at h;omega
 have p:IntKind.i64.wrap ((c:Int)+1)=(c:Int)+1:=a6 (by omega);obtain ⟨x,hx⟩:∃x,first+c=x:=⟨_,rfl⟩
 obtain ⟨y,hy⟩:∃y,first+r=y:=⟨_,rfl⟩
 have s:IntKind.i64.wrap ((first:Int)+c)=(x:Int):=by rw [a6 (by omega)]; omega
 have z:IntKind.i64.wrap ((first:Int)+r)=(y:Int):=by rw [a6 (by omega)]; omega
 have u:IntKind.i64.wrap ((x:Int)+1)=(x:Int)+1:=a6 (by omega);have kx:x<e.size:=by omega
 have ky:y<e.size:=by omega
 have g:∀q,siftDown ltInt a first r e=q↔(if c+1<a&&ltInt e[x]! e[x+1]! then
  if !ltInt e[y]! e[x+1]! then e else siftDown ltInt a first (c+1) (swp e y (x+1)) else
  if !ltInt e[y]! e[x]! then e else siftDown ltInt a first c (swp e y x))=q:=λ q=>by
  rw [siftDown,dif_neg (by omega),hc,hx,hy,show 2*r+2=c+1 by omega,show first+(c+1)=x+1 by omega];by_cases j:(c+1<a&&ltInt e[x]! e[x+1]!)=true
  ·have:c+1<a:=by simp at j; exact j.1
   rw [if_pos j,if_pos j,dif_pos this]
  rw [if_neg j,if_neg j]
 by_cases A:c+1<a
 ·have k:decide ((c:Int)+1<a)=true:=by simp; omega
  have f:x+1<e.size:=by omega
  push_cast [bO,a9,a5,a8,l,o,p,s,z,u,k,b6 (m:=m) kx,b6 (m:=m) ky,b6 (m:=m) f,zab,zac,zaa]
  repeat refine sI ?_
  refine d9 (pb e[x]! e[x+1]!) rfl trivial ?_
  push_cast [bO,a9,a5,a8,l,o,p,s,z,u,k,b6 (m:=m) kx,b6 (m:=m) ky,b6 (m:=m) f,zab,zac,zaa]
  repeat refine sI ?_
  refine c7 (λ B=>?_) (λ B=>?_)
  ·have F:IntKind.i64.wrap ((first:Int)+(c+1))=(x:Int)+1:=by rw [a6 (by omega)]; omega
   push_cast [bO,a9,a5,a8,l,o,p,s,z,u,F,k,b6 (m:=m) kx,b6 (m:=m) ky,b6 (m:=m) f,zab,zac,zaa]
   repeat refine sI ?_
   refine d9 (pb e[y]! e[x+1]!) rfl trivial ?_
   push_cast [bO,a9,a5,a8,l,o,p,s,z,u,F,k,b6 (m:=m) kx,b6 (m:=m) ky,b6 (m:=m) f,zab,zac,zaa]
   repeat refine sI ?_
   refine c7 (λ w=>?_) (λ w=>?_)
   ·push_cast [bO,a9,a5,a8]
    rw [C,(g _).2 rfl,if_pos (by simp [A,B]),if_pos w]
   have b:x+1<(e.setIfInBounds y e[x+1]!).size:=by simpa using f
   push_cast [bO,a9,a5,a8,l,o,p,s,z,u,F,k,b6 (m:=m) kx,b6 (m:=m) ky,b6 (m:=m) f,b6 (m:=m) b,l7 (m:=m) ky,l7 (m:=m) b,zab,zac,zaa]
   repeat refine sI ?_
   refine ⟨⟨c+1,swp e y (x+1),by omega,by rw [p5]; exact G,?_,(by first | rfl | exact ⟨rfl,rfl⟩ | exact ⟨rfl,rfl,rfl⟩)⟩,by omega⟩;rw [C,(g _).2 rfl,if_pos (by simp [A,B]),if_neg (by simp [w])]
  push_cast [bO,a9,a5,a8,l,o,p,s,z,u,k,b6 (m:=m) kx,b6 (m:=m) ky,b6 (m:=m) f,zab,zac,zaa]
  repeat refine sI ?_
  refine d9 (pb e[y]! e[x]!) rfl trivial ?_
  push_cast [bO,a9,a5,a8,l,o,p,s,z,u,k,b6 (m:=m) kx,b6 (m:=m) ky,zab,zac,zaa]
  repeat refine sI ?_
  refine c7 (λ w=>?_) (λ w=>?_)
  ·push_cast [bO,a9,a5,a8]
   rw [C,(g _).2 rfl,if_neg (by simp [B]),if_pos w]
  have b:x<(e.setIfInBounds y e[x]!).size:=by simpa using kx
  push_cast [bO,a9,a5,a8,l,o,p,s,z,u,k,b6 (m:=m) kx,b6 (m:=m) ky,b6 (m:=m) b,l7 (m:=m) ky,l7 (m:=m) b,zab,zac,zaa]
  repeat refine sI ?_
  refine ⟨⟨c,swp e y x,by omega,by rw [p5]; exact G,?_,(by first | rfl | exact ⟨rfl,rfl⟩ | exact ⟨rfl,rfl,rfl⟩)⟩,by omega⟩;rw [C,(g _).2 rfl,if_neg (by simp [B]),if_neg (by simp [w])]
 have k:decide ((c:Int)+1<a)=false:=by simp; omega
 push_cast [bO,a9,a5,a8,l,o,p,s,z,u,k,b6 (m:=m) kx,b6 (m:=m) ky,zab,zac,zaa]
 repeat refine sI ?_
 refine d9 (pb e[y]! e[x]!) rfl trivial ?_
 push_cast [bO,a9,a5,a8,l,o,p,s,z,u,k,b6 (m:=m) kx,b6 (m:=m) ky,zab,zac,zaa]
 repeat refine sI ?_
 refine c7 (λ w=>?_) (λ w=>?_)
 ·push_cast [bO,a9,a5,a8]
  rw [C,(g _).2 rfl,if_neg (by simp [A]),if_pos w]
 have b:x<(e.setIfInBounds y e[x]!).size:=by simpa using kx
 push_cast [bO,a9,a5,a8,l,o,p,s,z,u,k,b6 (m:=m) kx,b6 (m:=m) ky,b6 (m:=m) b,l7 (m:=m) ky,l7 (m:=m) b,zab,zac,zaa]
 repeat refine sI ?_
 refine ⟨⟨c,swp e y x,by omega,by rw [p5]; exact G,?_,(by first | rfl | exact ⟨rfl,rfl⟩ | exact ⟨rfl,rfl,rfl⟩)⟩,by omega⟩;rw [C,(g _).2 rfl,if_neg (by simp [A]),if_neg (by simp [w])]
theorem aax (a first:Nat):∀(k:Nat) (d:Array Int),(heapBuild ltInt a first k d).size=d.size
 | 0,d=>rfl
 | k+1,d=>by rw [heapBuild,aax a first k,jw a first (a-k) k d (zai _)]
theorem aye (d:Array Int) (a b:Nat) (M:a<b) (Q:b<=d.size) (P:d.size<=100000) (m:Nat):b5 P0 82 [.own 1000000 0 0 d.size,int .i64 a,int .i64 b] [bO d m] (.tup []) [bO (heapSort ltInt d a b) m]:=by
 refine dv.t func82 ?_;obtain ⟨c,z⟩:∃c,b-a=c:=⟨_,rfl⟩
 have G:IntKind.i64.wrap ((b:Int)-a)=(c:Int):=by rw [a6 (by omega)]; omega
 obtain ⟨g,y⟩:∃k,(c-1)/2=k:=⟨_,rfl⟩
 have B:IntKind.i64.wrap ((c:Int)-1)=((c-1:Nat):Int):=by rw [a6 (by omega)]; omega
 obtain ⟨w,E⟩:∃w,c-1=w:=⟨_,rfl⟩
 rw [E] at B;have N:(w:Int).tdiv 2=(g:Int):=by rw [zak (by omega)]; omega
 have C:IntKind.i64.wrap (g:Int)=(g:Int):=a6 (by omega);generalize J:d.size=n at *
 push_cast [dv,bO,a9,a5,a8,G,B,N,C,zae,zad]
 repeat refine sI ?_
 have F:heapSort ltInt d a b=heapPop ltInt a c (heapBuild ltInt c a (g+1) d):=by rw [heapSort,z,y]
 have A:(heapBuild ltInt c a (g+1) d).size=n:=by rw [aax]; exact J
 generalize K:heapBuild ltInt c a (g+1) d=H at *
 refine c9 [(9,false),(0,false),(6,false),(7,false),(8,false)] (λ vs pos f=>∃(k:Nat) (e:Array Int),k<=g+1/\e.size=n/\H=heapBuild ltInt c a k e/\vs=[int .i64 ((k:Int)-1),.own 1000000 0 0 n,int .i64 a,int .i64 0,int .i64 c]/\pos=[bO e m]/\f=[])
  (λ vs _ _=>match vs with | .r (.v (.int _ i))::_=>(i+1).toNat | _=>0) rfl ?_ ?_
 ·push_cast [bO,a9,a5,a8]
  refine ⟨g+1,d,by omega,J,K.symm,?_⟩;have:((g+1:Nat):Int)-1=g:=by omega
  rw [this]
  first | rfl | exact ⟨rfl,rfl⟩ | exact ⟨rfl,rfl,rfl⟩
 rintro vs pos f ⟨k,e,L,s,u,rfl,rfl,rfl⟩
 push_cast [bO,a9,a5,a8]
 refine c7 (λ h=>?_) (λ h=>?_)
 ·obtain ⟨q,rfl⟩:∃q,k=q+1:=⟨k-1,by simp at h; omega⟩
  have p:((q:Int)+1-1)=(q:Int):=by omega
  have j:IntKind.i64.wrap ((q:Int)-1)=(q:Int)-1:=a6 (by omega)
  push_cast [bO,a9,a5,a8,p]
  have o:=aop e q c a (by omega) (by omega) (by omega) m;rw [s] at o;refine a7 o rfl ⟨by simp [a9,p5,jw _ _ _ _ _ (zai _)],trivial⟩ ?_
  push_cast [bO,a9,a5,a8,p,j]
  refine ⟨⟨q,siftDown ltInt c a q e,by omega,by rw [jw _ _ _ _ _ (zai _)]; exact s,u,(by first | rfl | exact ⟨rfl,rfl⟩ | exact ⟨rfl,rfl,rfl⟩)⟩,by omega⟩
 obtain rfl:k=0:=by simp at h; omega
 have D:H=e:=u;subst D
 push_cast [bO,a9,a5,a8,G,B]
 refine c9 [(10,false),(0,false),(6,false),(7,false)] (λ vs pos f=>∃(k:Nat) (e:Array Int),k<=c/\e.size=n/\heapPop ltInt a c H=heapPop ltInt a k e/\vs=[int .i64 ((k:Int)-1),.own 1000000 0 0 n,int .i64 a,int .i64 0]/\pos=[bO e m]/\f=[])
  (λ vs _ _=>match vs with | .r (.v (.int _ i))::_=>(i+1).toNat | _=>0) rfl ?_ ?_
 ·push_cast [bO,a9,a5,a8]
  refine ⟨c,H,by omega,A,rfl,?_⟩;have:((c:Nat):Int)-1=w:=by omega
  rw [this]
  first | rfl | exact ⟨rfl,rfl⟩ | exact ⟨rfl,rfl,rfl⟩
 rintro vs pos f ⟨k,e,L,s,u,rfl,rfl,rfl⟩
 push_cast [bO,a9,a5,a8]
 refine c7 (λ h=>?_) (λ h=>?_)
 ·obtain ⟨q,rfl⟩:∃q,k=q+1:=⟨k-1,by simp at h; omega⟩
  have p:((q:Int)+1-1)=(q:Int):=by omega
  have j:IntKind.i64.wrap ((q:Int)-1)=(q:Int)-1:=a6 (by omega);obtain ⟨x,hx⟩:∃x,a+q=x:=⟨_,rfl⟩
  have O:IntKind.i64.wrap ((a:Int)+q)=(x:Int):=by rw [a6 (by omega)]; omega
  have I:a<e.size:=by omega
  have kx:x<e.size:=by omega
  have l:x<(e.setIfInBounds a e[x]!).size:=by simpa using kx
  push_cast [bO,a9,a5,a8,p,O,b6 (m:=m) I,b6 (m:=m) kx,b6 (m:=m) l,l7 (m:=m) I,l7 (m:=m) l,zab,zac,zaa]
  repeat refine sI ?_
  have o:=aop (swp e a x) 0 q a (by rw [p5]; omega) (by omega) (by rw [p5]; omega) m;rw [p5,s] at o;refine a7 o rfl ⟨by simp [a9,p5,jw _ _ _ _ _ (zai _)],trivial⟩ ?_
  push_cast [bO,a9,a5,a8,p,j]
  refine ⟨⟨q,siftDown ltInt q a 0 (swp e a x),by omega,by rw [jw _ _ _ _ _ (zai _),p5]; exact s,?_,(by first | rfl | exact ⟨rfl,rfl⟩ | exact ⟨rfl,rfl,rfl⟩)⟩,by omega⟩;rw [u,heapPop,hx]
 obtain rfl:k=0:=by simp at h; omega
 push_cast [bO,a9,a5,a8]
 rw [F,u]
 rfl

open Go.Sort (swp ltInt order2 median medianAdjacent choosePivot Hint)
def et:Mk P0 f147:={ x:=_ }
def eu:Mk P0 f125:={ x:=_ }
def bn:Mk P0 f124:={ x:=_ }
def cd:Mk P0 f84:={ x:=_ }
theorem ae7 (d:Array Int) (a b sw:Nat) (e:a<d.size) (f:b<d.size) (g:d.size<=100000) (i:sw<=1000) (m:Nat) :
 b5 P0 147 [.own 1000000 0 0 d.size,int .i64 a,int .i64 b,.ptr 1000001 0 0] [bO d m,.box [int .i64 sw]]
  (.tup [int .i64 (order2 ltInt d a b sw).1,int .i64 (order2 ltInt d a b sw).2.1]) [bO d m,.box [int .i64 (order2 ltInt d a b sw).2.2]]:=by
 refine et.t func147 ?_;have c:IntKind.i64.wrap ((sw:Int)+1)=(sw:Int)+1:=a6 (by omega)
 push_cast [et,bO,a9,a5,a8,c,b6 (m:=m) e,b6 (m:=m) f,zae,zad,zab,zac,zaa]
 repeat refine sI ?_
 refine d9 (pb d[b]! d[a]!) rfl trivial ?_
 push_cast [bO,a9,a5,a8,c,b6 (m:=m) e,b6 (m:=m) f,zab,zac,zaa]
 repeat refine sI ?_
 refine c7 (λ h=>?_) (λ h=>?_)
 ·push_cast [bO,a9,a5,a8,order2,h,c,if_true]
 push_cast [bO,a9,a5,a8,order2,h,c,Bool.false_eq_true,if_false]
variable {sw:Nat}
theorem qv {a b:Nat}:(order2 ltInt d a b sw).2.2<=sw+1/\((order2 ltInt d a b sw).1=a/\(order2 ltInt d a b sw).2.1=b\/(order2 ltInt d a b sw).1=b/\(order2 ltInt d a b sw).2.1=a):=by
 unfold order2;split<;>simp
theorem afd (d:Array Int) (a b c sw:Nat) (z:a<d.size) (B:b<d.size) (hc:c<d.size) (g:d.size<=100000) (C:sw<=100) (m:Nat) :
 b5 P0 125 [.own 1000000 0 0 d.size,int .i64 a,int .i64 b,int .i64 c,.ptr 1000001 0 0] [bO d m,.box [int .i64 sw]]
  (int .i64 (median ltInt d a b c sw).1) [bO d m,.box [int .i64 (median ltInt d a b c sw).2]]:=by
 refine eu.t func125 ?_;have e:=qv (d:=d) (a:=a) (b:=b) (sw:=sw);have p:=ae7 d a b sw z B g (by omega) m;unfold median;generalize order2 ltInt d a b sw=x at *;obtain ⟨l,o,f⟩:=x;simp only at e p |-;have r:=qv (d:=d) (a:=o) (b:=c) (sw:=f);have s:=ae7 d o c f (by rcases e.2 with h | h<;>omega) hc g (by omega) m;generalize order2 ltInt d o c f=v at *;obtain ⟨i,F,n⟩:=v;simp only at r s |-;have y:=qv (d:=d) (a:=l) (b:=i) (sw:=n);have q:=ae7 d l i n (by rcases e.2 with h | h<;>omega) (by rcases e.2 with h | h<;>rcases r.2 with w | w<;>omega) g (by omega) m;generalize order2 ltInt d l i n=A at *;obtain ⟨G,E,D⟩:=A;simp only at y q |-
 have j:∀k u:Nat,d8 [bO d m,.box [int .i64 k]] [bO d m,.box [int .i64 u]]:=λ k u=>⟨rfl,rfl,trivial⟩
 push_cast [eu,bO,a9,a5,a8,zae,zad]
 refine a7 p rfl (j _ _) ?_
 push_cast [bO,a9,a5,a8]
 refine a7 s rfl (j _ _) ?_
 push_cast [bO,a9,a5,a8]
 refine a7 q rfl (j _ _) ?_
 push_cast [bO,a9,a5,a8]
theorem ap1 {a b c:Nat}:(median ltInt d a b c sw).2<=sw+3/\((median ltInt d a b c sw).1=a\/(median ltInt d a b c sw).1=b\/(median ltInt d a b c sw).1=c):=by
 have l:=qv (d:=d) (a:=a) (b:=b) (sw:=sw);unfold median;generalize order2 ltInt d a b sw=k at *;obtain ⟨g,e,f⟩:=k;simp only at l |-;have m:=qv (d:=d) (a:=e) (b:=c) (sw:=f);generalize order2 ltInt d e c f=j at *;obtain ⟨i,s,h⟩:=j;simp only at m |-;have o:=qv (d:=d) (a:=g) (b:=i) (sw:=h);generalize order2 ltInt d g i h=n at *;obtain ⟨q,p,r⟩:=n;simp only at o |-;omega
theorem afe (d:Array Int) (a sw:Nat) (f:1<=a) (j:a+1<d.size) (c:d.size<=100000) (h:sw<=100) (m:Nat) :
 b5 P0 124 [.own 1000000 0 0 d.size,int .i64 a,.ptr 1000001 0 0] [bO d m,.box [int .i64 sw]]
  (int .i64 (medianAdjacent ltInt d a sw).1) [bO d m,.box [int .i64 (medianAdjacent ltInt d a sw).2]]:=by
 refine bn.t func124 ?_;obtain ⟨q,rfl⟩:∃q,a=q+1:=⟨a-1,by omega⟩
 have g:IntKind.i64.wrap ((q:Int)+1-1)=(q:Int):=by rw [a6 (by omega)]; omega
 have i:IntKind.i64.wrap ((q:Int)+1+1)=(q:Int)+1+1:=a6 (by omega);have t:=afd d q (q+1) (q+1+1) sw (by omega) (by omega) (by omega) c h m;have e:∀k b:Nat,d8 [bO d m,.box [int .i64 k]] [bO d m,.box [int .i64 b]]:=λ k b=>⟨rfl,rfl,trivial⟩
 push_cast [bn,medianAdjacent,zao,bO,a9,a5,a8,g,i,zae,zad]
 refine b9 (as':=[.own 1000000 0 0 d.size,int .i64 q,int .i64 (q+1:Nat),int .i64 (q+1+1:Nat),.ptr 1000001 0 0]) rfl ?_;refine a7 t rfl (e _ _) ?_
 push_cast [bO,a9,a5,a8]

open Go.Sort (swp ltInt order2 median medianAdjacent choosePivot Hint)
def ad7:Hint->Int
 | .unknown=>0
 | .increasing=>1
 | .decreasing=>2
theorem ac7 {a:Nat}:(medianAdjacent ltInt d a sw).2<=sw+3/\((medianAdjacent ltInt d a sw).1=a-1\/(medianAdjacent ltInt d a sw).1=a\/(medianAdjacent ltInt d a sw).1=a+1):=by
 unfold medianAdjacent;exact ap1
theorem au2 (d:Array Int) (a b:Nat) (hl:12<b-a) (hb:b<=d.size) (w:d.size<=100000) (m:Nat) :
 b5 P0 84 [.own 1000000 0 0 d.size,int .i64 a,int .i64 b] [bO d m]
  (.tup [int .i64 (choosePivot ltInt d a b).1,int .i64 (ad7 (choosePivot ltInt d a b).2)]) [bO d m]:=by
 refine cd.t func84 ?_;have x:∀k P:Nat,d8 [bO d m,.box [int .i64 k]] [bO d m,.box [int .i64 P]]:=λ k P=>⟨rfl,rfl,trivial⟩
 unfold choosePivot;obtain ⟨l,I⟩:∃l,b-a=l:=⟨_,rfl⟩
 obtain ⟨q,hq⟩:∃q,l/4=q:=⟨_,rfl⟩
 obtain ⟨i,X⟩:∃i,a+q*1=i:=⟨_,rfl⟩
 obtain ⟨j,W⟩:∃j,a+q*2=j:=⟨_,rfl⟩
 obtain ⟨k,hk⟩:∃k,a+q*3=k:=⟨_,rfl⟩
 have Q:IntKind.i64.wrap ((b:Int)-a)=(l:Int):=by rw [a6 (by omega)]; omega
 have V:(l:Int).tdiv 4=(q:Int):=by rw [zak (by omega)]; omega
 have J:IntKind.i64.wrap (q:Int)=(q:Int):=a6 (by omega);have R:IntKind.i64.wrap ((q:Int)*1)=(q:Int)*1:=a6 (by omega);have T:IntKind.i64.wrap ((q:Int)*2)=(q:Int)*2:=a6 (by omega);have U:IntKind.i64.wrap ((q:Int)*3)=(q:Int)*3:=a6 (by omega);have w5:IntKind.i64.wrap ((a:Int)+(q:Int)*1)=(i:Int):=by rw [a6 (by omega)]; omega
 have Z:IntKind.i64.wrap ((a:Int)+(q:Int)*2)=(j:Int):=by rw [a6 (by omega)]; omega
 have w7:IntKind.i64.wrap ((a:Int)+(q:Int)*3)=(k:Int):=by rw [a6 (by omega)]; omega
 have c1:decide ((l:Int)>=8)=true:=by simp; omega
 simp only [I,hq,X,W,hk];rw [if_pos (show l>=8 by omega)]
 have r:∀(p s:Nat),int .i64 (ad7 (if s=0 then Hint.increasing else if s=12 then Hint.decreasing else Hint.unknown))=int .i64 (if s=0 then 1 else if s=12 then 2 else 0):=λ p s=>by
  split
  ·rfl
  split<;>rfl
 push_cast [cd,bO,a9,a5,a8,Q,V,J,R,T,U,w5,Z,w7,c1,zae,zad]
 repeat refine sI ?_
 by_cases o:l>=50
 ·have c2:decide ((l:Int)>=50)=true:=by simp; omega
  rw [if_pos o]
  push_cast [c2,a5,a8]
  have M:=afe d i 0 (by omega) (by omega) w (by omega) m;have B:=ac7 (d:=d) (a:=i) (sw:=0);generalize medianAdjacent ltInt d i 0=Y at *;obtain ⟨K,v⟩:=Y;simp only at M B |-
  have G:K<d.size:=by
   have e:i+1<d.size:=by omega
   obtain ⟨_,h | h | h⟩:=B<;>rw [h]<;>omega
  have h0:v<=0+3:=B.1;clear B;refine a7 M rfl (x 0 _) ?_
  push_cast [bO,a9,a5,a8]
  have O:=afe d j v (by omega) (by omega) w (by omega) m;have z:=ac7 (d:=d) (a:=j) (sw:=v);generalize medianAdjacent ltInt d j v=S at *;obtain ⟨p2,y⟩:=S;simp only at O z |-
  have D:p2<d.size:=by
   have e:j+1<d.size:=by omega
   obtain ⟨_,h | h | h⟩:=z<;>rw [h]<;>omega
  have h1:y<=v+3:=z.1;clear z;refine a7 O rfl (x _ _) ?_
  push_cast [bO,a9,a5,a8]
  have N:=afe d k y (by omega) (by omega) w (by omega) m;have A:=ac7 (d:=d) (a:=k) (sw:=y);generalize medianAdjacent ltInt d k y=r3 at *;obtain ⟨C,H⟩:=r3;simp only at N A |-
  have E:C<d.size:=by
   have e:k+1<d.size:=by omega
   obtain ⟨_,h | h | h⟩:=A<;>rw [h]<;>omega
  have h2:H<=y+3:=A.1;clear A;refine a7 N rfl (x _ _) ?_
  push_cast [bO,a9,a5,a8]
  have u:=afd d K p2 C H G D E w (by omega) m;generalize median ltInt d K p2 C H=F at *;obtain ⟨L,c⟩:=F;simp only at u |-;refine a7 u rfl (x _ _) ?_
  push_cast [bO,a9,a5,a8]
  rw [r L c];by_cases n:c=0
  ·have f:((c:Int) == 0)=true:=by simp [n]
   push_cast [f,if_pos n,a5,a8]
  have f:((c:Int) == 0)=false:=by simp; omega
  rw [if_neg n];by_cases e:c=12
  ·have g:((c:Int) == 12)=true:=by simp [e]
   push_cast [f,g,if_pos e,a5,a8]
  have g:((c:Int) == 12)=false:=by simp; omega
  push_cast [f,g,if_neg e,a5,a8]
 have c2:decide ((l:Int)>=50)=false:=by simp; omega
 rw [if_neg o]
 push_cast [c2,a5,a8]
 have u:=afd d i j k 0 (by omega) (by omega) (by omega) w (by omega) m;generalize median ltInt d i j k 0=F at *;obtain ⟨L,c⟩:=F;simp only at u |-;refine a7 u rfl (x 0 _) ?_
 push_cast [bO,a9,a5,a8]
 rw [r L c];by_cases n:c=0
 ·have f:((c:Int) == 0)=true:=by simp [n]
  push_cast [f,if_pos n,a5,a8]
 have f:((c:Int) == 0)=false:=by simp; omega
 rw [if_neg n];by_cases e:c=12
 ·have g:((c:Int) == 12)=true:=by simp [e]
  push_cast [f,g,if_pos e,a5,a8]
 have g:((c:Int) == 12)=false:=by simp; omega
 push_cast [f,g,if_neg e,a5,a8]

open Go.Sort (swp ltInt scanUp scanDown partEqLoop partitionEqual partLoop partition)
def bk:Mk P0 f88:={ x:=_ }
def dq:Mk P0 f89:={ x:=_ }
variable {j i2 j2:Nat}
theorem ac2 {a:Nat} {e:Array Int} (b:scanUp (λ x=>!ltInt e[a]! x) e j i=i2) (c:scanDown (λ x=>ltInt e[a]! x) e i2 j=j2) (d:i<=i2) (f:j2<=j) (g:1<=i) :
 partEqLoop ltInt a i j e=if i2>j2 then (i2,e) else partEqLoop ltInt a (i2+1) (j2-1) (swp e i2 j2):=by
 rw [partEqLoop];simp only [b,c];split
 ·rfl
 rw [dif_pos (by omega)]
theorem aru (d:Array Int) (a b f:Nat) (X:a<b) (hb:b<=d.size) (O:f<d.size) (hn:d.size<=100000) (m:Nat) :
 b5 P0 88 [.own 1000000 0 0 d.size,int .i64 a,int .i64 b,int .i64 f] [bO d m] (int .i64 (partitionEqual ltInt d a b f).1) [bO (partitionEqual ltInt d a b f).2 m]:=by
 refine bk.t func88 ?_;have P:a<d.size:=by omega
 have D:f<(d.setIfInBounds a d[f]!).size:=by simpa using O
 have S:IntKind.i64.wrap ((a:Int)+1)=(a:Int)+1:=a6 (by omega);obtain ⟨y,K⟩:∃y,b-1=y:=⟨_,rfl⟩
 have Y:IntKind.i64.wrap ((b:Int)-1)=(y:Int):=by rw [a6 (by omega)]; omega
 push_cast [bk,bO,a9,a5,a8,S,Y,b6 (m:=m) P,b6 (m:=m) O,b6 (m:=m) D,l7 (m:=m) P,l7 (m:=m) D,zae,zad,zab,zac,zaa]
 repeat refine sI ?_
 rw [show (d.setIfInBounds a d[f]!).setIfInBounds f d[a]! = swp d a f from rfl];have T:partitionEqual ltInt d a b f=partEqLoop ltInt a (a+1) y (swp d a f):=by rw [partitionEqual,K]
 rw [T];have J:=p5 d a f;generalize hN:d.size=n at *;generalize V:partEqLoop ltInt a (a+1) y (swp d a f)=R
 refine c9 [(9,false),(10,false),(0,false),(1,false)] (λ vs pos c=>∃(i j:Nat) (e:Array Int),1<=i/\i<=j+2/\j<n/\e.size=n/\R=partEqLoop ltInt a i j e/\vs=[int .i64 i,int .i64 j,.own 1000000 0 0 n,int .i64 a]/\pos=[bO e m]/\c=[])
  (λ vs _ _=>match vs with | .r (.v (.int _ i)) :: .r (.v (.int _ j))::_=>(j+1-i).toNat | _=>0) rfl ?_ ?_
 ·push_cast [bO,a5,a8]
  exact ⟨a+1,y,swp d a f,by omega,by omega,by omega,J,V.symm,(by first | rfl | exact ⟨rfl,rfl⟩ | exact ⟨rfl,rfl,rfl⟩)⟩
 rintro vs pos c ⟨i,j,e,w,Q,Z,W,M,rfl,rfl,rfl⟩;have p:a<e.size:=by omega
 push_cast [bO,a5,a8,a9]
 refine c9 [(9,false),(10,false),(0,false),(1,false)] (λ vs pos c=>∃G:Nat,i<=G/\G<=j+2/\scanUp (λ x=>!ltInt e[a]! x) e j i=scanUp (λ x=>!ltInt e[a]! x) e j G/\vs=[int .i64 G,int .i64 j,.own 1000000 0 0 n,int .i64 a]/\pos=[bO e m]/\c=[])
  (λ vs _ _=>match vs with | .r (.v (.int _ i))::_=>(j+1-i).toNat | _=>0) rfl ?_ ?_
 ·push_cast [bO,a5,a8]
  exact ⟨i,by omega,by omega,rfl,(by first | rfl | exact ⟨rfl,rfl⟩ | exact ⟨rfl,rfl,rfl⟩)⟩
 rintro vs pos c ⟨i2,L,h2,N,rfl,rfl,rfl⟩;have F:IntKind.i64.wrap ((i2:Int)+1)=(i2:Int)+1:=a6 (by omega);by_cases B:i2<=j
 ·have g:decide ((i2:Int)<=j)=true:=by simp; omega
  have h:i2<e.size:=by omega
  push_cast [bO,a9,a5,a8,g,F,b6 (m:=m) p,b6 (m:=m) h,zab,zac,zaa]
  repeat refine sI ?_
  refine d9 (pb e[a]! e[i2]!) rfl trivial ?_
  push_cast [bO,a9,a5,a8,g,F,b6 (m:=m) p,b6 (m:=m) h,zab,zac,zaa]
  repeat refine sI ?_
  refine c7 (λ hc=>?_) (λ hc=>?_)
  ·push_cast [bO,a9,a5,a8,g,F]
   refine ⟨⟨i2+1,by omega,by omega,?_,(by first | rfl | exact ⟨rfl,rfl⟩ | exact ⟨rfl,rfl,rfl⟩)⟩,by omega⟩;rw [N,scanUp,if_pos (by simp [B]; simpa using hc)]
  have s:scanUp (λ x=>!ltInt e[a]! x) e j i=i2:=by rw [N,scanUp,if_neg (by simp; intro _; simpa using hc)]
  push_cast [bO,a9,a5,a8]
  refine c9 [(9,false),(10,false),(0,false),(1,false)] (λ vs pos c=>∃q:Nat,q<=j/\i2<=q+2/\scanDown (λ x=>ltInt e[a]! x) e i2 j=scanDown (λ x=>ltInt e[a]! x) e i2 q/\vs=[int .i64 i2,int .i64 q,.own 1000000 0 0 n,int .i64 a]/\pos=[bO e m]/\c=[])
   (λ vs _ _=>match vs with | _ :: .r (.v (.int _ j))::_=>j.toNat | _=>0) rfl ?_ ?_
  ·push_cast [bO,a5,a8]
   exact ⟨j,by omega,by omega,rfl,(by first | rfl | exact ⟨rfl,rfl⟩ | exact ⟨rfl,rfl,rfl⟩)⟩
  rintro vs pos c ⟨j2,E,U,z,rfl,rfl,rfl⟩;by_cases l:i2<=j2
  ·obtain ⟨k,rfl⟩:∃k,j2=k+1:=⟨j2-1,by omega⟩
   have g:decide ((i2:Int)<=(k:Int)+1)=true:=by simp; omega
   have A:decide ((i2:Int)>(k:Int)+1)=false:=by simp; omega
   have I:IntKind.i64.wrap ((k:Int)+1-1)=(k:Int):=by rw [a6 (by omega)]; omega
   have H:k+1<e.size:=by omega
   have h:i2<e.size:=by omega
   push_cast [bO,a9,a5,a8,g,I,b6 (m:=m) p,b6 (m:=m) H,zab,zac,zaa]
   repeat refine sI ?_
   refine d9 (pb e[a]! e[k+1]!) rfl trivial ?_
   push_cast [bO,a9,a5,a8,g,I,b6 (m:=m) p,b6 (m:=m) H,zab,zac,zaa]
   repeat refine sI ?_
   refine c7 (λ hc=>?_) (λ hc=>?_)
   ·push_cast [bO,a9,a5,a8,g,I]
    refine ⟨⟨k,by omega,by omega,?_,(by first | rfl | exact ⟨rfl,rfl⟩ | exact ⟨rfl,rfl,rfl⟩)⟩,by omega⟩;rw [z,scanDown,if_pos (by simp [l,hc])]
   have o:scanDown (λ x=>ltInt e[a]! x) e i2 j=k+1:=by rw [z,scanDown,if_neg (by simp [hc])]
   have u:=ac2 s o L E w;rw [if_neg (by omega)] at u;have C:k+1<(e.setIfInBounds i2 e[k+1]!).size:=by simpa using H
   push_cast [bO,a9,a5,a8,A,I,F,b6 (m:=m) h,b6 (m:=m) H,b6 (m:=m) C,l7 (m:=m) h,l7 (m:=m) C,zab,zac,zaa]
   repeat refine sI ?_
   refine ⟨⟨i2+1,k,swp e i2 (k+1),by omega,by omega,by omega,by rw [p5]; exact W,by rw [M,u]; rfl,(by first | rfl | exact ⟨rfl,rfl⟩ | exact ⟨rfl,rfl,rfl⟩)⟩,by omega⟩
  have g:decide ((i2:Int)<=j2)=false:=by simp; omega
  have A:decide ((i2:Int)>j2)=true:=by simp; omega
  have o:scanDown (λ x=>ltInt e[a]! x) e i2 j=j2:=by
   rw [z];cases j2 with
   | zero=>rfl
   | succ k=>rw [scanDown,if_neg (by simp; omega)]
  have u:=ac2 s o L E w;rw [if_pos (by omega)] at u
  push_cast [bO,a9,a5,a8,g]
  repeat refine sI ?_
  try push_cast [bO,a9,a5,a8,A]
  rw [M,u]
  first | rfl | exact ⟨rfl,rfl⟩
 have g:decide ((i2:Int)<=j)=false:=by simp; omega
 have s:scanUp (λ x=>!ltInt e[a]! x) e j i=i2:=by rw [N,scanUp,if_neg (by simp; omega)]
 push_cast [bO,a9,a5,a8,g]
 repeat refine sI ?_
 refine c9 [(9,false),(10,false),(0,false),(1,false)] (λ vs pos c=>∃q:Nat,q<=j/\i2<=q+2/\scanDown (λ x=>ltInt e[a]! x) e i2 j=scanDown (λ x=>ltInt e[a]! x) e i2 q/\vs=[int .i64 i2,int .i64 q,.own 1000000 0 0 n,int .i64 a]/\pos=[bO e m]/\c=[])
  (λ vs _ _=>match vs with | _ :: .r (.v (.int _ j))::_=>j.toNat | _=>0) rfl ?_ ?_
 ·push_cast [bO,a5,a8]
  exact ⟨j,by omega,by omega,rfl,(by first | rfl | exact ⟨rfl,rfl⟩ | exact ⟨rfl,rfl,rfl⟩)⟩
 rintro vs pos c ⟨j2,E,U,z,rfl,rfl,rfl⟩;by_cases l:i2<=j2
 ·exact absurd l (by omega)
 have g:decide ((i2:Int)<=j2)=false:=by simp; omega
 have A:decide ((i2:Int)>j2)=true:=by simp; omega
 have o:scanDown (λ x=>ltInt e[a]! x) e i2 j=j2:=by
  rw [z];cases j2 with
  | zero=>rfl
  | succ k=>rw [scanDown,if_neg (by simp; omega)]
 have u:=ac2 s o L E w;rw [if_pos (by omega)] at u
 push_cast [bO,a9,a5,a8,g]
 repeat refine sI ?_
 try push_cast [bO,a9,a5,a8,A]
 rw [M,u]
 first | rfl | exact ⟨rfl,rfl⟩

open Go.Sort (swp ltInt scanUp scanDown partLoop partition)
theorem ahl {a:Nat} {e:Array Int} (b:scanUp (λ x=>ltInt x e[a]!) e j i=i2) (c:scanDown (λ x=>!ltInt x e[a]!) e i2 j=j2) (d:i<=i2) (f:j2<=j) (g:1<=i) :
 partLoop ltInt a i j e=if i2>j2 then (j2,e) else partLoop ltInt a (i2+1) (j2-1) (swp e i2 j2):=by
 rw [partLoop];simp only [b,c];split
 ·rfl
 rw [dif_pos (by omega)]
theorem apm (d:Array Int) (a b B:Nat) (h0:a+1<b) (hb:b<=d.size) (W:B<d.size) (hn:d.size<=100000) (m:Nat) :
 b5 P0 89 [.own 1000000 0 0 d.size,int .i64 a,int .i64 b,int .i64 B] [bO d m] (.tup [int .i64 (partition ltInt d a b B).1,bl (partition ltInt d a b B).2.1]) [bO (partition ltInt d a b B).2.2 m]:=by
 refine dq.t func89 ?_;have Y:a<d.size:=by omega
 have Q:B<(d.setIfInBounds a d[B]!).size:=by simpa using W
 have w1:IntKind.i64.wrap ((a:Int)+1)=(a:Int)+1:=a6 (by omega);obtain ⟨q,T⟩:∃q,b-1=q:=⟨_,rfl⟩
 have w2:IntKind.i64.wrap ((b:Int)-1)=(q:Int):=by rw [a6 (by omega)]; omega
 push_cast [dq,bO,a9,a5,a8,w1,w2,b6 (m:=m) Y,b6 (m:=m) W,b6 (m:=m) Q,l7 (m:=m) Y,l7 (m:=m) Q,zae,zad,zab,zac,zaa]
 repeat refine sI ?_
 rw [show (d.setIfInBounds a d[B]!).setIfInBounds B d[a]! = swp d a B from rfl];have S:=p5 d a B;unfold partition;simp only [T];generalize hN:d.size=n at *;generalize swp d a B=c at *;have g:a<c.size:=by omega
 refine c9 [(10,false),(11,false),(0,false),(1,false)] (λ vs pos f=>∃H:Nat,a+1<=H/\H<=q+2/\scanUp (λ x=>ltInt x c[a]!) c q (a+1)=scanUp (λ x=>ltInt x c[a]!) c q H/\vs=[int .i64 H,int .i64 q,.own 1000000 0 0 n,int .i64 a]/\pos=[bO c m]/\f=[])
  (λ vs _ _=>match vs with | .r (.v (.int _ i))::_=>((q:Int)+1-i).toNat | _=>0) rfl ?_ ?_
 ·push_cast [bO,a5,a8]
  exact ⟨a+1,by omega,by omega,rfl,(by first | rfl | exact ⟨rfl,rfl⟩ | exact ⟨rfl,rfl,rfl⟩)⟩
 rintro vs pos f ⟨i2,O,X,J,rfl,rfl,rfl⟩;have E:IntKind.i64.wrap ((i2:Int)+1)=(i2:Int)+1:=a6 (by omega);by_cases w:i2<=q
 ·have h:decide ((i2:Int)<=q)=true:=by simp; omega
  have o:i2<c.size:=by omega
  push_cast [bO,a9,a5,a8,h,E,b6 (m:=m) g,b6 (m:=m) o,zab,zac,zaa]
  repeat refine sI ?_
  refine d9 (pb c[i2]! c[a]!) rfl trivial ?_
  push_cast [bO,a9,a5,a8,h,E,b6 (m:=m) g,b6 (m:=m) o,zab,zac,zaa]
  repeat refine sI ?_
  refine c7 (λ hc=>?_) (λ hc=>?_)
  ·push_cast [bO,a9,a5,a8,h,E]
   refine ⟨⟨i2+1,by omega,by omega,?_,(by first | rfl | exact ⟨rfl,rfl⟩ | exact ⟨rfl,rfl,rfl⟩)⟩,by omega⟩;rw [J,scanUp,if_pos (by simp [w]; simpa using hc)]
  have s:scanUp (λ x=>ltInt x c[a]!) c q (a+1)=i2:=by rw [J,scanUp,if_neg (by simp; intro _; simpa using hc)]
  push_cast [bO,a9,a5,a8]
  refine c9 [(10,false),(11,false),(0,false),(1,false)] (λ vs pos f=>∃u:Nat,u<=q/\i2<=u+2/\scanDown (λ x=>!ltInt x c[a]!) c i2 q=scanDown (λ x=>!ltInt x c[a]!) c i2 u/\vs=[int .i64 i2,int .i64 u,.own 1000000 0 0 n,int .i64 a]/\pos=[bO c m]/\f=[])
   (λ vs _ _=>match vs with | _ :: .r (.v (.int _ j))::_=>j.toNat | _=>0) rfl ?_ ?_
  ·push_cast [bO,a5,a8]
   exact ⟨q,by omega,by omega,rfl,(by first | rfl | exact ⟨rfl,rfl⟩ | exact ⟨rfl,rfl,rfl⟩)⟩
  rintro vs pos f ⟨j2,K,R,z,rfl,rfl,rfl⟩;by_cases l:i2<=j2
  ·obtain ⟨k,rfl⟩:∃k,j2=k+1:=⟨j2-1,by omega⟩
   have h:decide ((i2:Int)<=(k:Int)+1)=true:=by simp; omega
   have A:decide ((i2:Int)>(k:Int)+1)=false:=by simp; omega
   have G:IntKind.i64.wrap ((k:Int)+1-1)=(k:Int):=by rw [a6 (by omega)]; omega
   have F:k+1<c.size:=by omega
   have o:i2<c.size:=by omega
   push_cast [bO,a9,a5,a8,h,G,b6 (m:=m) g,b6 (m:=m) F,zab,zac,zaa]
   repeat refine sI ?_
   refine d9 (pb c[k+1]! c[a]!) rfl trivial ?_
   push_cast [bO,a9,a5,a8,h,G,b6 (m:=m) g,b6 (m:=m) F,zab,zac,zaa]
   repeat refine sI ?_
   refine c7 (λ hc=>?_) (λ hc=>?_)
   ·push_cast [bO,a9,a5,a8,h,G]
    refine ⟨⟨k,by omega,by omega,?_,(by first | rfl | exact ⟨rfl,rfl⟩ | exact ⟨rfl,rfl,rfl⟩)⟩,by omega⟩;rw [z,scanDown,if_pos (by simp [l]; simpa using hc)]
   have p:scanDown (λ x=>!ltInt x c[a]!) c i2 q=k+1:=by rw [z,scanDown,if_neg (by simp; intro _; simpa using hc)]
   have y:k+1<(c.setIfInBounds i2 c[k+1]!).size:=by simpa using F
   have V:¬i2>k+1:=by omega
   simp only [s,p,V,if_false,zao]
   push_cast [bO,a9,a5,a8,A,G,E,b6 (m:=m) o,b6 (m:=m) F,b6 (m:=m) y,l7 (m:=m) o,l7 (m:=m) y,zab,zac,zaa]
   repeat refine sI ?_
   rw [show (c.setIfInBounds i2 c[k+1]!).setIfInBounds (k+1) c[i2]! = swp c i2 (k+1) from rfl];obtain ⟨M,N⟩:∃M,partLoop ltInt a (i2+1) k (swp c i2 (k+1))=M:=⟨_,rfl⟩
   rw [N]
   refine c9 [(10,false),(11,false),(0,false),(1,false)] (λ vs pos f=>∃(i j:Nat) (e:Array Int),1<=i/\i<=j+2/\j<n/\e.size=n/\M=partLoop ltInt a i j e/\vs=[int .i64 i,int .i64 j,.own 1000000 0 0 n,int .i64 a]/\pos=[bO e m]/\f=[])
    (λ vs _ _=>match vs with | .r (.v (.int _ i)) :: .r (.v (.int _ j))::_=>(j+1-i).toNat | _=>0) rfl ?_ ?_
   ·push_cast [bO,a5,a8]
    exact ⟨i2+1,k,swp c i2 (k+1),by omega,by omega,by omega,by rw [p5]; exact S,N.symm,(by first | rfl | exact ⟨rfl,rfl⟩ | exact ⟨rfl,rfl,rfl⟩)⟩
   clear w l s p O X J h K R A z hc F y o E G;rintro vs pos f ⟨i,j,e,L,Z,hj,he,P,rfl,rfl,rfl⟩;have g:a<e.size:=by omega
   push_cast [bO,a5,a8,a9]
   refine c9 [(10,false),(11,false),(0,false),(1,false)] (λ vs pos f=>∃H:Nat,i<=H/\H<=j+2/\scanUp (λ x=>ltInt x e[a]!) e j (i)=scanUp (λ x=>ltInt x e[a]!) e j H/\vs=[int .i64 H,int .i64 j,.own 1000000 0 0 n,int .i64 a]/\pos=[bO e m]/\f=[])
    (λ vs _ _=>match vs with | .r (.v (.int _ i))::_=>((j:Int)+1-i).toNat | _=>0) rfl ?_ ?_
   ·push_cast [bO,a5,a8]
    exact ⟨i,by omega,by omega,rfl,(by first | rfl | exact ⟨rfl,rfl⟩ | exact ⟨rfl,rfl,rfl⟩)⟩
   rintro vs pos f ⟨i2,O,X,J,rfl,rfl,rfl⟩;have E:IntKind.i64.wrap ((i2:Int)+1)=(i2:Int)+1:=a6 (by omega);by_cases w:i2<=j
   ·have h:decide ((i2:Int)<=j)=true:=by simp; omega
    have o:i2<e.size:=by omega
    push_cast [bO,a9,a5,a8,h,E,b6 (m:=m) g,b6 (m:=m) o,zab,zac,zaa]
    repeat refine sI ?_
    refine d9 (pb e[i2]! e[a]!) rfl trivial ?_
    push_cast [bO,a9,a5,a8,h,E,b6 (m:=m) g,b6 (m:=m) o,zab,zac,zaa]
    repeat refine sI ?_
    refine c7 (λ hc=>?_) (λ hc=>?_)
    ·push_cast [bO,a9,a5,a8,h,E]
     refine ⟨⟨i2+1,by omega,by omega,?_,(by first | rfl | exact ⟨rfl,rfl⟩ | exact ⟨rfl,rfl,rfl⟩)⟩,by omega⟩;rw [J,scanUp,if_pos (by simp [w]; simpa using hc)]
    have s:scanUp (λ x=>ltInt x e[a]!) e j (i)=i2:=by rw [J,scanUp,if_neg (by simp; intro _; simpa using hc)]
    push_cast [bO,a9,a5,a8]
    refine c9 [(10,false),(11,false),(0,false),(1,false)] (λ vs pos f=>∃u:Nat,u<=j/\i2<=u+2/\scanDown (λ x=>!ltInt x e[a]!) e i2 j=scanDown (λ x=>!ltInt x e[a]!) e i2 u/\vs=[int .i64 i2,int .i64 u,.own 1000000 0 0 n,int .i64 a]/\pos=[bO e m]/\f=[])
     (λ vs _ _=>match vs with | _ :: .r (.v (.int _ j))::_=>j.toNat | _=>0) rfl ?_ ?_
    ·push_cast [bO,a5,a8]
     exact ⟨j,by omega,by omega,rfl,(by first | rfl | exact ⟨rfl,rfl⟩ | exact ⟨rfl,rfl,rfl⟩)⟩
    rintro vs pos f ⟨j2,K,R,z,rfl,rfl,rfl⟩;by_cases l:i2<=j2
    ·obtain ⟨k,rfl⟩:∃k,j2=k+1:=⟨j2-1,by omega⟩
     have h:decide ((i2:Int)<=(k:Int)+1)=true:=by simp; omega
     have A:decide ((i2:Int)>(k:Int)+1)=false:=by simp; omega
     have G:IntKind.i64.wrap ((k:Int)+1-1)=(k:Int):=by rw [a6 (by omega)]; omega
     have F:k+1<e.size:=by omega
     have o:i2<e.size:=by omega
     push_cast [bO,a9,a5,a8,h,G,b6 (m:=m) g,b6 (m:=m) F,zab,zac,zaa]
     repeat refine sI ?_
     refine d9 (pb e[k+1]! e[a]!) rfl trivial ?_
     push_cast [bO,a9,a5,a8,h,G,b6 (m:=m) g,b6 (m:=m) F,zab,zac,zaa]
     repeat refine sI ?_
     refine c7 (λ hc=>?_) (λ hc=>?_)
     ·push_cast [bO,a9,a5,a8,h,G]
      refine ⟨⟨k,by omega,by omega,?_,(by first | rfl | exact ⟨rfl,rfl⟩ | exact ⟨rfl,rfl,rfl⟩)⟩,by omega⟩;rw [z,scanDown,if_pos (by simp [l]; simpa using hc)]
     have p:scanDown (λ x=>!ltInt x e[a]!) e i2 j=k+1:=by rw [z,scanDown,if_neg (by simp; intro _; simpa using hc)]
     have y:k+1<(e.setIfInBounds i2 e[k+1]!).size:=by simpa using F
     have I:=ahl s p O K L;rw [if_neg (by omega)] at I
     push_cast [bO,a9,a5,a8,A,G,E,b6 (m:=m) o,b6 (m:=m) F,b6 (m:=m) y,l7 (m:=m) o,l7 (m:=m) y,zab,zac,zaa]
     repeat refine sI ?_
     refine ⟨⟨i2+1,k,swp e i2 (k+1),by omega,by omega,by omega,by rw [p5]; exact he,by rw [P,I]; rfl,(by first | rfl | exact ⟨rfl,rfl⟩ | exact ⟨rfl,rfl,rfl⟩)⟩,by omega⟩
    have h:decide ((i2:Int)<=j2)=false:=by simp; omega
    have A:decide ((i2:Int)>j2)=true:=by simp; omega
    have p:scanDown (λ x=>!ltInt x e[a]!) e i2 j=j2:=by
     rw [z];cases j2 with
     | zero=>rfl
     | succ k=>rw [scanDown,if_neg (by simp; omega)]
    push_cast [bO,a9,a5,a8,h]
    repeat refine sI ?_
    have I:=ahl s p O K L;rw [if_pos (by omega)] at I;have U:M=(j2,e):=by rw [P,I]
    clear P;subst U;have D:j2<e.size:=by omega
    have C:a<(e.setIfInBounds j2 e[a]!).size:=by simpa using g
    push_cast [bO,a9,a5,a8,A,b6 (m:=m) D,b6 (m:=m) g,b6 (m:=m) C,l7 (m:=m) D,l7 (m:=m) C,zab,zac,zaa]
    repeat refine sI ?_
    first | done | rfl | exact ⟨rfl,rfl⟩
   have h:decide ((i2:Int)<=j)=false:=by simp; omega
   have s:scanUp (λ x=>ltInt x e[a]!) e j (i)=i2:=by rw [J,scanUp,if_neg (by simp; omega)]
   push_cast [bO,a9,a5,a8,h]
   repeat refine sI ?_
   refine c9 [(10,false),(11,false),(0,false),(1,false)] (λ vs pos f=>∃u:Nat,u<=j/\i2<=u+2/\scanDown (λ x=>!ltInt x e[a]!) e i2 j=scanDown (λ x=>!ltInt x e[a]!) e i2 u/\vs=[int .i64 i2,int .i64 u,.own 1000000 0 0 n,int .i64 a]/\pos=[bO e m]/\f=[])
    (λ vs _ _=>match vs with | _ :: .r (.v (.int _ j))::_=>j.toNat | _=>0) rfl ?_ ?_
   ·push_cast [bO,a5,a8]
    exact ⟨j,by omega,by omega,rfl,(by first | rfl | exact ⟨rfl,rfl⟩ | exact ⟨rfl,rfl,rfl⟩)⟩
   rintro vs pos f ⟨j2,K,R,z,rfl,rfl,rfl⟩;by_cases l:i2<=j2
   ·exact absurd l (by omega)
   have h:decide ((i2:Int)<=j2)=false:=by simp; omega
   have A:decide ((i2:Int)>j2)=true:=by simp; omega
   have p:scanDown (λ x=>!ltInt x e[a]!) e i2 j=j2:=by
    rw [z];cases j2 with
    | zero=>rfl
    | succ k=>rw [scanDown,if_neg (by simp; omega)]
   push_cast [bO,a9,a5,a8,h]
   repeat refine sI ?_
   have I:=ahl s p O K L;rw [if_pos (by omega)] at I;have U:M=(j2,e):=by rw [P,I]
   clear P;subst U;have D:j2<e.size:=by omega
   have C:a<(e.setIfInBounds j2 e[a]!).size:=by simpa using g
   push_cast [bO,a9,a5,a8,A,b6 (m:=m) D,b6 (m:=m) g,b6 (m:=m) C,l7 (m:=m) D,l7 (m:=m) C,zab,zac,zaa]
   repeat refine sI ?_
   first | done | rfl | exact ⟨rfl,rfl⟩
  have h:decide ((i2:Int)<=j2)=false:=by simp; omega
  have A:decide ((i2:Int)>j2)=true:=by simp; omega
  have p:scanDown (λ x=>!ltInt x c[a]!) c i2 q=j2:=by
   rw [z];cases j2 with
   | zero=>rfl
   | succ k=>rw [scanDown,if_neg (by simp; omega)]
  push_cast [bO,a9,a5,a8,h]
  repeat refine sI ?_
  simp only [s,p,show i2>j2 from by omega,if_true];have D:j2<c.size:=by omega
  have C:a<(c.setIfInBounds j2 c[a]!).size:=by simpa using g
  push_cast [bO,a9,a5,a8,A,b6 (m:=m) D,b6 (m:=m) g,b6 (m:=m) C,l7 (m:=m) D,l7 (m:=m) C,zab,zac,zaa]
  repeat refine sI ?_
  first | done | rfl | exact ⟨rfl,rfl⟩
 have h:decide ((i2:Int)<=q)=false:=by simp; omega
 have s:scanUp (λ x=>ltInt x c[a]!) c q (a+1)=i2:=by rw [J,scanUp,if_neg (by simp; omega)]
 push_cast [bO,a9,a5,a8,h]
 repeat refine sI ?_
 refine c9 [(10,false),(11,false),(0,false),(1,false)] (λ vs pos f=>∃u:Nat,u<=q/\i2<=u+2/\scanDown (λ x=>!ltInt x c[a]!) c i2 q=scanDown (λ x=>!ltInt x c[a]!) c i2 u/\vs=[int .i64 i2,int .i64 u,.own 1000000 0 0 n,int .i64 a]/\pos=[bO c m]/\f=[])
  (λ vs _ _=>match vs with | _ :: .r (.v (.int _ j))::_=>j.toNat | _=>0) rfl ?_ ?_
 ·push_cast [bO,a5,a8]
  exact ⟨q,by omega,by omega,rfl,(by first | rfl | exact ⟨rfl,rfl⟩ | exact ⟨rfl,rfl,rfl⟩)⟩
 rintro vs pos f ⟨j2,K,R,z,rfl,rfl,rfl⟩;by_cases l:i2<=j2
 ·exact absurd l (by omega)
 have h:decide ((i2:Int)<=j2)=false:=by simp; omega
 have A:decide ((i2:Int)>j2)=true:=by simp; omega
 have p:scanDown (λ x=>!ltInt x c[a]!) c i2 q=j2:=by
  rw [z];cases j2 with
  | zero=>rfl
  | succ k=>rw [scanDown,if_neg (by simp; omega)]
 push_cast [bO,a9,a5,a8,h]
 repeat refine sI ?_
 simp only [s,p,show i2>j2 from by omega,if_true];have D:j2<c.size:=by omega
 have C:a<(c.setIfInBounds j2 c[a]!).size:=by simpa using g
 push_cast [bO,a9,a5,a8,A,b6 (m:=m) D,b6 (m:=m) g,b6 (m:=m) C,l7 (m:=m) D,l7 (m:=m) C,zab,zac,zaa]
 repeat refine sI ?_
 first | done | rfl | exact ⟨rfl,rfl⟩

open Go.Sort (swp ltInt scanSorted partialIns partialInsertionSort)
def z6:Mk P0 f86:={ x:=_ }

open Go.Sort (swp ltInt scanSorted partialIns partialInsertionSort shiftDown shiftUp)
theorem au3 (d:Array Int) (a b:Nat) (h8:a<b) (hb:b<=d.size) (hn:d.size<=100000) (m:Nat) :
 b5 P0 86 [.own 1000000 0 0 d.size,int .i64 a,int .i64 b] [bO d m] (bl (partialInsertionSort ltInt d a b).2) [bO (partialInsertionSort ltInt d a b).1 m]:=by
 refine z6.t func86 ?_;have w1:IntKind.i64.wrap ((a:Int)+1)=(a:Int)+1:=a6 (by omega);have w2:IntKind.i64.wrap ((b:Int)-a)=(b:Int)-a:=a6 (by omega)
 push_cast [z6,bO,a9,a5,a8,w1,zae,zad,zab,zac,zaa]
 repeat refine sI ?_
 obtain ⟨RR,X⟩:∃RR,partialInsertionSort ltInt d a b=RR:=⟨_,rfl⟩
 rw [X];generalize hN:d.size=n at *
 refine c9 [(7,false),(8,false),(0,false),(1,false),(2,false)] (λ vs pos e=>∃(s i:Nat) (D:Array Int),s<=5/\a+1<=i/\i<=b/\D.size=n/\RR=partialIns ltInt a b s i D/\vs=[int .i64 i,int .i64 (5-s),.own 1000000 0 0 n,int .i64 a,int .i64 b]/\pos=[bO D m]/\e=[])
  (λ vs _ _=>match vs with | _ :: .r (.v (.int _ j))::_=>(5-j).toNat | _=>0) rfl ?_ ?_
 ·push_cast [bO,a5,a8]
  exact ⟨5,a+1,d,by omega,by omega,by omega,hN,X.symm,by simp⟩
 rintro vs pos e ⟨s,Y,D,hs,h6,h9,hD,g,rfl,rfl,rfl⟩;by_cases h4:s=0
 ·subst h4;have o:decide ((5:Int)-(0:Nat)<5)=false:=by decide
  have h5:decide ((5:Int)-0<5)=false:=by decide
  rw [partialIns] at g;subst g
  push_cast [bO,a9,a5,a8,o,h5,zab,zac,zaa]
 obtain ⟨t,rfl⟩:∃t,s=t+1:=⟨s-1,by omega⟩
 obtain ⟨J,hJ⟩:∃J:Int,(5:Int)-(t+1:Nat)=J:=⟨_,rfl⟩
 have o:decide (J<5)=true:=decide_eq_true (by omega);have wJ:IntKind.i64.wrap (J+1)=5-(t:Int):=by rw [a6 (by omega)]; omega
 rw [hJ]
 push_cast [bO,a9,a5,a8,o,zab,zac,zaa]
 refine c9 [(7,false),(8,false),(0,false),(1,false),(2,false)] (λ vs pos e=>∃i:Nat,a+1<=i/\i<=b/\scanSorted ltInt D b Y=scanSorted ltInt D b i/\vs=[int .i64 i,int .i64 J,.own 1000000 0 0 n,int .i64 a,int .i64 b]/\pos=[bO D m]/\e=[])
  (λ vs _ _=>match vs with | .r (.v (.int _ i))::_=>(b-i).toNat | _=>0) rfl ?_ ?_
 ·push_cast [bO,a5,a8]
  exact ⟨Y,by omega,by omega,rfl,(by first | rfl | exact ⟨rfl,rfl⟩ | exact ⟨rfl,rfl,rfl⟩)⟩
 rintro vs pos e ⟨i,h1,h2,hU,rfl,rfl,rfl⟩;by_cases h3:i<b
 ·obtain ⟨k,rfl⟩:∃k,i=k+1:=⟨i-1,by omega⟩
  have o:decide ((k:Int)+1<b)=true:=by simp; omega
  have g1:decide ((k:Int)+1=b)=false:=by simp; omega
  have V:((k:Int)+1 == b)=false:=by simp; omega
  have S:IntKind.i64.wrap ((k:Int)+1+1)=(k:Int)+1+1:=a6 (by omega);have L:IntKind.i64.wrap ((k:Int)+1-1)=(k:Int):=by rw [a6 (by omega)]; omega
  have Z:k<D.size:=by omega
  have x:k+1<D.size:=by omega
  push_cast [bO,a9,a5,a8,o,S,L,b6 (m:=m) Z,b6 (m:=m) x,zab,zac,zaa]
  repeat refine sI ?_
  refine d9 (pb D[k+1]! D[k]!) rfl trivial ?_
  push_cast [bO,a9,a5,a8,o,S,L,b6 (m:=m) Z,b6 (m:=m) x,zab,zac,zaa]
  repeat refine sI ?_
  refine c7 (λ hc=>?_) (λ hc=>?_)
  ·push_cast [bO,a9,a5,a8,o,S,L]
   refine ⟨⟨k+2,by omega,by omega,?_,(by first | rfl | exact ⟨rfl,rfl⟩ | exact ⟨rfl,rfl,rfl⟩)⟩,by omega⟩;rw [hU,scanSorted,if_pos (by simp [h3]; simpa using hc)]
  have R:scanSorted ltInt D b Y=k+1:=by rw [hU,scanSorted,if_neg (by simp; intro _; simpa using hc)]
  rw [partialIns,R,if_neg (by omega)] at g;have k3:k<(D.setIfInBounds (k+1) D[k]!).size:=by simpa using Z
  by_cases W:b-a<50
  ·have g2:decide ((b:Int)-a<50)=true:=by simp; omega
   rw [if_pos W] at g;subst g
   push_cast [bO,a9,a5,a8,o,g1,V,g2,w2,S,L]
   done
  have g2:decide ((b:Int)-a<50)=false:=by simp; omega
  rw [if_neg W] at g
  push_cast [bO,a9,a5,a8,o,g1,V,g2,w2,S,L,b6 (m:=m) Z,b6 (m:=m) x,b6 (m:=m) k3,l7 (m:=m) x,l7 (m:=m) k3,zab,zac,zaa]
  repeat refine sI ?_
  have w5:IntKind.i64.wrap ((k:Int)+1-a)=(k:Int)+1-a:=a6 (by omega);have w6:IntKind.i64.wrap ((b:Int)-(k+1))=(b:Int)-(k+1):=a6 (by omega);obtain ⟨y,Q⟩:∃y,swp D (k+1) k=y:=⟨_,rfl⟩
  have B:y.size=n:=by rw [<- Q,p5]; exact hD
  rw [show (D.setIfInBounds (k+1) D[k]!).setIfInBounds k D[k+1]! = y from Q];simp only [show k+1-1=k from rfl,Q] at g;refine up (λ E ob=>∃q:Array Int,(if k+1-a>=2 then shiftDown ltInt k y else y)=q/\q.size=n/\E 0=.own 1000000 0 0 n/\E 1=int .i64 a/\E 2=int .i64 b/\E 7=int .i64 ((k:Int)+1)/\E 8=int .i64 J/\ob=upd 1000000 (0,bO q m) (λ _=>none)) ?_ (λ G=>?_) (λ G=>?_)
  ·rintro E ob ⟨q,q1,q2,P,K,N,F,C,rfl⟩;rw [q1] at g
   push_cast [bO,a9,a5,a8,P,K,N,F,C,w6,zab,zac,zaa]
   refine up (λ E ob=>∃U:Array Int,(if b-(k+1)>=2 then shiftUp ltInt b (k+2) q else q)=U/\U.size=n/\E 0=.own 1000000 0 0 n/\E 1=int .i64 a/\E 2=int .i64 b/\E 7=int .i64 ((k:Int)+1)/\E 8=int .i64 J/\ob=upd 1000000 (0,bO U m) (λ _=>none)) ?_ (λ M=>?_) (λ M=>?_)
   ·clear P K N F C E;rintro E ob ⟨U,q3,q4,P,K,N,F,C,rfl⟩;rw [show k+1+1=k+2 from rfl,q3] at g
    push_cast [bO,a9,a5,a8,P,K,N,F,C,wJ,zab,zac,zaa]
    exact ⟨⟨t,k+1,U,by omega,by omega,by omega,q4,g,rfl,rfl⟩,by omega⟩
   ·have p:b-(k+1)>=2:=by have:=of_decide_eq_true M; omega
    push_cast [bO,a9,a5,a8,P,K,N,F,C,S,zab,zac,zaa]
    refine c9 [(10,false),(7,false),(8,false),(0,false),(1,false),(2,false)] (λ vs pos e=>∃(j:Nat) (c:Array Int),k+1<=j/\j+1<=b/\c.size=n/\shiftUp ltInt b (k+2) q=shiftUp ltInt b (j+1) c/\vs=[int .i64 ((j:Int)+1),int .i64 ((k:Int)+1),int .i64 J,.own 1000000 0 0 n,int .i64 a,int .i64 b]/\pos=[bO c m]/\e=[])
     (λ vs _ _=>match vs with | .r (.v (.int _ j))::_=>(b-j).toNat | _=>0) rfl ?_ ?_
    ·push_cast [bO,a5,a8,P,K,N,F,C]
     exact ⟨k+1,q,by omega,by omega,q2,rfl,rfl,rfl⟩
    rintro vs pos e ⟨j,c,h0,h7,f,H,rfl,rfl,rfl⟩;by_cases O:j+1<b
    ·have l:decide ((j:Int)+1<b)=true:=decide_eq_true (by omega);have I:IntKind.i64.wrap ((j:Int)+1-1)=j:=by rw [a6 (by omega)]; omega
     have v2:IntKind.i64.wrap ((j:Int)+1+1)=(j:Int)+1+1:=a6 (by omega);have w:j<c.size:=by omega
     have A:j+1<c.size:=by omega
     have T:j<(c.setIfInBounds (j+1) c[j]!).size:=by simpa using w
     push_cast [bO,a9,a5,a8,l,I,v2,b6 (m:=m) w,b6 (m:=m) A,zab,zac,zaa]
     repeat refine sI ?_
     refine d9 (pb c[j+1]! c[j]!) rfl trivial ?_
     push_cast [bO,a9,a5,a8,l,I,v2,b6 (m:=m) w,b6 (m:=m) A,zab,zac,zaa]
     repeat refine sI ?_
     refine c7 (λ hc=>?_) (λ hc=>?_)
     ·push_cast [bO,a9,a5,a8]
      refine ⟨c,?_,f,by funext z; by_cases h:z=1000000<;>simp [upd,h]⟩;rw [if_pos p,H,shiftUp,if_pos O,if_pos (by simpa using hc)]
     push_cast [bO,a9,a5,a8,l,I,v2,b6 (m:=m) w,b6 (m:=m) A,b6 (m:=m) T,l7 (m:=m) A,l7 (m:=m) T,zab,zac,zaa]
     repeat refine sI ?_
     refine ⟨⟨j+1,swp c (j+1) j,by omega,by omega,by rw [p5]; exact f,?_,(by first | rfl | exact ⟨rfl,rfl⟩ | exact ⟨rfl,rfl,rfl⟩)⟩,by omega⟩;rw [H,shiftUp,if_pos O,if_neg (by simpa using hc)]
     rfl
    have l:decide ((j:Int)+1<b)=false:=decide_eq_false (by omega)
    push_cast [bO,a9,a5,a8,l,zab,zac,zaa]
    refine ⟨c,?_,f,by funext z; by_cases h:z=1000000<;>simp [upd,h]⟩;rw [if_pos p,H,shiftUp,if_neg O]
   have p:¬b-(k+1)>=2:=by have:=of_decide_eq_false M; omega
   push_cast [bO,a9,a5,a8,P,K,N,F,C,zab,zac,zaa]
   exact ⟨q,if_neg p,q2,rfl⟩
  ·have u:k+1-a>=2:=by have:=of_decide_eq_true G; rw [w5] at this; omega
   push_cast [bO,a9,a5,a8,L,zab,zac,zaa]
   refine c9 [(9,false),(7,false),(8,false),(0,false),(1,false),(2,false)] (λ vs pos e=>∃(j:Nat) (c:Array Int),j<=k/\c.size=n/\shiftDown ltInt k y=shiftDown ltInt j c/\vs=[int .i64 j,int .i64 ((k:Int)+1),int .i64 J,.own 1000000 0 0 n,int .i64 a,int .i64 b]/\pos=[bO c m]/\e=[])
    (λ vs _ _=>match vs with | .r (.v (.int _ j))::_=>j.toNat | _=>0) rfl ?_ ?_
   ·push_cast [bO,a5,a8]
    exact ⟨k,y,by omega,B,rfl,rfl,rfl⟩
   rintro vs pos e ⟨j,c,h0,f,H,rfl,rfl,rfl⟩;cases j with
   | zero=>
     have l:decide ((0:Int)>=1)=false:=by decide
     push_cast [bO,a9,a5,a8,l,zab,zac,zaa]
     refine ⟨c,?_,f,by funext z; by_cases h:z=1000000<;>simp [upd,h]⟩;rw [if_pos u,H]
     rfl
   | succ j=>
     have l:decide ((j:Int)+1>=1)=true:=decide_eq_true (by omega);have I:IntKind.i64.wrap ((j:Int)+1-1)=j:=by rw [a6 (by omega)]; omega
     have w:j<c.size:=by omega
     have A:j+1<c.size:=by omega
     have T:j<(c.setIfInBounds (j+1) c[j]!).size:=by simpa using w
     push_cast [bO,a9,a5,a8,l,I,b6 (m:=m) w,b6 (m:=m) A,zab,zac,zaa]
     repeat refine sI ?_
     refine d9 (pb c[j+1]! c[j]!) rfl trivial ?_
     push_cast [bO,a9,a5,a8,l,I,b6 (m:=m) w,b6 (m:=m) A,zab,zac,zaa]
     repeat refine sI ?_
     refine c7 (λ hc=>?_) (λ hc=>?_)
     ·push_cast [bO,a9,a5,a8]
      refine ⟨c,?_,f,by funext z; by_cases h:z=1000000<;>simp [upd,h]⟩;rw [if_pos u,H,shiftDown,if_pos (by simpa using hc)]
     push_cast [bO,a9,a5,a8,l,I,b6 (m:=m) w,b6 (m:=m) A,b6 (m:=m) T,l7 (m:=m) A,l7 (m:=m) T,zab,zac,zaa]
     repeat refine sI ?_
     refine ⟨⟨j,swp c (j+1) j,by omega,by rw [p5]; exact f,?_,(by first | rfl | exact ⟨rfl,rfl⟩ | exact ⟨rfl,rfl,rfl⟩)⟩,by omega⟩;rw [H,shiftDown,if_neg (by simpa using hc)]
  have u:¬k+1-a>=2:=by have:=of_decide_eq_false G; rw [w5] at this; omega
  push_cast [bO,a9,a5,a8,L,zab,zac,zaa]
  exact ⟨y,if_neg u,B,by funext z; by_cases h:z=1000000<;>simp [upd,h]⟩
 have o:decide ((i:Int)<b)=false:=by simp; omega
 have g1:((i:Int) == b)=true:=by simp; omega
 have R:scanSorted ltInt D b Y=i:=by rw [hU,scanSorted,if_neg (by simp; omega)]
 rw [partialIns,R,if_pos (by omega)] at g;subst g
 push_cast [bO,a9,a5,a8,o,g1]
 show _=true;kernel_rfl

open Go.Sort (swp ltInt bitsLen xorNext)
def lv:Mk P0 f122:={ x:=_ }
def oq:Mk P0 f123:={ x:=_ }
theorem aoi (x:Int):IntKind.u64.wrap x=x%18446744073709551616:=by simp [IntKind.wrap,IntKind.bits,IntKind.signed]
theorem qn {x:Int} (h:0<=x/\x<18446744073709551616):IntKind.u64.wrap x=x:=by rw [aoi]; omega
theorem as6 (a:UInt64) (k:Nat) (c:k<64):IntKind.u64.wrap ((a.toNat:Int)*2^k)=((a <<< (UInt64.ofNat k)).toNat:Int):=by
 have b:(UInt64.ofNat k).toNat=k:=by simp; omega
 rw [UInt64.toNat_shiftLeft,b,Nat.mod_eq_of_lt c,Nat.shiftLeft_eq,aoi];simp
theorem aze (a:UInt64) (k:Nat) (d:k<64):(a.toNat:Int).fdiv (2^k)=((a >>> (UInt64.ofNat k)).toNat:Int):=by
 have c:(UInt64.ofNat k).toNat=k:=by simp; omega
 rw [UInt64.toNat_shiftRight,c,Nat.mod_eq_of_lt d,Nat.shiftRight_eq_div_pow];have e:=a.toNat_lt;have b:((2^k:Nat):Int)=(2:Int)^k:=by simp
 rw [<- b,Int.fdiv_eq_ediv_of_nonneg _ (Int.natCast_nonneg _),<- Int.natCast_ediv]
theorem aws (a:UInt64):zal IntKind.u64.bits (a.toNat:Int)=a.toBitVec:=by
 apply BitVec.eq_of_toNat_eq;rw [BitVec.toNat_ofInt];have:=a.toNat_lt;show ((a.toNat:Int)%((2^64:Nat):Int)).toNat=a.toNat;omega
theorem azd (a b:UInt64):IntKind.u64.wrap ((zal IntKind.u64.bits (a.toNat:Int) ^^^ zal IntKind.u64.bits (b.toNat:Int)).toNat:Int)=((a ^^^ b).toNat:Int):=by
 rw [aws,aws];have h:(a.toBitVec ^^^ b.toBitVec).toNat=(a ^^^ b).toNat:=rfl;have:=(a ^^^ b).toNat_lt;refine (congrArg IntKind.u64.wrap (congrArg Int.ofNat h)).trans ?_;exact qn ⟨Int.natCast_nonneg _,Int.ofNat_lt.2 this⟩
theorem ave (n:Nat) (d:n<128):b5 P0 91 [int .u64 n] [] (int .i64 (bitsLen n)) []:=by
 refine aee rfl (by decide) ?_;have a:decide ((n:Int)>=4294967296)=false:=by simp; omega
 have c:decide ((n:Int)>=65536)=false:=by simp; omega
 have b:decide ((n:Int)>=256)=false:=by simp; omega
 have w:IntKind.u8.wrap (n:Int)=n:=by simp [IntKind.wrap,IntKind.bits,IntKind.signed]; omega
 push_cast [acn,a,c,b,w,zab,zad]
 refine ⟨⟨by omega,(show (n:Int)<((256:Nat):Int) by omega)⟩,?_⟩;refine congrArg (λ z=>AV.r (.v (.int .i64 z))) ?_;clear a c b w
 revert n
 decide +kernel
theorem ako (n:Nat) (a:n<128):b5 P0 52 [int .u64 n] [] (int .i64 (bitsLen n)) []:=by
 refine aew.t func52 ?_;have w:IntKind.u64.wrap (n:Int)=n:=qn (by omega)
 push_cast [aew,w,zad]
 refine a7 (ave n a) rfl trivial ?_
 push_cast
theorem axr (n:Nat) (a:n<128):b5 P0 122 [int .i64 n] [] (int .u64 (1 <<< bitsLen n:Nat)) []:=by
 refine lv.t func122 ?_;have w:IntKind.u64.wrap (n:Int)=n:=qn (by omega)
 push_cast [lv,w,zad]
 refine a7 (ako n a) rfl trivial ?_
 push_cast
 refine ⟨by omega,?_⟩;refine congrArg (λ z=>AV.r (.v (.int .u64 z))) ?_;clear w
 revert n
 decide +kernel
theorem axs (r:UInt64):b5 P0 123 [.ptr 1000000 0 0] [.box [int .u64 r.toNat]] (int .u64 (xorNext r).toNat) [.box [int .u64 (xorNext r).toNat]]:=by
 refine oq.t func123 ?_;have g:(min (Int.toNat 13) IntKind.u64.bits)=13:=rfl;have f:(min (Int.toNat 7) IntKind.u64.bits)=7:=rfl;have c:(min (Int.toNat 17) IntKind.u64.bits)=17:=rfl;have h:∀a:UInt64,a <<< (UInt64.ofNat 13)=a <<< 13:=λ _=>rfl;have b:∀a:UInt64,a >>> (UInt64.ofNat 7)=a >>> 7:=λ _=>rfl;have j:∀a:UInt64,a <<< (UInt64.ofNat 17)=a <<< 17:=λ _=>rfl;have d:=λ a=>as6 a 13 (by decide);have i:=λ a=>aze a 7 (by decide);have e:=λ a=>as6 a 17 (by decide);simp only [oq,g,f,c,d,i,e,h,b,j,azd,push_cast,↓reduceIte,reduceCtorEq,zB,zE,zA,zS,zL,zD,zM]
 repeat refine sI ?_
 rfl

open Go.Sort (swp ltInt bitsLen xorNext breakStep breakPatterns)
def bp:Mk P0 f83:={ x:=_ }
def brk (a l b:Nat):Nat->Nat->UInt64×Array Int->Array Int
 | 0,_,st=>st.2
 | s+1,idx,st=>brk a l b s (idx+1) (breakStep a l b st idx)
theorem ay3 {a b:Nat} (h:8<=b-a):breakPatterns d a b=brk a (b-a) (1 <<< bitsLen (b-a)) 3 (a+(b-a)/4*2-1) (UInt64.ofNat (b-a),d):=by
 unfold breakPatterns;simp only [show b-a>=8 from h,if_true]
 rfl
theorem an5 (x a:Nat) (k:Nat) (c:k<=62) (b:a=2^k) (hx:x<18446744073709551616):IntKind.u64.wrap ((zal IntKind.u64.bits (x:Int) &&& zal IntKind.u64.bits ((a:Int)-1)).toNat)=((x &&& (a-1):Nat):Int):=by
 rw [an4 x ((a:Int)-1) k (by omega) (by rw [b]; simp) (Int.natCast_nonneg _) (by omega),b,Nat.and_two_pow_sub_one_eq_mod];simp
theorem av6 (d:Array Int) (a b:Nat) (hl:8<=b-a) (hb:b<=d.size) (hn:d.size<128) (m:Nat) :
 b5 P0 83 [.own 1000000 0 0 d.size,int .i64 a,int .i64 b] [bO d m] (.tup []) [bO (breakPatterns d a b) m]:=by
 refine bp.t func83 ?_;rw [ay3 hl];have y:=Go.Sort.lt_two_pow_bitsLen (b-a);have x:=Go.Sort.two_pow_bitsLen_le (n:=b-a) (by omega);obtain ⟨l,N⟩:∃l,b-a=l:=⟨_,rfl⟩
 obtain ⟨q,hq⟩:∃q,l/4=q:=⟨_,rfl⟩
 obtain ⟨B,R⟩:∃B,bitsLen l=B:=⟨_,rfl⟩
 obtain ⟨f,A⟩:∃f,1 <<< B=f:=⟨_,rfl⟩
 have g:f=2^B:=by rw [<- A,Nat.shiftLeft_eq,Nat.one_mul]
 rw [N] at y x |-;rw [R] at y x;rw [R,A,hq]
 have C:B<=62:=by
  rcases Nat.lt_or_ge 62 B with h | h
  ·have:=Nat.pow_le_pow_right (n:=2) (by decide) (show 9<=B by omega);omega
  exact h
 rw [<- g] at y x;obtain ⟨k,J⟩:∃k,a+q*2-1=k:=⟨_,rfl⟩
 have T:IntKind.i64.wrap ((b:Int)-a)=(l:Int):=by rw [a6 (by omega)]; omega
 have L:(l:Int).tdiv 4=(q:Int):=by rw [zak (by omega)]; omega
 have p:IntKind.i64.wrap (q:Int)=(q:Int):=a6 (by omega);have S:IntKind.i64.wrap ((q:Int)*2)=(q:Int)*2:=a6 (by omega);have K:IntKind.i64.wrap ((a:Int)+(q:Int)*2)=(a:Int)+(q:Int)*2:=a6 (by omega);have U:IntKind.i64.wrap ((a:Int)+(q:Int)*2-1)=(k:Int):=by rw [a6 (by omega)]; omega
 have w5:IntKind.i64.wrap ((a:Int)+(q:Int)*2+1)=(k:Int)+2:=by rw [a6 (by omega)]; omega
 have W:IntKind.u64.wrap (l:Int)=(l:Int):=qn (by omega);have w7:IntKind.u64.wrap ((f:Int)-1)=(f:Int)-1:=qn (by omega);have Z:decide ((l:Int)>=8)=true:=by simp; omega
 push_cast [bp,bO,a9,a5,a8,T,L,p,S,K,U,W,Z,zae,zad,zab,zac,zaa]
 repeat refine sI ?_
 refine a7 (axr l (by omega)) rfl trivial ?_;rw [R,A]
 push_cast [bO,a9,a5,a8,T,L,p,S,K,U,W,Z,zae,zad,zab,zac,zaa]
 repeat refine sI ?_
 generalize hN:d.size=n at *;obtain ⟨P,H⟩:∃P,brk a l f 3 k (UInt64.ofNat l,d)=P:=⟨_,rfl⟩
 rw [J,H]
 refine c9 [(9,false),(0,false),(1,false),(6,false),(7,false),(8,false)] (λ vs pos F=>∃(s idx:Nat) (r:UInt64) (e:Array Int),s+idx=k+3/\s<=3/\e.size=n/\P=brk a l f s idx (r,e)/\vs=[int .i64 idx,.own 1000000 0 0 n,int .i64 a,int .i64 l,.ptr 2000000 0 0,int .u64 f]/\pos=[bO e m]/\F=[.box [int .u64 r.toNat]])
  (λ vs _ _=>match vs with | .r (.v (.int _ i))::_=>((k:Int)+3-i).toNat | _=>0) rfl ?_ ?_
 ·push_cast [bO,a5,a8]
  refine ⟨3,k,UInt64.ofNat l,d,by omega,by omega,hN,H.symm,(by first | rfl | exact ⟨rfl,rfl⟩ | exact ⟨rfl,rfl,rfl⟩),?_⟩;have:(UInt64.ofNat l).toNat=l:=by simp; omega
  rw [this];exact ⟨rfl,rfl⟩
 rintro vs pos F ⟨s,idx,r,e,h1,h2,X,Q,rfl,rfl,rfl⟩
 push_cast [bO,a9,a5,a8,L,p,S,K,w5,zab,zac,zaa]
 repeat refine sI ?_
 refine c7 (λ hc=>?_) (λ hc=>?_)
 ·obtain ⟨s',rfl⟩:∃s',s=s'+1:=⟨s-1,by simp at hc; omega⟩
  push_cast [bO,a9,a5,a8,zab,zac,zaa]
  refine a7 (axs r) rfl ⟨rfl,trivial⟩ ?_;have hx:=(xorNext r).toNat_lt;have j:=an5 (xorNext r).toNat f B C g hx;obtain ⟨o,I⟩:∃o,(xorNext r).toNat &&& (f-1)=o:=⟨_,rfl⟩
  rw [I] at j;have Y:o<=f-1:=by rw [<- I]; exact Nat.and_le_right
  have wo:IntKind.i64.wrap (o:Int)=(o:Int):=a6 (by omega)
  push_cast [bO,a9,a5,a8,w7,j,wo,zab,zac,zaa]
  repeat refine sI ?_
  have c:idx<e.size:=by omega
  have V:IntKind.i64.wrap ((idx:Int)+1)=(idx:Int)+1:=a6 (by omega)
  have E:∀t:Nat,t<l->(breakStep a l f (r,e) idx)=(xorNext r,swp e idx (a+t))->brk a l f (s'+1) idx (r,e)=brk a l f s' (idx+1) (xorNext r,swp e idx (a+t)):=λ t ht h=>by
   rw [brk,h]
  refine c7 (λ hc=>?_) (λ hc=>?_)
  ·have h3:l<=o:=by simp at hc; omega
   obtain ⟨t,rfl⟩:∃t,o=l+t:=⟨o-l,by omega⟩
   have ht:t<l:=by omega
   have wt:IntKind.i64.wrap (((l+t:Nat):Int)-l)=(t:Int):=by rw [a6 (by omega)]; omega
   have u:IntKind.i64.wrap ((a:Int)+t)=((a+t:Nat):Int):=by rw [a6 (by omega)]; omega
   have G:a+t<e.size:=by omega
   have D:a+t<(e.setIfInBounds idx e[a+t]!).size:=by simpa using G
   have w:=E t ht (by
    unfold breakStep;simp only [I];rw [if_pos (by omega)]
    simp)
   generalize O:a+t=z at *;generalize h0:l+t=h4 at *
   push_cast [bO,a9,a5,a8,wt,u,V,b6 (m:=m) c,b6 (m:=m) G,b6 (m:=m) D,l7 (m:=m) c,l7 (m:=m) D,zab,zac,zaa]
   repeat refine sI ?_
   refine ⟨⟨s',idx+1,xorNext r,swp e idx z,by omega,by omega,by rw [p5]; exact X,by rw [Q,w],(by first | rfl | exact ⟨rfl,rfl⟩ | exact ⟨rfl,rfl,rfl⟩)⟩,by omega⟩
  have M:o<l:=by simp at hc; omega
  have u:IntKind.i64.wrap ((a:Int)+o)=((a+o:Nat):Int):=by rw [a6 (by omega)]; omega
  have G:a+o<e.size:=by omega
  have D:a+o<(e.setIfInBounds idx e[a+o]!).size:=by simpa using G
  have w:=E o M (by
   unfold breakStep;simp only [I]
   rw [if_neg (by omega)])
  generalize O:a+o=z at *
  push_cast [bO,a9,a5,a8,u,V,b6 (m:=m) c,b6 (m:=m) G,b6 (m:=m) D,l7 (m:=m) c,l7 (m:=m) D,zab,zac,zaa]
  repeat refine sI ?_
  refine ⟨⟨s',idx+1,xorNext r,swp e idx z,by omega,by omega,by rw [p5]; exact X,by rw [Q,w],(by first | rfl | exact ⟨rfl,rfl⟩ | exact ⟨rfl,rfl,rfl⟩)⟩,by omega⟩
 have hs:s=0:=by simp at hc; omega
 subst hs
 push_cast [bO,a9,a5,a8,zab,zac,zaa]
 rw [Q]
 rfl

open Go.Sort (swp ltInt bitsLen breakPatterns pdq insertionSort heapSort choosePivot Hint reverseRange partialInsertionSort partition partitionEqual Below PermIn SWO)
structure Rnd (e:Array Int) (a b limit:Nat) (wb wp:Bool) (d1:Array Int) (l1:Nat) (d2:Array Int) (pv:Nat) (hint:Hint) (d3:Array Int) (F:Bool):Prop where
 g1:(if !wb then breakPatterns e a b else e)=d1
 g2:(if !wb then limit-1 else limit)=l1
 g3:(if (choosePivot ltInt d1 a b).2=.decreasing then reverseRange d1 a b else d1)=d2
 g4:(if (choosePivot ltInt d1 a b).2=.decreasing then (b-1)-((choosePivot ltInt d1 a b).1-a) else (choosePivot ltInt d1 a b).1)=pv
 g5:(if (choosePivot ltInt d1 a b).2=.decreasing then Hint.increasing else (choosePivot ltInt d1 a b).2)=hint
 g6:((wb&&wp&&decide (hint=.increasing))&&(partialInsertionSort ltInt d2 a b).2)=F
 g7:(if (wb&&wp&&decide (hint=.increasing))=true then (partialInsertionSort ltInt d2 a b).1 else d2)=d3
section
variable {e d1 d2 d3:Array Int} {a b limit l1 pv:Nat} {wb wp F:Bool} {hint:Hint}
theorem apl (h:b-a<=12):pdq ltInt e a b limit wb wp=insertionSort ltInt e a b:=by rw [pdq,if_pos h]
theorem art (h:¬b-a<=12) (c:limit=0):pdq ltInt e a b limit wb wp=heapSort ltInt e a b:=by rw [pdq,if_neg h,if_pos c]
theorem azq (c:Bool):(if c=true then partialInsertionSort ltInt d2 a b else (d2,false))=((if c=true then (partialInsertionSort ltInt d2 a b).1 else d2),c&&(partialInsertionSort ltInt d2 a b).2):=by
 cases c<;>rfl
theorem Rnd.eq (R:Rnd e a b limit wb wp d1 l1 d2 pv hint d3 F) (h:¬b-a<=12) (c:limit≠0) :
 pdq ltInt e a b limit wb wp=if F=true then d3 else
  if (decide (a>0) && !ltInt d3[a-1]! d3[pv]!)=true then
   match partitionEqual ltInt d3 a b pv with
   | (mid,d4)=>if _h:a<mid/\mid<=b then pdq ltInt d4 mid b l1 wb wp else d4
  else
   match partition ltInt d3 a b pv with
   | (mid,ap,d4)=>
     if _h:a<=mid/\mid<b then
      if mid-a<b-mid then pdq ltInt (pdq ltInt d4 a mid l1 true true) (mid+1) b l1 (decide (mid-a>=(b-a)/8)) ap
      else pdq ltInt (pdq ltInt d4 (mid+1) b l1 true true) a mid l1 (decide (b-mid>=(b-a)/8)) ap
     else d4:=by
 rw [pdq,if_neg h,if_neg c];simp only [R.g1,R.g2,R.g3,R.g4,R.g5,azq,R.g6,R.g7]
theorem Rnd.facts (R:Rnd e a b limit wb wp d1 l1 d2 pv hint d3 F) (h:a<b) (f:b<=e.size) (l:Below ltInt a b e) :
 d1.size=e.size/\d3.size=e.size/\l1<=limit/\Below ltInt a b d3/\a<=pv/\pv<b/\d2.size=e.size:=by
 have c:PermIn a b e d1:=by
  rw [<- R.g1];split
  ·exact Go.Sort.breakPatterns_holds e a b (by omega) f
  exact Go.Sort.permIn_refl e a b
 have g:b<=d1.size:=by rw [c.1]; exact f
 have d:PermIn a b d1 d2:=by
  rw [<- R.g3];split
  ·exact Go.Sort.reverseRange_holds d1 a b (by omega) g
  exact Go.Sort.permIn_refl d1 a b
 have j:b<=d2.size:=by rw [d.1]; exact g
 have i:=(l.perm f c).perm g d
 have k:PermIn a b d2 d3:=by
  rw [<- R.g7];split
  ·exact (Go.Sort.partialInsertionSort_holds Go.Sort.swo_ltInt d2 a b h j i).1
  exact Go.Sort.permIn_refl d2 a b
 have hc:=Go.Sort.choosePivot_holds ltInt d1 a b h;refine ⟨c.1,k.1.trans (d.1.trans c.1),by rw [<- R.g2]; split<;>omega,i.perm j k,?_,?_,d.1.trans c.1⟩
 ·rw [<- R.g4]; split<;>omega
 rw [<- R.g4]; split<;>omega
theorem Rnd.eqs (R:Rnd e a b limit wb wp d1 l1 d2 pv hint d3 F) (h:¬b-a<=12) (l:b<=e.size) (i:Below ltInt a b e)
 (d:(decide (a>0) && !ltInt d3[a-1]! d3[pv]!)=true) {c:Nat} {f:Array Int} (hx:partitionEqual ltInt d3 a b pv=(c,f)) :
 a<c/\c<=b/\f.size=e.size/\Below ltInt c b f:=by
 obtain ⟨r,k,s,m,q,n,_⟩:=R.facts (by omega) l i;simp only [Bool.and_eq_true,decide_eq_true_eq,Bool.not_eq_true'] at d;obtain ⟨o,j,p,g,_⟩:=Go.Sort.round_eq Go.Sort.swo_ltInt (Go.Sort.partitionEqual_holds ltInt) d.1 q n (by omega) m d.2 hx;exact ⟨o,j,p.trans k,g⟩
theorem Rnd.parts (R:Rnd e a b limit wb wp d1 l1 d2 pv hint d3 F) (h:¬b-a<=12) (t:b<=e.size) (s:Below ltInt a b e) {c:Nat} {m:Bool} {d:Array Int} (hx:partition ltInt d3 a b pv=(c,m,d)) :
 a<=c/\c<b/\d.size=e.size/\Below ltInt a c d/\Below ltInt (c+1) b d /\
 (pdq ltInt d a c l1 true true).size=e.size/\Below ltInt (c+1) b (pdq ltInt d a c l1 true true) /\
 (pdq ltInt d (c+1) b l1 true true).size=e.size/\Below ltInt a c (pdq ltInt d (c+1) b l1 true true):=by
 obtain ⟨w,j,v,p,q,u,_⟩:=R.facts (by omega) t s;obtain ⟨l,o,f,i,g,r,n⟩:=Go.Sort.round_part Go.Sort.swo_ltInt (Go.Sort.partition_holds ltInt) q u (by omega) p hx;have k:=Go.Sort.pdq_sorts ltInt Go.Sort.swo_ltInt d a c l1 true true l (by omega) i;have p2:=Go.Sort.pdq_sorts ltInt Go.Sort.swo_ltInt d (c+1) b l1 true true (by omega) (by omega) g;exact ⟨l,o,f.trans j,i,g,k.1.1.trans (f.trans j),(r _ k.1 k.2).1,p2.1.1.trans (f.trans j),(n _ p2.1 p2.2).1⟩
end

open Go.Sort (swp ltInt bitsLen breakPatterns pdq insertionSort heapSort choosePivot Hint reverseRange partialInsertionSort partition partitionEqual Below PermIn SWO)
def u7:Mk P0 f51:={ x:=_ }
theorem adx (i:Nat) (x y:Nat×Ob) (f:Obs):upd i x (upd i y f)=upd i x f:=by
 funext n;simp only [upd];split<;>rfl
def asz (m N:Nat):Prop:=∀(d:Array Int) (a b c:Nat),b-a<=N->a<=b->b<=d.size->d.size<128->c<=100->Below ltInt a b d ->
 b5 P0 51 [.own 1000000 0 0 d.size,int .i64 a,int .i64 b,int .i64 c] [bO d m] (.tup []) [bO (pdq ltInt d a b c true true) m]
theorem kw {f g:Array Int} (h:g.size=f.size):d8 [bO f m] [bO g m]:=⟨by rw [a9,a9,h],trivial⟩
theorem ars (m N:Nat) (ih:∀N',N'<N->asz m N'):asz m N:=by
 intro d a b i hN O hb hn h1 hB;refine u7.t func51 ?_;obtain ⟨RR,B⟩:∃RR,pdq ltInt d a b i true true=RR:=⟨_,rfl⟩
 rw [B]
 push_cast [u7,bO,a9,a5,a8,zae,zad,zab,zac,zaa]
 repeat refine sI ?_
 obtain ⟨n,hj⟩:∃n,d.size=n:=⟨_,rfl⟩
 rw [hj] at hb hn |-
 refine c9 [(8,false),(9,false),(0,false),(1,false),(2,false),(3,false)] (λ vs pos hm=>∃(a b i:Nat) (K U:Bool) (e:Array Int),a<=b/\b<=n/\e.size=n/\b-a<=N/\i<=100/\Below ltInt a b e/\RR=pdq ltInt e a b i K U/\vs=[bl K,bl U,.own 1000000 0 0 n,int .i64 a,int .i64 b,int .i64 i]/\pos=[bO e m]/\hm=[])
  (λ vs _ _=>match vs with | [_,_,_,.r (.v (.int _ a)),.r (.v (.int _ b)),_]=>(b-a).toNat | _=>0) rfl ?_ ?_
 ·push_cast [bO,a5,a8]
  exact ⟨a,b,i,true,true,d,O,hb,hj,hN,h1,hB,B.symm,(by first | rfl | exact ⟨rfl,rfl⟩ | exact ⟨rfl,rfl,rfl⟩)⟩
 clear B hB h1 hN O hb hj;rintro vs pos hm ⟨a,b,i,K,U,e,O,hb,W,hN,h1,hB,B,rfl,rfl,rfl⟩;have w0:IntKind.i64.wrap ((b:Int)-a)=(b:Int)-a:=a6 (by omega);obtain ⟨l,hl⟩:∃l,b-a=l:=⟨_,rfl⟩
 have w0:IntKind.i64.wrap ((b:Int)-a)=(l:Int):=by rw [a6 (by omega)]; omega
 push_cast [bO,a9,a5,a8,w0,zab,zac,zaa]
 refine c7 (λ hc=>?_) (λ hc=>?_)
 ·have P:b-a<=12:=by simp at hc; omega
  push_cast [bO,a9,a5,a8,zab,zac,zaa]
  have o:=a0b e a b O (by omega) (by omega) m;rw [W] at o;refine a7 o rfl (kw (Go.Sort.insertionSort_holds Go.Sort.swo_ltInt e a b O (by omega)).1.1) ?_;rw [B,apl P]
  push_cast [bO,a9,a5,a8,zab,zac,zaa]
 have P:¬b-a<=12:=by simp at hc; omega
 push_cast [bO,a9,a5,a8,zab,zac,zaa]
 refine c7 (λ hh=>?_) (λ hh=>?_)
 ·have h0:i=0:=by simp at hh; omega
  push_cast [bO,a9,a5,a8,zab,zac,zaa]
  have o:=aye e a b (by omega) (by omega) (by omega) m;rw [W] at o;refine a7 o rfl (kw (Go.Sort.heapSort_holds Go.Sort.swo_ltInt e a b O (by omega)).1.1) ?_;rw [B,art P h0]
  push_cast [bO,a9,a5,a8,zab,zac,zaa]
 have h0:i≠0:=by simp at hh; omega
 push_cast [bO,a9,a5,a8,zab,zac,zaa]
 refine up (λ E ob=>∃(X:Array Int) (J:Nat),(if !K then breakPatterns e a b else e)=X/\(if !K then i-1 else i)=J/\E 0=.own 1000000 0 0 n/\E 1=int .i64 a/\E 2=int .i64 b/\E 3=int .i64 J/\E 8=bl K/\E 9=bl U/\E 10=int .i64 l/\ob=upd 1000000 (0,bO X m) (λ _=>none)) ?_ (λ ha=>?_) (λ ha=>?_)
 ·rintro E ob ⟨X,J,q1,q2,A,w,z,q,s,u,g,rfl⟩
  have h2:X.size=n:=by
   rw [<- W,<- q1];split
   ·exact (Go.Sort.breakPatterns_holds e a b O (by omega)).1
   rfl
  push_cast [bO,a9,a5,a8,A,w,z,q,s,u,g,zab,zac,zaa]
  have o:=au2 X a b (by omega) (by omega) (by omega) m;rw [h2] at o;refine a7 o rfl (kw rfl) ?_;clear o;obtain ⟨c,h,h3⟩:∃c h,choosePivot ltInt X a b=(c,h):=⟨_,_,rfl⟩
  have hk:=Go.Sort.choosePivot_holds ltInt X a b (by omega);rw [h3] at hk |-;simp only at hk
  push_cast [bO,a9,a5,a8,A,w,z,q,s,u,g,zab,zac,zaa]
  refine up (λ E ob=>∃(d2:Array Int) (L:Nat) (p:Hint),(if h=.decreasing then reverseRange X a b else X)=d2/\(if h=.decreasing then (b-1)-(c-a) else c)=L/\(if h=.decreasing then Hint.increasing else h)=p/\E 0=.own 1000000 0 0 n/\E 1=int .i64 a/\E 2=int .i64 b/\E 3=int .i64 J/\E 8=bl K/\E 9=bl U/\E 10=int .i64 l/\E 11=int .i64 L/\E 12=int .i64 (ad7 p)/\ob=upd 1000000 (0,bO d2 m) (λ _=>none)) ?_ (λ h7=>?_) (λ h7=>?_)
  ·clear A w z q s u g E;rintro E ob ⟨d2,L,p,q3,q4,q5,A,w,z,q,s,u,g,k,V,rfl⟩
   push_cast [bO,a9,a5,a8,A,w,z,q,s,u,g,k,V,zab,zac,zaa]
   have hG:(bif bif K then U else false then ad7 p == 1 else false)=(K&&U&&decide (p=.increasing)):=by cases K<;>cases U<;>cases p<;>rfl
   obtain ⟨H,q6⟩:∃H,(if (K&&U&&decide (p=.increasing))=true then (partialInsertionSort ltInt d2 a b).1 else d2)=H:=⟨_,rfl⟩
   have R:Rnd e a b i K U X J d2 L p H ((K&&U&&decide (p=.increasing))&&(partialInsertionSort ltInt d2 a b).2):=⟨q1,q2,by rw [h3]; exact q3,by rw [h3]; exact q4,by rw [h3]; exact q5,rfl,q6⟩
   obtain ⟨hv,h5,g2,g4,hw,hz,hu⟩:=R.facts (by omega) (by omega) hB;have j:=R.eq P h0;refine up (λ E ob=>((K&&U&&decide (p=.increasing))&&(partialInsertionSort ltInt d2 a b).2)=false/\E 0=.own 1000000 0 0 n/\E 1=int .i64 a/\E 2=int .i64 b/\E 3=int .i64 J/\E 8=bl K/\E 9=bl U/\E 10=int .i64 l/\E 11=int .i64 L/\ob=upd 1000000 (0,bO H m) (λ _=>none)) ?_ (λ S=>?_) (λ S=>?_)
   ·clear A w z q s u g k V E;rintro E ob ⟨hF,A,w,z,q,s,u,g,k,rfl⟩;rw [hF] at R j;rw [if_neg (by simp)] at j;clear hG hF;by_cases g1:0<a
    ·obtain ⟨C,rfl⟩:∃C,a=C+1:=⟨a-1,by omega⟩
     have g0:decide ((C:Int)+1>0)=true:=by rw [decide_eq_true_eq]; omega
     have wk:IntKind.i64.wrap ((C:Int)+1-1)=(C:Int):=by rw [a6 (by omega)]; omega
     have k1:C<H.size:=by omega
     have k2:L<H.size:=by omega
     push_cast [bO,a9,a5,a8,g0,wk,A,w,z,q,s,u,g,k,b6 (m:=m) k1,b6 (m:=m) k2,zab,zac,zaa]
     repeat refine sI ?_
     refine d9 (pb H[C]! H[L]!) rfl trivial ?_
     push_cast [bO,a9,a5,a8,g0,wk,A,w,z,q,s,u,g,k,b6 (m:=m) k1,b6 (m:=m) k2,zab,zac,zaa]
     repeat refine sI ?_
     refine c7 (λ hg=>?_) (λ hg=>?_)
     ·have I:(decide (C+1>0) && !ltInt H[C+1-1]! H[L]!)=true:=by simpa using hg
      have o:=aru H (C+1) b L (by omega) (by omega) (by omega) (by omega) m;rw [h5,W] at o;obtain ⟨f,M,hx⟩:∃f M,partitionEqual ltInt H (C+1) b L=(f,M):=⟨_,_,rfl⟩
      obtain ⟨r1,r2,r3,r4⟩:=R.eqs P (by omega) hB I hx;rw [hx] at o j;simp only at o;rw [if_pos I] at j;simp only [dif_pos (show C+1<f/\f<=b from ⟨r1,r2⟩)] at j
      push_cast [bO,a9,a5,a8,g0,wk,A,w,z,q,s,u,g,k,zab,zac,zaa]
      refine a7 o rfl (kw (by omega)) ?_
      push_cast [bO,a9,a5,a8,g0,wk,A,w,z,q,s,u,g,k,zab,zac,zaa]
      exact ⟨⟨f,b,J,K,U,M,by omega,by omega,by omega,by omega,by omega,r4,by rw [B,j],(by first | rfl | exact ⟨rfl,rfl⟩ | exact ⟨rfl,rfl,rfl⟩)⟩,by omega⟩
     have I:¬(decide (C+1>0) && !ltInt H[C+1-1]! H[L]!)=true:=by simpa using hg
     push_cast [bO,a9,a5,a8,g0,wk,A,w,z,q,s,u,g,k,zab,zac,zaa]
     have o:=apm H (C+1) b L (by omega) (by omega) (by omega) (by omega) m;rw [h5,W] at o;obtain ⟨f,ap,M,hx⟩:∃f ap M,partition ltInt H (C+1) b L=(f,ap,M):=⟨_,_,_,rfl⟩
     obtain ⟨r1,r2,r3,r4,r5,r6,r7,r8,r9⟩:=R.parts P (by omega) hB hx;rw [hx] at o j;simp only at o;refine a7 o rfl (kw (by omega)) ?_;rw [if_neg (by exact I)] at j;simp only [dif_pos (show (C+1)<=f/\f<b from ⟨r1,r2⟩)] at j;obtain ⟨D,h9⟩:∃D,(b-(C+1))/8=D:=⟨_,rfl⟩
     obtain ⟨x,hi⟩:∃x,f-(C+1)=x:=⟨_,rfl⟩
     obtain ⟨y,h8⟩:∃y,b-f=y:=⟨_,rfl⟩
     have wx:IntKind.i64.wrap ((f:Int)-((C:Int)+1))=(x:Int):=by rw [a6 (by omega)]; omega
     have Y:IntKind.i64.wrap ((b:Int)-f)=(y:Int):=by rw [a6 (by omega)]; omega
     have w8:(l:Int).tdiv 8=(D:Int):=by rw [zak (by omega)]; omega
     have G:IntKind.i64.wrap (D:Int)=(D:Int):=a6 (by omega);have wm:IntKind.i64.wrap ((f:Int)+1)=((f+1:Nat):Int):=by rw [a6 (by omega)]; omega
     have dx:decide ((x:Int)>=(D:Int))=decide (x>=D):=by simp
     have Z:decide ((y:Int)>=(D:Int))=decide (y>=D):=by simp
     rw [h9,hi,h8] at j;clear o
     push_cast [bO,a9,a5,a8,wx,Y,w8,G,dx,Z,A,w,z,q,s,u,g,k,zab,zac,zaa]
     repeat refine sI ?_
     refine c7 (λ Q=>?_) (λ Q=>?_)
     ·have T:x<y:=by simpa using Q
      rw [if_pos T] at j;have o:=ih (f-(C+1)) (by omega) M (C+1) f J (by omega) r1 (by omega) (by omega) (by omega) r4;rw [r3,W] at o;generalize hf:f+1=F at *
      push_cast [bO,a9,a5,a8,wx,Y,wm,w8,G,dx,Z,A,w,z,q,s,u,g,k,zab,zac,zaa]
      refine a7 o rfl (kw (by omega)) ?_
      push_cast [bO,a9,a5,a8,wx,Y,wm,w8,G,dx,Z,A,w,z,q,s,u,g,k,zab,zac,zaa]
      exact ⟨⟨F,b,J,decide (x>=D),ap,pdq ltInt M (C+1) f J true true,by omega,by omega,by omega,by omega,by omega,r7,by rw [B,j],(by first | rfl | exact ⟨rfl,rfl⟩ | exact ⟨rfl,rfl,rfl⟩)⟩,by omega⟩
     have T:¬x<y:=by simpa using Q
     rw [if_neg T] at j;have o:=ih (b-(f+1)) (by omega) M (f+1) b J (by omega) (by omega) (by omega) (by omega) (by omega) r5;rw [r3,W] at o;generalize hf:f+1=F at *
     push_cast [bO,a9,a5,a8,wx,Y,wm,w8,G,dx,Z,A,w,z,q,s,u,g,k,zab,zac,zaa]
     refine a7 o rfl (kw (by omega)) ?_
     push_cast [bO,a9,a5,a8,wx,Y,wm,w8,G,dx,Z,A,w,z,q,s,u,g,k,zab,zac,zaa]
     exact ⟨⟨(C+1),f,J,decide (y>=D),ap,pdq ltInt M F b J true true,by omega,by omega,by omega,by omega,by omega,r9,by rw [B,j],(by first | rfl | exact ⟨rfl,rfl⟩ | exact ⟨rfl,rfl,rfl⟩)⟩,by omega⟩
    obtain rfl:a=0:=by omega
    have g0:decide (((0:Nat):Int)>0)=false:=by decide
    have hq:decide ((0:Int)>0)=false:=by decide
    have wk:True:=trivial;have I:¬(decide (0>0) && !ltInt H[0-1]! H[L]!)=true:=by simp
    push_cast [bO,a9,a5,a8,g0,hq,A,w,z,q,s,u,g,k,zab,zac,zaa]
    repeat refine sI ?_
    try push_cast [bO,a9,a5,a8,g0,wk,A,w,z,q,s,u,g,k,zab,zac,zaa]
    have o:=apm H 0 b L (by omega) (by omega) (by omega) (by omega) m;rw [h5,W] at o;obtain ⟨f,ap,M,hx⟩:∃f ap M,partition ltInt H 0 b L=(f,ap,M):=⟨_,_,_,rfl⟩
    obtain ⟨r1,r2,r3,r4,r5,r6,r7,r8,r9⟩:=R.parts P (by omega) hB hx;rw [hx] at o j;simp only at o;refine a7 o rfl (kw (by omega)) ?_;rw [if_neg (by exact I)] at j;simp only [dif_pos (show 0<=f/\f<b from ⟨r1,r2⟩)] at j;obtain ⟨D,h9⟩:∃D,(b-0)/8=D:=⟨_,rfl⟩
    obtain ⟨x,hi⟩:∃x,f-0=x:=⟨_,rfl⟩
    obtain ⟨y,h8⟩:∃y,b-f=y:=⟨_,rfl⟩
    have wx:IntKind.i64.wrap ((f:Int)-0)=(x:Int):=by rw [a6 (by omega)]; omega
    have Y:IntKind.i64.wrap ((b:Int)-f)=(y:Int):=by rw [a6 (by omega)]; omega
    have w8:(l:Int).tdiv 8=(D:Int):=by rw [zak (by omega)]; omega
    have G:IntKind.i64.wrap (D:Int)=(D:Int):=a6 (by omega);have wm:IntKind.i64.wrap ((f:Int)+1)=((f+1:Nat):Int):=by rw [a6 (by omega)]; omega
    have dx:decide ((x:Int)>=(D:Int))=decide (x>=D):=by simp
    have Z:decide ((y:Int)>=(D:Int))=decide (y>=D):=by simp
    rw [h9,hi,h8] at j;clear o
    push_cast [bO,a9,a5,a8,wx,Y,w8,G,dx,Z,A,w,z,q,s,u,g,k,zab,zac,zaa]
    repeat refine sI ?_
    refine c7 (λ Q=>?_) (λ Q=>?_)
    ·have T:x<y:=by simpa using Q
     rw [if_pos T] at j;have o:=ih (f-0) (by omega) M 0 f J (by omega) r1 (by omega) (by omega) (by omega) r4;rw [r3,W] at o;generalize hf:f+1=F at *
     push_cast [bO,a9,a5,a8,wx,Y,wm,w8,G,dx,Z,A,w,z,q,s,u,g,k,zab,zac,zaa]
     refine a7 o rfl (kw (by omega)) ?_
     push_cast [bO,a9,a5,a8,wx,Y,wm,w8,G,dx,Z,A,w,z,q,s,u,g,k,zab,zac,zaa]
     exact ⟨⟨F,b,J,decide (x>=D),ap,pdq ltInt M 0 f J true true,by omega,by omega,by omega,by omega,by omega,r7,by rw [B,j],(by first | rfl | exact ⟨rfl,rfl⟩ | exact ⟨rfl,rfl,rfl⟩)⟩,by omega⟩
    have T:¬x<y:=by simpa using Q
    rw [if_neg T] at j;have o:=ih (b-(f+1)) (by omega) M (f+1) b J (by omega) (by omega) (by omega) (by omega) (by omega) r5;rw [r3,W] at o;generalize hf:f+1=F at *
    push_cast [bO,a9,a5,a8,wx,Y,wm,w8,G,dx,Z,A,w,z,q,s,u,g,k,zab,zac,zaa]
    refine a7 o rfl (kw (by omega)) ?_
    push_cast [bO,a9,a5,a8,wx,Y,wm,w8,G,dx,Z,A,w,z,q,s,u,g,k,zab,zac,zaa]
    exact ⟨⟨0,f,J,decide (y>=D),ap,pdq ltInt M F b J true true,by omega,by omega,by omega,by omega,by omega,r9,by rw [B,j],(by first | rfl | exact ⟨rfl,rfl⟩ | exact ⟨rfl,rfl,rfl⟩)⟩,by omega⟩
   ·rw [hG] at S;have o:=au3 d2 a b (by omega) (by omega) (by omega) m;rw [hu,W] at o
    push_cast [bO,a9,a5,a8,A,w,z,q,s,u,g,k,V,zab,zac,zaa]
    rw [if_pos S] at q6;rw [q6] at o;refine a7 o rfl (kw (by omega)) ?_
    push_cast [bO,a9,a5,a8,A,w,z,q,s,u,g,k,V,zab,zac,zaa]
    refine c7 (λ h4=>?_) (λ h4=>?_)
    ·rw [S,h4] at j;simp only [Bool.and_self,if_true] at j
     push_cast [bO,a9,a5,a8,zab,zac,zaa]
     rw [B,j]
    push_cast [bO,a9,a5,a8,adx,A,w,z,q,s,u,g,k,V,zab,zac,zaa]
    rw [h4]; simp
   rw [hG] at S;rw [if_neg (by simp [S])] at q6;subst q6
   push_cast [bO,a9,a5,a8,A,w,z,q,s,u,g,k,V,zab,zac,zaa]
   rw [S]; simp
  ·have hd:h=.decreasing:=by cases h<;>simp [ad7] at h7 |-
   subst hd;have o:=azm X a b (by omega) (by omega) (by omega) (by omega) m;rw [h2] at o;have ho:IntKind.i64.wrap ((b:Int)-1)=(b:Int)-1:=a6 (by omega);have hs:IntKind.i64.wrap ((c:Int)-a)=(c:Int)-a:=a6 (by omega);have hp:IntKind.i64.wrap ((b:Int)-1-((c:Int)-a))=(((b-1)-(c-a):Nat):Int):=by rw [a6 (by omega)]; omega
   generalize g3:(b-1)-(c-a)=L at *
   push_cast [bO,a9,a5,a8,A,w,z,q,s,u,g,zab,zac,zaa]
   refine a7 o rfl (kw (Go.Sort.reverseRange_holds X a b (by omega) (by omega)).1) ?_
   push_cast [bO,a9,a5,a8,ho,hs,hp,A,w,z,q,s,u,g,zab,zac,zaa]
   refine ⟨_,_,_,rfl,rfl,rfl,?_⟩;simp only [adx];exact ⟨trivial,rfl,trivial⟩
  have hd:h≠.decreasing:=by rintro rfl; simp [ad7] at h7
  push_cast [bO,a9,a5,a8,A,w,z,q,s,u,g,zab,zac,zaa]
  refine ⟨_,_,_,rfl,rfl,rfl,?_⟩;rw [if_neg hd,if_neg hd,if_neg hd];simp only [adx,and_self]
 ·have h6:K=false:=by simpa using ha
  subst h6;have wl:IntKind.i64.wrap ((i:Int)-1)=((i-1:Nat):Int):=by rw [a6 (by omega)]; omega
  push_cast [bO,a9,a5,a8,zab,zac,zaa]
  have o:=av6 e a b (by omega) (by omega) (by omega) m;rw [W] at o;have h2:=(Go.Sort.breakPatterns_holds e a b O (by omega)).1;refine a7 o rfl (kw h2) ?_;generalize hr:i-1=J at *
  push_cast [bO,a9,a5,a8,wl,zab,zac,zaa]
  refine ⟨_,_,rfl,rfl,?_⟩;simp only [adx,and_self]
  first | done | simpa using hr
 have h6:K=true:=by simpa using ha
 subst h6
 push_cast [bO,a9,a5,a8,zab,zac,zaa]
 refine ⟨_,_,rfl,rfl,?_⟩;exact ⟨rfl,rfl⟩

open Go.Sort (swp ltInt bitsLen pdq sort Below)
def x9:Mk P0 f29:={ x:=_ }
theorem azr (m:Nat):∀N,asz m N:=by
 intro N
 induction N using Nat.strongRecOn with
 | _ N ih=>exact ars m N ih
def ub (a:List Int):List Int:=a.mergeSort (λ x y=>decide (x<=y))
def lx (a:List Int):List RV:=a.map λ n=>RV.v (.int .u64 n)
def t5 (a:List Int):Ob:=.row 1 (.v (.int .u64 0)) true true (lx a)
theorem ae3 (a:List Int):(ub a).length=a.length:=List.length_mergeSort ..
theorem akm (a:List Int) (m:Nat):ci (a.map λ n=>Value.int .u64 n) m=bc a.toArray m:=by
 simp [ci,bc,bu,Function.comp_def]
theorem ud (a:List Int):(lx a).length=a.length:=by simp [lx]
theorem at2 (d:Array Int) (a:d.size<128) (m:Nat):b5 P0 29 [.own 1000000 0 0 d.size] [bO d m] (.tup []) [bO (sort ltInt d) m]:=by
 refine x9.t func29 ?_;have c:bitsLen d.size<=7:=(Go.Sort.bitsLen_le_iff d.size 7).2 (by omega);have w:IntKind.u64.wrap (d.size:Int)=d.size:=qn (by omega)
 push_cast [x9,bO,a9,a5,a8,w,zae,zad,zab,zac,zaa]
 refine a7 (ako d.size (by omega)) rfl trivial ?_
 push_cast [bO,a9,a5,a8,w,zae,zad,zab,zac,zaa]
 have b:=azr m d.size d 0 d.size (bitsLen d.size) (by omega) (by omega) (by omega) a (by omega) (.inl rfl);refine a7 b rfl (kw (Go.Sort.pdq_sorts ltInt Go.Sort.swo_ltInt d 0 d.size _ true true (by omega) (by omega) (.inl rfl)).1.1) ?_
 push_cast [bO,a9,a5,a8,w,zae,zad,zab,zac,zaa]
 rfl
def vu (a:List Int):List Value:=a.map λ n=>Value.int .u64 n
theorem aof (a:List Int):(vu a).length=a.length:=by simp [vu]
theorem aoe (a:List Int):(vu a).map RV.v=lx a:=by simp [vu,lx,Function.comp_def]
theorem awx (a:List Int) (b:a.length<128) (m:Nat):b5 P0 29 [.own 1000000 0 0 a.length] [.box (ci (vu a) m)] (.tup []) [.box (ci (vu (ub a)) m)]:=by
 have:=at2 a.toArray (by simpa using b) m;unfold vu;rw [akm,akm]
 have e:(ub a).toArray=sort ltInt a.toArray:=by
  have:=Go.Sort.sortInt a;unfold ub;rw [<- this]
 rw [e];simpa [bO] using this
theorem azi (b a:List Int) (h:a.length=b.length) (m:Nat):d8 [.box (ci (vu b) m)] [.box (ci (vu a) m)]:=⟨by simp [ci,aof,h],trivial⟩
theorem ada (xs:List Value) (m:Nat):l8 (ci xs m)=[]:=adb _ λ x hx=>by
 rcases zaj.1 hx with hx | hx
 ·obtain ⟨n,_,rfl⟩:=zaf.1 hx
  rfl
 rw [(List.mem_replicate.1 hx).2]; rfl
theorem aj6 (F:Ren) (xs:List Value) (m:Nat):imL F (ci xs m)=ci xs m:=mb F _ (ada xs m)
theorem avg:b5 P0 81 [.r (.sl 1 []),int .i64 0,int .i64 0] [] (.tup []) []:=by
 refine q8.t func81 ?_;have g:decide (IntKind.i64.wrap (0+1)<0)=false:=by decide
 simp only [q8,push_cast,↓reduceIte,reduceCtorEq,zB,zE,zA,zS,zL,zD,zM];refine c9 [(6,false),(2,false)] (λ vs pos a=>vs=[int .i64 (IntKind.i64.wrap (0+1)),int .i64 0]/\pos=[]/\a=[]) (λ _ _ _=>0) rfl ?_ ?_
 ·simp only [push_cast,↓reduceIte,reduceCtorEq,zB,zE,zA,zS,zL,zD,zM]
 rintro vs pos a ⟨rfl,rfl,rfl⟩;simp only [g,push_cast,↓reduceIte,reduceCtorEq,zB,zE,zA,zS,zL,zD,zM]
theorem au4:b5 P0 51 [.r (.sl 1 []),int .i64 0,int .i64 0,int .i64 0] [] (.tup []) []:=by
 refine u7.t func51 ?_;have g:decide ((0:Int)<=12)=true:=by decide
 have w:IntKind.i64.wrap (0-0)=0:=rfl;simp only [u7,push_cast,↓reduceIte,reduceCtorEq,zB,zE,zA,zS,zL,zD,zM];refine c9 [(8,false),(9,false),(0,false),(1,false),(2,false),(3,false)] (λ vs pos a=>vs=[bl true,bl true,.r (.sl 1 []),int .i64 0,int .i64 0,int .i64 0]/\pos=[]/\a=[]) (λ _ _ _=>0) rfl ?_ ?_
 ·simp only [push_cast,↓reduceIte,reduceCtorEq,zB,zE,zA,zS,zL,zD,zM]
 rintro vs pos a ⟨rfl,rfl,rfl⟩;simp only [w,g,push_cast,↓reduceIte,reduceCtorEq,zB,zE,zA,zS,zL,zD,zM];refine a7 avg rfl trivial ?_;simp only [push_cast,↓reduceIte,reduceCtorEq,zB,zE,zA,zS,zL,zD,zM]
theorem aq7:b5 P0 29 [.r (.sl 1 [])] [] (.tup []) []:=by
 refine x9.t func29 ?_
 push_cast [x9,zae,zad]
 refine a7 (ako 0 (by decide)) rfl trivial ?_
 push_cast
 refine a7 au4 rfl trivial ?_
 push_cast

def t6:Mk P0 f13:={ x:=_ }
theorem lq:pg 13 2 t6:=ft func13
def kI (e:MapEntry):Int:=match e.key with | .int _ n=>n | _=>0
def eg (es:List MapEntry) (c:Nat):Prop:=(∀e∈es,e.key=.int .u64 (kI e))/\(es.map (·.born)).Nodup/\∀e∈es,e.born<c
theorem avz {f:Nat->Nat} {es:List MapEntry} {c:Nat} (h:CM f es c):eg es c:=by
 obtain ⟨i,b,j,k⟩:=h.ex;refine ⟨λ e g=>?_,b.nd,b.lt⟩;have:(e.key,e.val)∈i.map cnE:=by rw [<- b.kv]; exact zaf.2 ⟨e,g,rfl⟩
 obtain ⟨a,_,d⟩:=zaf.1 this;simp only [ent,Prod.mk.injEq] at d;simp [kI,<- d.1]
variable {seen:List Nat}
theorem ahp {es:List MapEntry} {e:MapEntry} (a:e∈au es seen):(au es (seen++[e.born])).length<(au es seen).length:=by
 have b:au es (seen++[e.born])=(au es seen).filter λ x=>!(x.born == e.born):=by
  unfold au;rw [List.filter_filter];apply List.filter_congr;intro x _;simp only [List.contains_eq_mem,zaj,List.mem_singleton,Bool.decide_or,Bool.not_or,Bool.and_comm];by_cases hx:x.born=e.born<;>simp [hx]
 rw [b]
 have:((au es seen).filter λ x=>!(x.born == e.born)).length<(au es seen).length:=by
  rw [List.length_filter_lt_length_iff_exists];exact ⟨e,a,by simp⟩
 exact this
structure Vis (es V:List MapEntry) (seen:List Nat):Prop where
 s:seen=V.map (·.born)
 sub:∀e∈V,e∈es
 nd:seen.Nodup
 b:V.length+(au es seen).length<=es.length
theorem atr (es:List MapEntry):Vis es [] []:=⟨rfl,by simp,by simp,by simp only [zad,zaa]; exact List.length_filter_le ..⟩
variable {V:List MapEntry}
theorem Vis.add {es:List MapEntry} (h:Vis es V seen) {e:MapEntry} (c:e∈au es seen):Vis es (V++[e]) (seen++[e.born]):=by
 obtain ⟨i,f⟩:=List.mem_filter.1 c;refine ⟨by rw [h.s]; simp,λ x hx=>?_,?_,by have:=h.b; have:=ahp c; simp only [List.length_append,List.length_singleton]; omega⟩
 ·rcases zaj.1 hx with hx | hx
  ·exact h.sub x hx
  simp at hx; subst hx; exact i
 rw [List.nodup_append];refine ⟨h.nd,by simp,λ a g b d=>?_⟩;simp at d;subst d;rintro rfl;simp at f;exact f g
theorem Vis.all {es:List MapEntry} (h:Vis es V seen) (d:(es.map (·.born)).Nodup) (l:au es seen=[]):V.Perm es:=by
 have m:V.Nodup:=by
  have:=h.nd;rw [h.s] at this;exact (List.pairwise_map.1 this).imp λ {a b} c e=>c (by rw [e])
 have n:es.Nodup:=(List.pairwise_map.1 d).imp λ {a b} c e=>c (by rw [e]);refine (List.perm_ext_iff_of_nodup m n).2 λ x=>⟨h.sub x,λ hx=>?_⟩
 have:¬x∈au es seen:=by rw [l]; simp
 unfold au at this;rw [List.mem_filter,h.s] at this;simp only [hx,true_and,Bool.not_eq_true',List.contains_eq_mem,decide_eq_false_iff_not,Classical.not_not,zaf] at this;obtain ⟨y,hy,e⟩:=this;have f:=h.sub y hy;obtain ⟨i,k⟩:=zam hx;obtain ⟨j,g⟩:=zam f;have:=abm d (i:=i) (j:=j) (x:=x.born) (by simp [k]) (by simp [g,e]);subst this;rw [k] at g;cases g;exact hy
theorem aik {es:List MapEntry} (a:(es.map (·.born)).Nodup) {e:MapEntry} (d:e∈es) (seen:List Nat):akf es (seen++[e.born])=some e:=by
 unfold akf;simp only [List.getLast?_append,List.getLast?_singleton,Option.some_or];cases hf:es.find? λ x=>x.born == e.born with
 | none=>
   have:=List.find?_eq_none.1 hf e d;simp at this
 | some y=>
   have hy:=List.mem_of_find?_eq_some hf;have f:=List.find?_some hf;simp at f;obtain ⟨i,c⟩:=zam d;obtain ⟨j,b⟩:=zam hy;have:=abm a (i:=i) (j:=j) (x:=e.born) (by simp [c]) (by simp [b,f]);subst this;rw [c] at b;exact b.symm
theorem ah4 {a b:List Int} (h:a.Perm b):ub a=ub b:=by
 have d:(ub a).Perm (ub b):=((zap a _).trans h).trans (zap b _).symm;have tr:∀x y z:Int,decide (x<=y)=true->decide (y<=z)=true->decide (x<=z)=true:=by simp; omega
 have c:∀x y:Int,(decide (x<=y)||decide (y<=x))=true:=by simp; omega
 have e:=List.pairwise_mergeSort tr c a;have g:=List.pairwise_mergeSort tr c b;refine List.Perm.eq_of_pairwise (le:=λ x y=>decide (x<=y)=true) (λ x y _ _ d f=>by simp at d f; omega) e g d
theorem av4 {args:List AV} {po:List Ob} {D:AV->List Ob->Prop} (b:args.length=2) (a:po.length<=1000)
 (h:run P0 po.length (afq po.length [(4,false,none)] D) [.c t6.1.2] ⟨ip 0 args,ob0 po⟩):aec P0 13 args po D:=
 acq (fn:=f13) (c:=(f13.body).getD .skip) (pc:=t6.1.2) (rs:=[(4,false,none)]) func13 rfl (by decide) (by kernel_rfl) (by rw [b]; decide) rfl (by kernel_rfl) (by kernel_rfl) (by decide) a (aku h)
theorem aty (V:List MapEntry) (x:Int):List.take V.length (lx (V.map kI))++[RV.v (.int .u64 x)]=lx (V.map kI++[x]):=by
 rw [List.take_of_length_le (by simp [lx])];simp [lx]
section
variable {es:List MapEntry} {c:Nat} {ns:List (List Ky)} {ce:Nat->List MapEntry} {cc:Nat->Nat}
theorem ant {r:Nat} (H:r<13) {E:List MapEntry} {C:Nat} (o:ce r=E) (k:cc r=C) (h:eg E C) (I:E.length<128) (q:E≠[]) :
 aec P0 13 [.ptr 1000000 0 0,int .i64 r] (c8 es c ns ce cc) λ v os=>∃m,v=.own 1000016 0 0 E.length/\os=c8 es c ns ce cc++[.box (ci (vu (ub (E.map kI))) m)]:=by
 refine av4 rfl (by simp [c8]) ?_;have B:decide ((r:Int)<0)=false:=by simp
 have D:decide ((r:Int)>=13)=false:=by simp; omega
 obtain ⟨K,t⟩:∃K,ub (E.map kI)=K:=⟨_,rfl⟩
 rw [t];obtain ⟨M,n⟩:∃M,1000003+r=M:=⟨_,rfl⟩
 push_cast [t6,c8,B,D,zae,zad]
 rcases (show r=0\/r=1\/r=2\/r=3\/r=4\/r=5\/r=6\/r=7\/r=8\/r=9\/r=10\/r=11\/r=12 by omega) with rfl | rfl | rfl | rfl | rfl | rfl | rfl | rfl | rfl | rfl | rfl | rfl | rfl<;>(
  simp only [Nat.reduceAdd] at n
  push_cast [o,k,Int.toNat_zero,Int.reduceToNat]
  repeat refine sI ?_
  refine c9 [(5,false),(19,false)] (λ vs pos e=>∃(V:List MapEntry) (seen:List Nat),Vis E V seen/\pos=c8 es c ns ce cc/\∃l,C<=l /\
   (V=[]/\vs=[.nils 1 (.v (.int .u64 0)),.ptr 2000000 0 0]/\e=[.iter (.mp M 0) C seen l] \/
    V≠[]/\vs=[.own 2000000 0 0 V.length,.ptr 2000001 0 0]/\e=[t5 (V.map kI),.iter (.mp M 0) C seen l]))
   (λ _ _ e=>match e with | [.iter _ _ seen _]=>(au E seen).length | [_,.iter _ _ seen _]=>(au E seen).length | _=>0) rfl ?_ ?_
  ·push_cast [c8,o,k,<- n]
   exact ⟨[],[],atr _,C,zai _,by simp⟩
  rintro vs pos e ⟨V,seen,f,rfl,l,j,⟨p,rfl,rfl⟩ | ⟨p,rfl,rfl⟩⟩
  ·subst p
   push_cast [c8,o,k,<- n]
   have G:seen=[]:=f.s;refine ajo h.2.2 j (λ i=>?_) (λ d a=>?_)
   ·exfalso;rw [G] at i;unfold au at i;simp at i;exact q (List.eq_nil_iff_forall_not_mem.2 λ x hx=>by simpa using i x hx)
   have u:d.key=.int .u64 (kI d):=h.1 d ((f.add a).sub d (by simp));have w:=aik h.2.1 ((f.add a).sub d (by simp)) seen
   push_cast [u,w,wh,Option.isSome_some]
   repeat refine sI ?_
   exact ⟨⟨[d],_,f.add a,C,zai _,.inr ⟨by simp,rfl,rfl⟩⟩,ahp a⟩
  push_cast [c8,o,k,<- n]
  refine ajo h.2.2 j (λ i=>?_) (λ d a=>?_)
  ·push_cast [t5,lx]
   have A:=f.all h.2.1 i;have g:=A.length_eq;refine aqt 2000000 0 (.v (.int .u64 0)) (vu (V.map kI)) (by rw [aoe]; rfl) (by simpa [vu] using p) (λ m=>?_);rw [show List.map (λ x=>AV.r (RV.v x)) (vu (V.map kI))++List.replicate m AV.undef=ci (vu (V.map kI)) m from rfl];have z:=awx (V.map kI) (by simp; omega) m;rw [ah4 (A.map kI),t] at z;simp only [zag] at z
   push_cast [t5,lx,ada,aj6]
   refine a7 z rfl (azi _ _ (by rw [<- t,ae3,zag,zag,g]) m) ?_
   push_cast [t5,lx,ada,aj6,g]
   exact ⟨m,by simp⟩
  have u:d.key=.int .u64 (kI d):=h.1 d ((f.add a).sub d (by simp));have w:=aik h.2.1 ((f.add a).sub d (by simp)) seen;have y:=(f.add a).b;simp only [List.length_append,List.length_singleton] at y;have F:=v6
  push_cast [u,w,wh,Option.isSome_some,t5,aty]
  repeat refine sI ?_
  exact ⟨⟨V++[d],_,f.add a,C,zai _,.inr ⟨by simp,by simp,by simp [lx]⟩⟩,ahp a⟩)
theorem anu {r:Nat} (j:r<13) (d:ce r=[]) :
 b5 P0 13 [.ptr 1000000 0 0,int .i64 r] (c8 es c ns ce cc) (.nils 1 (.v (.int .u64 0))) (c8 es c ns ce cc):=by
 refine lq rfl (by simp [c8]) ?_;have g:decide ((r:Int)<0)=false:=by simp
 have h:decide ((r:Int)>=13)=false:=by simp; omega
 obtain ⟨M,f⟩:∃M,1000003+r=M:=⟨_,rfl⟩
 obtain ⟨C,b⟩:∃C,cc r=C:=⟨_,rfl⟩
 push_cast [t6,c8,g,h,zae,zad]
 rcases (show r=0\/r=1\/r=2\/r=3\/r=4\/r=5\/r=6\/r=7\/r=8\/r=9\/r=10\/r=11\/r=12 by omega) with rfl | rfl | rfl | rfl | rfl | rfl | rfl | rfl | rfl | rfl | rfl | rfl | rfl<;>(
  simp only [Nat.reduceAdd] at f
  push_cast [d,b,Int.toNat_zero,Int.reduceToNat]
  repeat refine sI ?_
  refine c9 [(5,false),(19,false)] (λ vs pos a=>vs=[.nils 1 (.v (.int .u64 0)),.ptr 2000000 0 0]/\pos=c8 es c ns ce cc/\a=[.iter (.mp M 0) C [] C])
   (λ _ _ _=>0) rfl ?_ ?_
  ·push_cast [c8,d,b,<- f]
  rintro vs pos a ⟨rfl,rfl,rfl⟩
  push_cast [c8,d,b,<- f]
  refine ajo (by simp) (zai _) (λ i=>?_) (λ k e=>?_)
  ·push_cast
   refine a7 aq7 rfl trivial ?_
   push_cast
  simp [au] at e)
end

def dd:List Nat->List Nat
 | []=>[]
 | a::l=>if a∈dd l then dd l else a::dd l
theorem agz {w:Nat}:∀{l:List Nat},w∈dd l↔w∈l
 | []=>by simp [dd]
 | a::l=>by
   rw [dd];split
   ·rename_i h;rw [agz,zan];constructor
    ·exact .inr
    rintro (rfl | h2)
    ·exact agz.1 h
    exact h2
   rw [zan,zan,agz]
theorem ab2:∀(l:List Nat),(dd l).Nodup
 | []=>by simp [dd]
 | a::l=>by
   rw [dd];split
   ·exact ab2 l
   rename_i h;exact List.nodup_cons.2 ⟨h,ab2 l⟩
theorem aqk:∀(l:List Nat),(dd l).length<=l.length
 | []=>by simp [dd]
 | a::l=>by
   have:=aqk l;rw [dd];split<;>simp<;>omega
def acp (L:List Pt) (r:Nat):List Nat:=dd (L.map (·.w r))
variable {r w:Nat}
theorem abb {L:List Pt}:w∈acp L r↔∃p∈L,p.w r=w:=by unfold acp; rw [agz,zaf]
def asI (a:List Nat):List Int:=a.map λ n:Nat=>(n:Int)
def o8 (L:List Pt) (r:Nat):List Int:=ub (asI (acp L r))
theorem aki {L:List Pt} {es:List MapEntry} {c:Nat} (h:CM (cnt L r) es c):(es.map kI).Perm (asI (acp L r)):=by
 obtain ⟨g,i,j,d⟩:=h.ex
 have e:es.map kI=asI (g.map (·.1)):=by
  have:=congrArg (List.map λ q:Value×Value=>match q.1 with | .int _ n=>n | _=>(0:Int)) i.kv;simp only [List.map_map,Function.comp_def,ent] at this;unfold asI;rw [List.map_map];exact this
 rw [e];refine List.Perm.map _ ((List.perm_ext_iff_of_nodup j (ab2 _)).2 λ w=>?_);rw [show dd (L.map (·.w r))=acp L r from rfl,abb,zaf];constructor
 ·rintro ⟨a,f,rfl⟩;have:=((d a.1 a.2).1 f).2;unfold cnt at this;rw [List.countP_pos_iff] at this;obtain ⟨p,b,e⟩:=this;exact ⟨p,b,by simpa using e⟩
 rintro ⟨p,b,rfl⟩;refine ⟨(p.w r,_),(d _ _).2 ⟨rfl,?_⟩,rfl⟩;unfold cnt;rw [List.countP_pos_iff];exact ⟨p,b,by simp⟩
theorem ab4 (L:List Pt) (r:Nat):(o8 L r).length<=L.length:=by
 unfold o8 asI;rw [ae3,zag];exact Nat.le_trans (aqk _) (by simp)
theorem ayq {L:List Pt} {es:List MapEntry} {c:Nat} (h:CM (cnt L r) es c):es.length=(o8 L r).length:=by
 have:=(aki h).length_eq;unfold o8;rw [ae3,<- this,zag]
section
variable {L:List Pt} {es:List MapEntry} {c:Nat} {ns:List (List Ky)} {ce:Nat->List MapEntry} {cc:Nat->Nat}
theorem akl (h:StL L es c ns ce cc) (m:L.length<128) (r:Nat) (g:r<13) :
 b5 P0 13 [.ptr 1000000 0 0,int .i64 r] (c8 es c ns ce cc) (.own 1000016 0 0 (o8 L r).length) (c8 es c ns ce cc++[t5 (o8 L r)]):=by
 have e:=h.cm r g;have k:=avz e;have b:=ayq e;have j:=ab4 L r;have f:ub ((ce r).map kI)=o8 L r:=ah4 (aki e);have i:∀o∈c8 es c ns ce cc,imO (sf 16) o=o:=(SF L).shut ⟨es,c,ns,ce,cc,h,rfl⟩;by_cases d:ce r=[]
 ·have l:o8 L r=[]:=List.length_eq_zero_iff.1 (by rw [<- b,d]; rfl);rw [l];have a:=anu (es:=es) (c:=c) (ns:=ns) (cc:=cc) g d;exact alz (os:=c8 es c ns ce cc) (by simp [c8]) i a
 have a:=ant (es:=es) (c:=c) (ns:=ns) g rfl rfl k (by omega) d;rw [f,b] at a
 have:=azc (os:=c8 es c ns ce cc) (ys:=vu (o8 L r)) (z:=.v (.int .u64 0)) (aof _) (by simp [c8]) i (λ y hy=>by
  obtain ⟨n,_,rfl⟩:=zaf.1 hy
  rfl) a
 rw [aoe] at this;exact this
end
theorem av3 (L:List Pt) (b:L.length<128) (r:Nat) (d:r<13):b5 P0 13 [.ptr 1000000 0 0,int .i64 r] [.abs (sT L)] (.own 1000001 0 0 (o8 L r).length) [.abs (sT L),t5 (o8 L r)]:=
 ac3 (F:=SF L) (F':=SF L) rfl (ex:=[t5 (o8 L r)]) (λ os h=>by
  obtain ⟨es,c,ns,ce,cc,h,rfl⟩:=h;exact ⟨_,⟨_,_,_,_,_,h,rfl⟩,akl h b r d⟩) rfl (by
  intro o a;simp at a;subst a;intro x hx;obtain ⟨n,_,rfl⟩:=zaf.1 hx
  trivial) (by simp [y7])

theorem arm {L:List Pt} {os:List Ob} (h:SS L os) (p:Pt) (a:p.ok) (g:has L p.k=false) (e:L.length<2000):∃b,SS (L++[p]) b/\b5 P0 11 [.ptr 1000000 0 0,p.av] os (bl true) (b++[]):=by
 obtain ⟨es,c,ns,ce,cc,h,rfl⟩:=h;have d:=aay.1 g;obtain ⟨i,f,j,l⟩:=am6 h.pm d;refine ⟨_,⟨_,_,_,_,_,h.put a d (by omega),rfl⟩,?_⟩;rw [List.append_nil];refine ajh h a d e (aqj h p.k d) i ⟨⟨0,0,0,0⟩,j _⟩ ?_;rw [f,af4 h.pm];exact .inr ⟨rfl,by omega⟩
theorem auz (L:List Pt) (p:Pt) (a:p.ok) (c:has L p.k=false) (b:L.length<2000):b5 P0 11 [.ptr 1000000 0 0,p.av] [.abs (sT L)] (bl true) [.abs (sT (L++[p]))]:=
 ac3 (F:=SF L) (F':=SF (L++[p])) rfl (λ os h=>arm h p a c b) rfl (by simp) (by simp [y7,bz])
theorem azt (l:List Pt) (x:l.length<2000) (m:∀p∈l,p.ok) (f:(l.map (·.k)).Nodup):b5 P0 9 [.r (pts l)] [] (.ptr 1000000 0 0) [.abs (sT l)]:=by
 refine aeg.t func9 ?_
 push_cast [aeg,pts,zad,zag]
 refine a7 ate rfl trivial ?_
 push_cast [zag]
 refine c9 [(3,false),(7,false),(8,false),(9,false)] (λ vs pos b=>∃(i:Nat),i<=l.length/\vs=[.ptr 2000000 0 0,.r (pts l),int .i64 l.length,int .i64 i]/\pos=[]/\b=[.abs (sT (l.take i))])
  (λ vs _ _=>match vs with | [_,_,_,.r (.v (.int _ j))]=>(l.length-j).toNat | _=>0) rfl ?_ ?_
 ·push_cast [pts]
  exact ⟨0,by omega,by simp⟩
 rintro vs pos b ⟨i,w,rfl,rfl,rfl⟩
 push_cast [pts,zag]
 refine c7 (λ h=>?_) (λ h=>?_)
 ·have o:i<l.length:=by simpa using h
  obtain ⟨p,d⟩:∃p,l[i]?=some p:=⟨l[i],by simp [o]⟩
  have g:IntKind.i64.wrap ((i:Int)+1)=(i:Int)+1:=a6 ⟨by omega,by omega⟩;have c:=List.mem_of_getElem? d;have a:l.take (i+1)=l.take i++[p]:=by rw [List.take_add_one,d]; rfl
  have n:has (l.take i) p.k=false:=aay.2 λ q u e=>by
   have s:((l.take (i+1)).map (·.k)).Nodup:=f.sublist ((List.take_sublist _ _).map _);rw [a,List.map_append,List.nodup_append] at s;exact s.2.2 q.k (List.mem_map_of_mem u) p.k (by simp) e
  push_cast [alu d,zag]
  refine And.intro ⟨by omega,by omega⟩ ?_;refine b9 (as':=[.ptr 1000000 0 0,p.av]) rfl ?_;refine a7 (auz (l.take i) p (m p c) n (by simp; omega)) rfl ⟨rfl,trivial⟩ ?_
  push_cast [g]
  refine ⟨⟨i+1,by omega,rfl,by rw [a]⟩,by omega⟩
 have o:¬i<l.length:=by simpa using h
 push_cast
 rw [List.take_of_length_le (by omega)]

theorem aqx {d:List Nat} (h:d.Nodup):(asI d).Nodup:=List.pairwise_map.2 (h.imp λ {a b} c e=>c (by omega))
theorem adq (L:List Pt) (r:Nat):(o8 L r).Nodup:=(zap _ _).nodup_iff.2 (aqx (ab2 _))
theorem ag2 {L:List Pt} {n:Int}:n∈o8 L r↔∃p∈L,((p.w r:Nat):Int)=n:=by
 unfold o8 ub asI;rw [List.mem_mergeSort,zaf];constructor
 ·rintro ⟨w,b,rfl⟩;obtain ⟨p,a,e⟩:=abb.1 b;exact ⟨p,a,by rw [e]⟩
 rintro ⟨p,a,rfl⟩;exact ⟨p.w r,abb.2 ⟨p,a,rfl⟩,rfl⟩
theorem avb {L:List Pt} (b:∀p∈L,p.ok) (c:r<13) (d:∃p∈L,p.w r=w):mem L w=L.filter λ p=>((p.w r:Nat):Int) == (w:Int):=by
 obtain ⟨q,f,e⟩:=d;have a:=(Pt.w_res (b q f) c).2.1;rw [e] at a;unfold mem;apply List.filter_congr;intro p g;rw [ar7 (b p g) c a];rw [Bool.eq_iff_iff];simp;omega

abbrev Wt:=Int×Int
def lsW (a b:Wt):Bool:=if a.2≠b.2 then decide (a.2>b.2) else decide (a.1<b.1)
theorem ap2 (a b:Wt):lsW a b=true↔(b.2<a.2\/(a.2=b.2/\a.1<b.1)):=by
 unfold lsW;split<;>rw [decide_eq_true_iff]<;>omega
theorem zl (a b:Wt):lsW a b=false↔(a.2<b.2\/(a.2=b.2/\b.1<=a.1)):=by
 rw [<- Bool.not_eq_true,ap2];omega
theorem agk {a b c:Wt} (d:lsW b a=false) (e:lsW c b=false):lsW c a=false:=by
 rw [zl] at *;omega
theorem agl {a b:Wt} (h:lsW a b=true):lsW b a=false:=by
 rw [zl]; rw [ap2] at h;omega
theorem ax0 {a b c:Wt} (d:lsW a b=true) (e:lsW c b=false):lsW c a=false:=agk (agl d) e
def gW (l:List Wt) (i:Nat):Wt:=l.getD i (0,0)
def swW (l:List Wt) (i j:Nat):List Wt:=(l.set i (gW l j)).set j (gW l i)
variable {l:List Wt}
theorem gz (h:i<l.length):gW l i=l[i]:=by
 unfold gW;rw [zah,List.getElem?_eq_getElem h]
 rfl
theorem v8 (l:List Wt) (i j:Nat):(swW l i j).length=l.length:=by simp [swW]
theorem zf (c:i<l.length) (d:j<l.length) (k:Nat):gW (swW l i j) k=if k=j then gW l i else if k=i then gW l j else gW l k:=by
 unfold gW swW;rw [zah,List.getElem?_set,List.getElem?_set,List.length_set];by_cases a:j=k
 ·subst a;rw [if_pos rfl,if_pos d,if_pos rfl]
  rfl
 rw [if_neg a,if_neg (Ne.symm a)];by_cases b:i=k
 ·subst b;rw [if_pos rfl,if_pos c,if_pos rfl]
  rfl
 rw [if_neg b,if_neg (Ne.symm b),zah]
theorem ae1 (a:i<l.length) (b:j<l.length):(swW l i j).Perm l:=by
 have h:=Array.swap_perm (xs:=l.toArray) (i:=i) (j:=j) (by simpa using a) (by simpa using b);rw [Array.perm_iff_toList_perm] at h
 have e:(l.toArray.swap i j (by simpa using a) (by simpa using b)).toList=swW l i j:=by
  rw [Array.toList_swap];simp [swW,gz a,gz b]
 rw [e] at h;exact h
def Hp (l:List Wt) (n:Nat):Prop:=∀j,0<j->j<n->lsW (gW l j) (gW l ((j-1)/2))=false
variable {n:Nat}
theorem Hp.least (h:Hp l n):∀j,j<n->lsW (gW l j) (gW l 0)=false:=λ j=>by
 induction j using Nat.strongRecOn with
 | _ j ih=>
   intro a;by_cases b:j=0
   ·subst b;rw [zl];omega
   exact agk (ih ((j-1)/2) (by omega) (by omega)) (h j (by omega) a)
def HpU (l:List Wt) (n j:Nat):Prop:=(∀k,0<k->k<n->k≠j->lsW (gW l k) (gW l ((k-1)/2))=false)/\∀c,0<c->c<n->(c-1)/2=j->0<j->lsW (gW l c) (gW l ((j-1)/2))=false
theorem HpU.done (h:HpU l n j) (a:j=0\/lsW (gW l j) (gW l ((j-1)/2))=false):Hp l n:=λ k c d=>by
 by_cases b:k=j
 ·subst b;rcases a with a | a
  ·omega
  exact a
 exact h.1 k c d b
theorem HpU.next (h:HpU l n j) (x:j<n) (y:n<=l.length) (t:0<j) (g:lsW (gW l j) (gW l ((j-1)/2))=true):HpU (swW l ((j-1)/2) j) n ((j-1)/2):=by
 obtain ⟨i,f⟩:∃i,(j-1)/2=i:=⟨_,rfl⟩
 rw [f] at g |-;have r:i<j:=by omega
 have e:=zf (l:=l) (i:=i) (j:=j) (by omega) (by omega);refine ⟨λ k p q u=>?_,λ c s v hc w=>?_⟩
 ·rw [e k,e ((k-1)/2)];by_cases b:k=j
  ·subst b;rw [if_pos rfl,f,if_neg (by omega),if_pos rfl];exact agl g
  rw [if_neg b,if_neg u];by_cases m:(k-1)/2=j
  ·rw [if_pos m,<- f];exact h.2 k p q m t
  rw [if_neg m];have a:=h.1 k p q b;by_cases o:(k-1)/2=i
  ·rw [if_pos o];rw [o] at a;exact ax0 g a
  rw [if_neg o];exact a
 have d:=h.1 i w (by omega) (by omega);rw [e c,e ((i-1)/2),if_neg (show ¬(i-1)/2=j by omega),if_neg (show ¬(i-1)/2=i by omega)];by_cases b:c=j
 ·rw [if_pos b];exact d
 rw [if_neg b,if_neg (by omega)];have:=h.1 c s v b;rw [hc] at this;exact agk d this
def HpD (l:List Wt) (n i:Nat):Prop:=(∀k,0<k->k<n->(k-1)/2≠i->lsW (gW l k) (gW l ((k-1)/2))=false)/\∀c,0<c->c<n->(c-1)/2=i->0<i->lsW (gW l c) (gW l ((i-1)/2))=false
def chW (l:List Wt) (n i:Nat):Nat:=if 2*i+2<n/\lsW (gW l (2*i+2)) (gW l (2*i+1))=true then 2*i+2 else 2*i+1
theorem HpD.done (h:HpD l n i) (a:n<=2*i+1\/lsW (gW l (chW l n i)) (gW l i)=false):Hp l n:=λ k c d=>by
 by_cases b:(k-1)/2=i
 ·rcases a with a | a
  ·omega
  rw [b];unfold chW at a;rcases (show k=2*i+1\/k=2*i+2 by omega) with e | e
  ·split at a
   ·rename_i hc;rw [e];exact agk a (agl hc.2)
   rw [e]; exact a
  split at a
  ·rw [e]; exact a
  rename_i hc;rw [not_and,Bool.not_eq_true] at hc;rw [e];exact agk a (hc (by omega))
 exact h.1 k c d b
theorem pq (h:2*i+1<n):(chW l n i-1)/2=i/\i<chW l n i/\chW l n i<n/\∀k,0<k->k<n->(k-1)/2=i->lsW (gW l k) (gW l (chW l n i))=false:=by
 unfold chW;split
 ·rename_i hc;refine ⟨by omega,by omega,by omega,λ k a b c=>?_⟩;rcases (show k=2*i+1\/k=2*i+2 by omega) with e | e
  ·rw [e]; exact agl hc.2
  rw [e,zl]; omega
 rename_i hc;rw [not_and,Bool.not_eq_true] at hc;refine ⟨by omega,by omega,by omega,λ k a b c=>?_⟩;rcases (show k=2*i+1\/k=2*i+2 by omega) with e | e
 ·rw [e,zl]; omega
 rw [e]; exact hc (by omega)
theorem HpD.next (h:HpD l n i) (v:n<=l.length) (q:2*i+1<n) (s:lsW (gW l (chW l n i)) (gW l i)=true):HpD (swW l i (chW l n i)) n (chW l n i):=by
 obtain ⟨e,c2,r,p⟩:=pq (l:=l) q;generalize chW l n i=j at *;have a:=zf (l:=l) (i:=i) (j:=j) (by omega) (by omega);refine ⟨λ k d m t=>?_,λ c o u hc w=>?_⟩
 ·rw [a k,a ((k-1)/2)];by_cases g:k=j
  ·subst g;rw [if_pos rfl,e,if_neg (by omega),if_pos rfl];exact agl s
  rw [if_neg g,if_neg t];by_cases b:(k-1)/2=i
  ·rw [if_pos b,if_neg (by omega)];exact p k d m b
  rw [if_neg b];by_cases f:k=i
  ·subst f;rw [if_pos rfl];exact h.2 j (by omega) r e d
  rw [if_neg f];exact h.1 k d m b
 rw [a c,a ((j-1)/2),e,if_neg (by omega),if_neg (by omega),if_neg (show ¬i=j by omega),if_pos rfl];have:=h.1 c o u (by omega);rw [hc] at this;exact this

def upW (l:List Wt) (j:Nat):List Wt:=
 if h:j=0\/lsW (gW l j) (gW l ((j-1)/2))=false then l else upW (swW l ((j-1)/2) j) ((j-1)/2)
termination_by j
decreasing_by omega
def dnW (l:List Wt) (n i:Nat):List Wt:=
 if h:n<=2*i+1\/lsW (gW l (chW l n i)) (gW l i)=false then l else dnW (swW l i (chW l n i)) n (chW l n i)
termination_by n-i
decreasing_by
 have:=(pq (l:=l) (show 2*i+1<n by omega)).2.1;omega
theorem ald (l:List Wt) (j:Nat):(upW l j).length=l.length:=by
 induction l,j using upW.induct with
 | case1 l j h=>rw [upW,dif_pos h]
 | case2 l j h ih=>rw [upW,dif_neg h,ih,v8]
theorem aa6 (l:List Wt) (n i:Nat):(dnW l n i).length=l.length:=by
 induction l,i using dnW.induct (n:=n) with
 | case1 l i h=>rw [dnW,dif_pos h]
 | case2 l i h ih=>rw [dnW,dif_neg h,ih,v8]
theorem awq:∀{n:Nat},j<n->n<=l.length->HpU l n j->Hp (upW l j) n/\(upW l j).Perm l:=by
 induction l,j using upW.induct with
 | case1 l j h=>
   intro n c b a;rw [upW,dif_pos h];exact ⟨a.done h,List.Perm.refl _⟩
 | case2 l j h ih=>
   intro n c b a;rw [upW,dif_neg h];rw [not_or,Bool.not_eq_false] at h;obtain ⟨d,e⟩:=ih (n:=n) (by omega) (by rw [v8]; exact b) (a.next c b (by omega) h.2);exact ⟨d,e.trans (ae1 (by omega) (by omega))⟩
theorem ayi:n<=l.length->HpD l n i->Hp (dnW l n i) n/\(dnW l n i).Perm l:=by
 induction l,i using dnW.induct (n:=n) with
 | case1 l i h=>
   intro a b;rw [dnW,dif_pos h];exact ⟨b.done h,List.Perm.refl _⟩
 | case2 l i h ih=>
   intro a b;rw [dnW,dif_neg h];rw [not_or,Bool.not_eq_false] at h;obtain ⟨_,c2,e,_⟩:=pq (l:=l) (show 2*i+1<n by omega);obtain ⟨c,d⟩:=ih (by rw [v8]; exact a) (b.next a (by omega) h.2);exact ⟨c,d.trans (ae1 (by omega) (by omega))⟩
variable {k:Nat}
theorem aqf:n<=l.length->n<=k->gW (dnW l n i) k=gW l k:=by
 induction l,i using dnW.induct (n:=n) with
 | case1 l i h=>
   intro b a;rw [dnW,dif_pos h]
 | case2 l i h ih=>
   intro b a;rw [dnW,dif_neg h];rw [not_or] at h;obtain ⟨_,c2,c,_⟩:=pq (l:=l) (show 2*i+1<n by omega);rw [ih (by rw [v8]; exact b) a,zf (by omega) (by omega),if_neg (by omega),if_neg (by omega)]
variable {t:List Wt}
theorem fp (h:i<l.length):gW (l++t) i=gW l i:=by
 unfold gW;rw [zah,zah,List.getElem?_append_left h]
theorem alg (a:i<l.length) (b:j<l.length):swW (l++t) i j=swW l i j++t:=by
 unfold swW;rw [fp a,fp b,List.set_append_left _ _ a,List.set_append_left _ _ (by rw [List.length_set]; exact b)]
theorem amn (a:n<=l.length) (h:2*i+1<n):chW (l++t) n i=chW l n i:=by
 unfold chW;by_cases b:2*i+2<n
 ·rw [fp (by omega),fp (by omega)]
 rw [if_neg (by omega),if_neg (by omega)]
theorem ajg (h:Hp l l.length) (x:Wt):Hp (upW (l++[x]) l.length) (l.length+1)/\(upW (l++[x]) l.length).Perm (l++[x]):=by
 refine awq (by omega) (by simp) ⟨λ k a f g=>?_,λ c e b hc d=>by omega⟩;rw [fp (by omega),fp (by omega)];exact h k a (by omega)
theorem arq (f:l.length=n+1) (h:Hp l (n+1)):Hp (dnW (swW l 0 n) n 0) n/\(dnW (swW l 0 n) n 0).Perm l/\gW (dnW (swW l 0 n) n 0) n=gW l 0:=by
 have a:=zf (l:=l) (i:=0) (j:=n) (by omega) (by omega)
 obtain ⟨d,e⟩:=ayi (l:=swW l 0 n) (n:=n) (i:=0) (by rw [v8]; omega) ⟨λ k b p q=>by
  rw [a k,a ((k-1)/2),if_neg (by omega),if_neg (by omega),if_neg (by omega),if_neg (by omega)]
  exact h k b (by omega),λ c o g hc m=>by omega⟩
 refine ⟨d,e.trans (ae1 (by omega) (by omega)),?_⟩;rw [aqf (by rw [v8]; omega) (zai _),a,if_pos rfl]
theorem Hp.take (h:Hp l n) (d:n<=l.length):Hp (l.take n) n:=λ j b a=>by
 have e:∀i,i<n->gW (l.take n) i=gW l i:=λ i c=>by
  unfold gW;rw [zah,zah,List.getElem?_take,if_pos c]
 rw [e j a,e _ (by omega)];exact h j b a
def ig (l:List Wt):List Wt:=(dnW (swW l 0 (l.length-1)) (l.length-1) 0).take (l.length-1)
theorem alx (f:l≠[]) (h:Hp l l.length):Hp (ig l) (l.length-1)/\(ig l).length=l.length-1/\l.Perm (gW l 0::ig l)/\∀x∈ig l,lsW x (gW l 0)=false:=by
 have q:1<=l.length:=by cases l with
  | nil=>exact absurd rfl f
  | cons a r=>simp
 obtain ⟨g,j,o⟩:=arq (l:=l) (n:=l.length-1) (by omega) (by rw [show l.length-1+1=l.length by omega]; exact h);have p:(dnW (swW l 0 (l.length-1)) (l.length-1) 0).length=l.length:=by rw [aa6,v8]
 have c:l.Perm (gW l 0::ig l):=by
  refine j.symm.trans ?_;unfold ig;generalize dnW (swW l 0 (l.length-1)) (l.length-1) 0=d at *
  have e:d=d.take (l.length-1)++[gW l 0]:=by
   have k:d.drop (l.length-1)=[gW l 0]:=by
    rw [List.drop_eq_getElem_cons (show l.length-1<d.length by omega),List.drop_of_length_le (show d.length<=l.length-1+1 by omega),<- gz (by omega),o]
   rw [<- k,List.take_append_drop]
  rw [e];refine (List.perm_append_comm).trans ?_;rw [<- e];exact List.Perm.refl _
 refine ⟨g.take (by omega),by rw [ig,List.length_take]; omega,c,λ x hx=>?_⟩;have m:x∈l:=c.symm.subset (List.mem_cons_of_mem _ hx);obtain ⟨i,b,rfl⟩:=List.getElem_of_mem m;rw [<- gz b];exact h.least i b

def v7:Nat->List Wt->List Wt
 | 0,_=>[]
 | k+1,l=>if l=[] then [] else gW l 0::v7 k (ig l)
def ec:Nat->List Wt->List Wt
 | 0,l=>l
 | k+1,l=>if l=[] then [] else ec k (ig l)
theorem ahd:∀(k:Nat) (l:List Wt),Hp l l.length->(v7 k l).length=min k l.length/\l.Perm (v7 k l++ec k l)/\(v7 k l).Pairwise (λ x y=>lsW y x=false)/\∀x∈v7 k l,∀y∈ec k l,lsW y x=false
 | 0,l,_=>⟨by simp [v7],by simp [v7,ec],by simp [v7],by simp [v7]⟩
 | k+1,l,h=>by
   by_cases b:l=[]
   ·subst b;simp [v7,ec]
   obtain ⟨i,p2,f,d⟩:=alx b h
   have m:1<=l.length:=by cases l with
    | nil=>exact absurd rfl b
    | cons a r=>simp
   obtain ⟨g,c,j,e⟩:=ahd k (ig l) (by rw [p2]; exact i);rw [v7,ec,if_neg b,if_neg b];refine ⟨by rw [zae,g,p2]; omega,?_,List.pairwise_cons.2 ⟨λ y hy=>d y (c.symm.subset (zaq _ hy)),j⟩,λ x hx y hy=>?_⟩
   ·rw [List.cons_append];exact f.trans (c.cons _)
   rcases zan.1 hx with rfl | hx
   ·exact d y (c.symm.subset (List.mem_append_right _ hy))
   exact e x hx y hy

def kb (es:List MapEntry):List (Value×Nat):=es.map λ e=>(e.key,e.born)
variable {es':List MapEntry}
theorem ad6 {es:List MapEntry} (h:kb es=kb es'):es.map kI=es'.map kI:=by
 have e:∀l:List MapEntry,l.map kI=(kb l).map λ p=>match p.1 with | .int _ n=>n | _=>0:=λ l=>by
  unfold kb;rw [List.map_map];exact List.map_congr_left λ e _=>rfl
 rw [e,e,h]
theorem ann {es:List MapEntry} {c:Nat} (h:kb es'=kb es) (m:eg es c):eg es' c:=by
 obtain ⟨k,l,n⟩:=m
 have j:es'.map (·.born)=es.map (·.born):=by
  have:=congrArg (List.map Prod.snd) h;simpa [kb,Function.comp_def] using this
 have i:∀e∈es',∃f∈es,f.key=e.key/\f.born=e.born:=λ e b=>by
  have:(e.key,e.born)∈kb es:=by rw [<- h]; exact zaf.2 ⟨e,b,rfl⟩
  obtain ⟨f,d,a⟩:=zaf.1 this;simp only [Prod.mk.injEq] at a;exact ⟨f,d,a.1,a.2⟩
 refine ⟨λ e b=>?_,by rw [j]; exact l,λ e b=>?_⟩
 ·obtain ⟨f,d,a,_⟩:=i e b;have:=k f d;rw [a] at this;rw [this];have g:kI e=kI f:=by unfold kI; rw [a]
  rw [g]
 obtain ⟨f,d,_,g⟩:=i e b;rw [<- g];exact n f d
theorem abo {k:Int}:∀{es:List MapEntry} (i:Nat),(∀e∈es,e.key=.int .u64 (kI e))->k∈es.map kI->∃j v e,ab (.int .u64 k) es i=some (some (i+j,v))/\es[j]?=some e/\e.key=.int .u64 k/\e.val=v
 | [],i,_,hk=>by simp at hk
 | e::es,i,h,hk=>by
   have c:=h e (by simp);have g:la (.int .u64 k) e.key=some (k == kI e):=by rw [c]; simp [la]
   rw [ab,g];by_cases a:k=kI e
   ·refine ⟨0,e.val,e,?_,rfl,by rw [a]; exact c,rfl⟩;rw [beq_iff_eq.2 a]
    rfl
   rw [beq_eq_false_iff_ne.2 a];have b:k∈es.map kI:=(zan.1 hk).resolve_left a;obtain ⟨j,v,f,l,n,d,m⟩:=abo (i+1) (λ x hx=>h x (by simp [hx])) b;refine ⟨j+1,v,f,?_,by simpa using n,d,m⟩;show ab (.int .u64 k) es (i+1) = _;rw [l,Nat.add_assoc,Nat.add_comm 1 j]
theorem qx {k:Int}:∀{es:List MapEntry} (i:Nat),(∀e∈es,e.key=.int .u64 (kI e))->k∉es.map kI->ab (.int .u64 k) es i=some none
 | [],i,_,_=>rfl
 | e::es,i,h,hk=>by
   have b:=h e (by simp);have a:k≠kI e:=λ q=>hk (by simp [q]);have c:la (.int .u64 k) e.key=some false:=by rw [b]; simp [la,a]
   rw [ab,c];exact qx (i+1) (λ x hx=>h x (by simp [hx])) λ q=>hk (by rw [List.map_cons]; exact List.mem_cons_of_mem _ q)
def adk (es:List MapEntry) (c:Nat) (k:Int) (n:Int):List MapEntry:=agf (xl es c (.int .u64 k) (.int .i64 0)) (xk es c (.int .u64 k)) (.int .i64 n)
theorem aeb {es:List MapEntry} {c:Nat} (h:eg es c) {k:Int} (m:k∈es.map kI) (n:Int) :
 kb (adk es c k n)=kb es/\okK es (.int .u64 k)=true/\anm (xl es c (.int .u64 k) (.int .i64 0)) (xk es c (.int .u64 k))=true/\v9 es c (.int .u64 k)=c:=by
 obtain ⟨j,v,e,d,f,o,s⟩:=abo 0 h.1 m;rw [zaa] at d;have r:=(List.getElem?_eq_some_iff.1 f).1
 have i:xl es c (.int .u64 k) (.int .i64 0)=es:=by
  simp only [xl,d];refine List.ext_getElem? λ q=>?_;rw [List.getElem?_modify];by_cases b:j=q
  ·subst b;simp only [if_true,Option.map_eq_map,f,Option.map_some];rw [<- o]
  simp only [if_neg b,Option.map_eq_map];cases es[q]? <;> rfl
 have g:xk es c (.int .u64 k)=e.born:=by
  simp only [xk,d,f]
  rfl
 have l:∃q,es.findIdx? (λ x=>(x.born:Int) == (e.born:Int))=some q:=by
  cases b:es.findIdx? (λ x=>(x.born:Int) == (e.born:Int)) with
  | some q=>exact ⟨q,rfl⟩
  | none=>
    have:=List.findIdx?_eq_none_iff.1 b e (List.mem_of_getElem? f);simp at this
 obtain ⟨q,b⟩:=l;refine ⟨?_,by simp [okK,d],by rw [i,g]; simp [anm,b],by simp [v9,d]⟩;unfold adk;rw [i,g];simp only [agf,b];unfold kb;refine List.ext_getElem? λ z=>?_;rw [List.getElem?_map,List.getElem?_map,List.getElem?_modify];cases es[z]? with
 | none=>rfl
 | some a=>by_cases p:q=z<;>simp [p]

def vy:Mk P0 f178:={ x:=_ }
def wz:Mk P0 f174:={ x:=_ }
theorem aao:pg 174 3 wz:=ft func174
def ww:Mk P0 f177:={ x:=_ }
theorem aan:pg 177 3 ww:=ft func177
def yi:Mk P0 f173:={ x:=_ }
theorem abk:pg 173 1 yi:=ft func173
def oz:Mk P0 f176:={ x:=_ }
theorem qr:pg 176 2 oz:=ft func176
def yh:Mk P0 f175:={ x:=_ }
theorem abj:pg 175 1 yh:=ft func175
def wR (a:Wt):RV:=.agg [.v (.int .u64 a.1),.v (.int .i64 a.2)]
def zW:RV:=.agg [.v (.int .u64 0),.v (.int .i64 0)]
def g8 (l:List Wt):Ob:=.row 2 zW true true (l.map wR)
def qO (l:List Wt) (n:Nat) (es:List MapEntry) (c:Nat):List Ob:=[.box [.own 1000001 0 0 n,.mp 1000002 0],g8 l,.map es c]
theorem xd (h:i<l.length) (z:RV):(l.map wR).getD i z=.agg [.v (.int .u64 (gW l i).1),.v (.int .i64 (gW l i).2)]:=by
 rw [zah,List.getElem?_map,List.getElem?_eq_getElem h,gz h]
 rfl
theorem aux (a b:Wt):b5 P0 178 [.r (wR a),.r (wR b)] [] (bl (lsW a b)) []:=by
 refine vy.t func178 ?_;by_cases h:a.2=b.2
 ·have e:(a.2 != b.2)=false:=by simp [h]
  have c:lsW a b=decide (a.1<b.1):=by unfold lsW; rw [if_neg (by simp [h])]
  rw [c]
  push_cast [vy,wR,e,zad]
 have e:(a.2 != b.2)=true:=by simp [h]
 have c:lsW a b=decide (a.2>b.2):=by unfold lsW; rw [if_pos h]
 rw [c]
 push_cast [vy,wR,e,zad]
theorem ahj (l:List Wt) (n:Nat) (e:n<=l.length) (es:List MapEntry) (c i k:Nat) (d:i<n) (f:k<n) :
 b5 P0 174 [.ptr 1000000 0 0,int .i64 i,int .i64 k] (qO l n es c) (bl (lsW (gW l i) (gW l k))) (qO l n es c):=by
 refine aao rfl (by simp [qO]) ?_;have a:=λ z=>xd (l:=l) (i:=i) (by omega) z;have b:=λ z=>xd (l:=l) (i:=k) (by omega) z
 push_cast [wz,qO,g8,zW,a,b,zag,zae,zad,zab,zac,zaa]
 refine And.intro ⟨by omega,by omega⟩ (And.intro ⟨by omega,by omega⟩ ?_);refine x8 (as':=[.r (wR (gW l i)),.r (wR (gW l k))]) rfl ?_;refine d9 (aux _ _) rfl trivial ?_
 push_cast
 kernel_rfl
theorem ajd (l:List Wt) (n:Nat) (es:List MapEntry) (c:Nat):b5 P0 173 [.ptr 1000000 0 0] (qO l n es c) (int .i64 n) (qO l n es c):=by
 refine abk rfl (by simp [qO]) ?_
 push_cast [yi,qO,g8,zW,zae,zad]
def swE (l:List Wt) (es:List MapEntry) (c i k:Nat):List MapEntry:=adk (adk es c (gW (swW l i k) i).1 i) c (gW (swW l i k) k).1 k
theorem ahf (l:List Wt) (n:Nat) (J:n<=l.length) (es:List MapEntry) (c i k:Nat) (u:i<n) (D:k<n) (w:eg es c) (a:∀j,j<n->(gW l j).1∈es.map kI) :
 b5 P0 177 [.ptr 1000000 0 0,int .i64 i,int .i64 k] (qO l n es c) (.tup []) (qO (swW l i k) n (swE l es c i k) c):=by
 refine aan rfl (by simp [qO]) ?_;have s:=λ z=>xd (l:=l) (i:=i) (by omega) z;have h:=λ z=>xd (l:=l) (i:=k) (by omega) z
 have m:(l.map wR).set i (.agg [.v (.int .u64 (gW l k).1),.v (.int .i64 (gW l k).2)])=(l.set i (gW l k)).map wR:=by
  rw [List.map_set]
  rfl
 have q:=λ z=>xd (l:=l.set i (gW l k)) (i:=k) (by rw [List.length_set]; omega) z
 have o:((l.set i (gW l k)).map wR).set k (.agg [.v (.int .u64 (gW l i).1),.v (.int .i64 (gW l i).2)])=(swW l i k).map wR:=by
  unfold swW;rw [List.map_set (l:=l.set i (gW l k))]
  rfl
 have I:(swW l i k).length=l.length:=v8 l i k;have g:=λ z=>xd (l:=swW l i k) (i:=i) (by omega) z;have f:=λ z=>xd (l:=swW l i k) (i:=k) (by omega) z
 have r:(gW (swW l i k) i).1∈es.map kI:=by
  rw [zf (by omega) (by omega)];split
  ·exact a i u
  rw [if_pos rfl]; exact a k D
 have e:(gW (swW l i k) k).1∈es.map kI:=by
  rw [zf (by omega) (by omega),if_pos rfl];exact a i u
 obtain ⟨y,E,F,G⟩:=aeb w r i;have p:=ann y w;rw [<- ad6 y] at e;obtain ⟨K,B,x,t⟩:=aeb p e k;have b:adk (adk es c (gW (swW l i k) i).1 i) c (gW (swW l i k) k).1 k=swE l es c i k:=rfl;generalize swE l es c i k=H at *;obtain ⟨A,d⟩:∃A,adk es c (gW (swW l i k) i).1 i=A:=⟨_,rfl⟩
 rw [d] at B x t b;unfold adk at d b;have C:∀n,bj false (.int .u64 n)=true:=λ _=>rfl
 push_cast [ww,qO,g8,zW,s,h,m,q,o,g,f,E,F,G,B,x,t,d,b,C,abp,agh,ad5,aiq,zag,zae,zad,List.drop_succ_cons,List.drop_zero,List.take_succ_cons,List.take_zero,List.cons_append,List.nil_append,zab,zac,zaa]
 refine And.intro ⟨by omega,by omega⟩ (And.intro ⟨by omega,by omega⟩ (And.intro ⟨by omega,by omega⟩ (And.intro ⟨by omega,by omega⟩ (And.intro (by kernel_rfl) ?_))))
 repeat refine And.intro (by first | omega | exact ⟨by omega,by omega⟩ | kernel_rfl) ?_
 kernel_rfl

def ifW (a:Wt):AV:=.ifc 82 (.agg [int .u64 a.1,int .i64 a.2])
def puE (es:List MapEntry) (c:Nat) (k n:Int):List MapEntry:=z0 es c (.int .u64 k) (.int .i64 n)
theorem ac0 {es:List MapEntry} {c:Nat} (h:eg es c) {k:Int} (o:k∉es.map kI) (n:Int):okK es (.int .u64 k)=true/\v9 es c (.int .u64 k)=c+1/\puE es c k n=es++[⟨.int .u64 k,.int .i64 n,c⟩]/\eg (puE es c k n) (c+1)/\(puE es c k n).map kI=es.map kI++[k]:=by
 have d:=qx 0 h.1 o;have e:puE es c k n=es++[⟨.int .u64 k,.int .i64 n,c⟩]:=by simp [puE,z0,d]
 refine ⟨by simp [okK,d],by simp [v9,d],e,?_,by rw [e]; simp [kI]⟩;rw [e];obtain ⟨j,l,g⟩:=h;refine ⟨λ x hx=>?_,?_,λ x hx=>?_⟩
 ·rcases zaj.1 hx with hx | hx
  ·exact j x hx
  obtain rfl:=List.mem_singleton.1 hx
  rfl
 ·rw [List.map_append,List.nodup_append];refine ⟨l,by simp,λ a p b i=>?_⟩;obtain ⟨f,m,rfl⟩:=zaf.1 p;simp at i;subst i;have:=g f m;omega
 rcases zaj.1 hx with hx | hx
 ·have:=g x hx;omega
 obtain rfl:=List.mem_singleton.1 hx;simp
theorem arf (es:List MapEntry) (c:Nat) (x:Wt) (a:eg es c) (hx:x.1∉es.map kI) :
 b5 P0 176 [.ptr 1000000 0 0,ifW x] [.box [.nils 2 zW,.mp 1000001 0],.map es c] (.tup []) [.box [.own 1000002 0 0 1,.mp 1000001 0],.map (puE es c x.1 0) (c+1),g8 [x]]:=by
 refine qr rfl (by simp) ?_;obtain ⟨e,b,_⟩:=ac0 a hx 0;have d:∀n,bj false (.int .u64 n)=true:=λ _=>rfl
 push_cast [oz,qO,g8,zW,ifW,wR,e,b,d,zae,zad,zab,zac,zaa]
 repeat refine And.intro (by first | exact Or.inl trivial | omega | exact ⟨by omega,by omega⟩ | exact ⟨by omega,by omega,by omega⟩ | kernel_rfl | (simp; done) | (have:=v6; omega) | exact ⟨by omega,by have:=v6; omega⟩) ?_
 rfl
theorem aur (l:List Wt) (f:l.length<=1000000) (g:l≠[]) (es:List MapEntry) (c:Nat) (x:Wt) (a:eg es c) (hx:x.1∉es.map kI) :
 b5 P0 176 [.ptr 1000000 0 0,ifW x] (qO l l.length es c) (.tup []) (qO (l++[x]) (l.length+1) (puE es c x.1 l.length) (c+1)):=by
 refine qr rfl (by simp [qO]) ?_;obtain ⟨e,b,_⟩:=ac0 a hx l.length;have d:∀n,bj false (.int .u64 n)=true:=λ _=>rfl
 push_cast [oz,qO,g8,zW,ifW,wR,e,b,d,zag,zae,zad,zab,zac,zaa]
 repeat refine And.intro (by first | exact Or.inl trivial | omega | exact ⟨by omega,by omega⟩ | exact ⟨by omega,by omega,by omega⟩ | kernel_rfl | (simp; done) | (have:=v6; omega) | exact ⟨by omega,by have:=v6; omega⟩) ?_
 simp [puE,wR]
theorem aw7 (l:List Wt) (n:Nat) (o:n+1<=l.length) (m:l.length<=1000000) (es:List MapEntry) (c:Nat) (a:eg es c) :
 b5 P0 175 [.ptr 1000000 0 0] (qO l (n+1) es c) (ifW (gW l n)) (qO l n (z5 es (.int .u64 (gW l n).1)) c):=by
 refine abj rfl (by simp [qO]) ?_;have g:∀n,bj false (.int .u64 n)=true:=λ _=>rfl
 have k:okK es (.int .u64 (gW l n).1)=true:=by
  unfold okK;by_cases h:(gW l n).1∈es.map kI
  ·obtain ⟨j,v,e,f,_⟩:=abo 0 a.1 h;rw [f]; rfl
  rw [qx 0 a.1 h]; rfl
 have d:IntKind.i64.wrap ((n:Int)+1-1)=n:=by rw [a6 (by omega)]; omega
 have b:=λ z=>xd (l:=l) (i:=n) (by omega) z
 push_cast [yh,qO,g8,zW,ifW,wR,g,k,d,b,Int.natCast_add,Int.natCast_one,zag,zae,zad,zab,zac,zaa]
 repeat refine And.intro (by first | exact Or.inl trivial | omega | exact ⟨by omega,by omega⟩ | exact ⟨by omega,by omega,by omega⟩ | kernel_rfl | (simp; done) | (have:=v6; omega) | exact ⟨by omega,by have:=v6; omega⟩) ?_
 simp

def ago:PC:=
 (.block 0 (.loop (.block 1 (.seq (.reg [p_m 5 1,p_s 6 (.bin .sub (.t 5) (o_i 1)),p_s 7 (.bin .quo (.t 6) (o_i 2)),p_m 4 7])
 (.seq (.seq (.reg [p_m 8 4,p_m 9 1,p_s 10 (.bin .eql (.t 8) (.t 9)),p_m 11 10,p_g 12 11 false (.mov (.t 0)),p_g 13 11 false (.mov (.t 1)),p_g 14 11 false (.mov (.t 4)),⟨(some 15),(some (11,false)),1,.inv [(114,174)] (.t 12) [(.t 13),(.t 14)]⟩,
 p_g 16 11 false (.un .not (.t 15)),p_s 17 (.pick (.t 11) (.c (.r (.v (.bool true)))) (.t 16))])
 (.cond (.t 17)
 (.exit 0)
 .skip))
 (.seq (.reg [p_m 18 0,p_m 19 4,p_m 20 1,⟨(some 21),none,2,.inv [(114,177)] (.t 18) [(.t 19),(.t 20)]⟩])
 (.reg [p_m 22 4,p_m 1 22])))))))
theorem ahs:Fun P0 94 2 [] ago:=sh func94 rfl (by decide) (by kernel_rfl) (by decide) rfl (by kernel_rfl) (by kernel_rfl) (by decide)
def adc:PC:=
 (.seq (.reg [p_s 6 (.mov (.c (.r (.v (.bool false)))))])
 (.seq (.reg [p_m 11 1,p_m 7 11])
 (.seq (.block 0 (.loop (.block 1 (.seq (.reg [p_m 12 7,p_s 13 (.bin .mul (o_i 2) (.t 12)),p_s 14 (.bin .add (.t 13) (o_i 1)),p_m 8 14])
 (.seq (.seq (.reg [p_m 15 8,p_m 16 2,p_s 17 (.bin .geq (.t 15) (.t 16)),p_m 18 17,p_g 19 18 false (.mov (.t 8)),p_g 20 18 false (.bin .lss (.t 19) (o_i 0)),p_s 21 (.pick (.t 18) (.c (.r (.v (.bool true)))) (.t 20))])
 (.cond (.t 21)
 (.exit 0)
 .skip))
 (.seq (.reg [p_m 22 8,p_m 9 22])
 (.seq (.seq (.reg [p_m 23 8,p_s 24 (.bin .add (.t 23) (o_i 1)),p_m 10 24])
 (.seq (.reg [p_m 25 10,p_m 26 2,p_s 27 (.bin .lss (.t 25) (.t 26)),p_m 28 27,p_g 29 28 true (.mov (.t 0)),p_g 30 28 true (.mov (.t 10)),p_g 31 28 true (.mov (.t 8)),⟨(some 32),(some (28,true)),1,.inv [(114,174)] (.t 29) [(.t 30),(.t 31)]⟩,
 p_s 33 (.pick (.t 28) (.t 32) (.c (.r (.v (.bool false)))))])
 (.cond (.t 33)
 (.reg [p_m 34 10,p_m 9 34])
 .skip)))
 (.seq (.seq (.reg [p_m 35 0,p_m 36 9,p_m 37 7,⟨(some 38),none,2,.inv [(114,174)] (.t 35) [(.t 36),(.t 37)]⟩,p_s 39 (.un .not (.t 38))])
 (.cond (.t 39)
 (.exit 0)
 .skip))
 (.seq (.reg [p_m 40 0,p_m 41 7,p_m 42 9,⟨(some 43),none,3,.inv [(114,177)] (.t 40) [(.t 41),(.t 42)]⟩])
 (.reg [p_m 44 9,p_m 7 44]))))))))))
 (.seq (.reg [p_m 45 7,p_m 46 1,p_s 47 (.bin .gtr (.t 45) (.t 46)),p_m 6 47])
 .ret))))
theorem afh:Fun P0 95 3 [(6,false,none)] adc:=sh func95 rfl (by decide) (by kernel_rfl) (by decide) rfl (by kernel_rfl) (by kernel_rfl) (by decide)
def yr:PC:=
 (.seq (.reg [p_m 4 0,p_m 5 1,⟨(some 6),none,1,.inv [(78,36),(114,176)] (.t 4) [(.t 5)]⟩])
 (.reg [p_m 7 0,p_m 8 0,⟨(some 9),none,2,.inv [(26,18),(59,170),(78,171),(114,173)] (.t 8) []⟩,p_s 10 (.bin .sub (.t 9) (o_i 1)),p_c 11 3 94 [.t 7,.t 10]]))
theorem yq:Fun P0 60 2 [] yr:=sh func60 rfl (by decide) (by kernel_rfl) (by decide) rfl (by kernel_rfl) (by kernel_rfl) (by decide)
def aeo:PC:=
 (.seq (.reg [p_s 2 (.mov (.c (.r (.v .nilIface))))])
 (.seq (.reg [p_m 4 0,⟨(some 5),none,1,.inv [(26,18),(59,170),(78,171),(114,173)] (.t 4) []⟩,p_s 6 (.bin .sub (.t 5) (o_i 1)),p_m 3 6])
 (.seq (.reg [p_m 7 0,p_m 8 3,⟨(some 9),none,2,.inv [(114,177)] (.t 7) [(o_i 0),(.t 8)]⟩])
 (.seq (.reg [p_m 10 0,p_m 11 3,p_c 12 3 95 [(.t 10),(o_i 0),(.t 11)]])
 (.seq (.reg [p_m 13 0,⟨(some 14),none,4,.inv [(78,37),(114,175)] (.t 13) []⟩,p_m 2 14])
 .ret)))))
theorem agp:Fun P0 62 1 [(2,false,none)] aeo:=sh func62 rfl (by decide) (by kernel_rfl) (by decide) rfl (by kernel_rfl) (by kernel_rfl) (by decide)
def qI:AV:=.ifc 114 (.ptr 1000000 0 0)
def upE (l:List Wt) (es:List MapEntry) (c j:Nat):List MapEntry:=
 if h:j=0\/lsW (gW l j) (gW l ((j-1)/2))=false then es else upE (swW l ((j-1)/2) j) (swE l es c ((j-1)/2) j) c ((j-1)/2)
termination_by j
decreasing_by omega
def dnE (l:List Wt) (es:List MapEntry) (c n i:Nat):List MapEntry:=
 if h:n<=2*i+1\/lsW (gW l (chW l n i)) (gW l i)=false then es else dnE (swW l i (chW l n i)) (swE l es c i (chW l n i)) c n (chW l n i)
termination_by n-i
decreasing_by
 have:=(pq (l:=l) (show 2*i+1<n by omega)).2.1;omega
def dnI (l:List Wt) (n i:Nat):Nat:=
 if h:n<=2*i+1\/lsW (gW l (chW l n i)) (gW l i)=false then i else dnI (swW l i (chW l n i)) n (chW l n i)
termination_by n-i
decreasing_by
 have:=(pq (l:=l) (show 2*i+1<n by omega)).2.1;omega
def Nam (l:List Wt) (n:Nat) (es:List MapEntry) (c:Nat):Prop:=eg es c/\n<=l.length/\∀j,j<n->(gW l j).1∈es.map kI
theorem Nam.sx {es:List MapEntry} {c:Nat} (h:Nam l n es c) (o:i<n) (p:k<n):Nam (swW l i k) n (swE l es c i k) c/\kb (swE l es c i k)=kb es:=by
 obtain ⟨a,s,m⟩:=h;have q:=zf (l:=l) (i:=i) (j:=k) (by omega) (by omega)
 have g:∀j,j<n->(gW (swW l i k) j).1∈es.map kI:=λ j f=>by
  rw [q j];split
  ·exact m i o
  split
  ·exact m k p
  exact m j f
 obtain ⟨b,_⟩:=aeb a (g i o) i;have d:=ann b a;obtain ⟨r,_⟩:=aeb d (k:=(gW (swW l i k) k).1) (by rw [ad6 b]; exact g k p) k;have e:kb (swE l es c i k)=kb es:=r.trans b;exact ⟨⟨ann e a,by rw [v8]; exact s,λ j f=>by rw [ad6 e]; exact g j f⟩,e⟩
theorem awp (d:List Wt) (n:Nat) (J:d.length<=1000000) (b:List MapEntry) (c e:Nat) (B:e<n) (I:Nam d n b c) :
 b5 P0 94 [qI,int .i64 e] (qO d n b c) (.tup []) (qO (upW d e) n (upE d b c e) c):=by
 refine ahs rfl (by simp [qO]) ?_
 push_cast [ago,qI,qO,zae,zad]
 refine c9 [(1,false),(0,false)] (λ vs pos m=>∃(j:Nat) (l:List Wt) (es:List MapEntry),l.length<=1000000/\j<n/\Nam l n es c/\upW d e=upW l j/\upE d b c e=upE l es c j/\vs=[int .i64 j,qI]/\pos=qO l n es c/\m=[])
  (λ vs _ _=>match vs with | .r (.v (.int _ a))::_=>a.toNat | _=>0) rfl ?_ ?_
 ·push_cast [qI,qO,g8,zW]
  exact ⟨e,d,b,J,B,I,rfl,rfl,rfl,rfl⟩
 rintro vs pos m ⟨j,l,es,y,z,x,E,F,rfl,rfl,rfl⟩;obtain ⟨i,w⟩:∃i,(j-1)/2=i:=⟨_,rfl⟩
 have o:=x.2.1;have u:IntKind.i64.wrap ((j:Int)-1)=j-1:=a6 (by omega)
 have s:((j:Int)-1).tdiv 2=i:=by
  by_cases h:j=0
  ·subst h;rw [<- w]
   rfl
  rw [zak (by omega)];omega
 have t:IntKind.i64.wrap (i:Int)=i:=a6 (by omega)
 have f:j=0\/lsW (gW l j) (gW l i)=false->upW d e=l/\upE d b c e=es:=λ q=>by
  rw [E,F,upW,upE,w,dif_pos q,dif_pos q];exact ⟨rfl,rfl⟩
 by_cases G:j=0
 ·have p:((i:Int) == (j:Int))=true:=by simp; omega
  obtain ⟨A,D⟩:=f (.inl G);rw [A,D]
  push_cast [qI,qO,g8,zW,u,s,t,p]
 have p:((i:Int) == (j:Int))=false:=by simp; omega
 push_cast [qI,qO,g8,zW,u,s,t,p]
 refine b9 (as':=[.ptr 1000000 0 0,int .i64 j,int .i64 i]) rfl ?_;refine a7 (ahj l n o es c j i z (by omega)) rfl (by simp [qO,g8,d8]) ?_;cases hs:lsW (gW l j) (gW l i) with
 | false=>
   obtain ⟨A,D⟩:=f (.inr hs);rw [A,D]
   push_cast [qI,qO,g8,zW,u,s,t,p]
 | true=>
   obtain ⟨H,K⟩:=x.sx (i:=i) (k:=j) (by omega) z;have C:=ahf l n o es c i j (by omega) z x.1 x.2.2
   push_cast [qI,qO,g8,zW,u,s,t,p]
   refine b9 (as':=[.ptr 1000000 0 0,int .i64 i,int .i64 j]) rfl ?_;refine a7 C rfl (by simp [qO,g8,d8]) ?_
   push_cast [qI,qO,g8,zW]
   have g:¬(j=0\/lsW (gW l j) (gW l i)=false):=λ q=>q.elim G (λ q=>by rw [hs] at q; cases q);exact ⟨⟨i,swW l i j,swE l es c i j,by rw [v8]; exact y,by omega,H,by rw [E,upW,w,dif_neg g],by rw [F,upE,w,dif_neg g],rfl,rfl⟩,by omega⟩
theorem a0t (e:List Wt) (m n:Nat) (T:n<=m) (U:e.length<=1000000) (d:List MapEntry) (c b:Nat) (y:b<=n) (R:Nam e m d c) :
 b5 P0 95 [qI,int .i64 b,int .i64 n] (qO e m d c) (bl (decide ((dnI e n b:Int)>b))) (qO (dnW e n b) m (dnE e d c n b) c):=by
 refine afh rfl (by simp [qO]) ?_
 push_cast [adc,qI,qO,zae,zad]
 refine c9 [(7,false),(0,false),(1,false),(2,false)] (λ vs pos s=>∃(i:Nat) (l:List Wt) (es:List MapEntry),l.length<=1000000/\i<=n/\Nam l m es c/\dnW e n b=dnW l n i/\dnE e d c n b=dnE l es c n i/\dnI e n b=dnI l n i/\vs=[int .i64 i,qI,int .i64 b,int .i64 n]/\pos=qO l m es c/\s=[])
  (λ vs _ _=>match vs with | .r (.v (.int _ a))::_=>(n-a).toNat | _=>0) rfl ?_ ?_
 ·push_cast [qI,qO,g8,zW]
  exact ⟨b,e,d,U,y,R,rfl,rfl,rfl,rfl,rfl⟩
 rintro vs pos s ⟨i,l,es,B,Y,w,M,N,O,rfl,rfl,rfl⟩;have o:=w.2.1;have C:IntKind.i64.wrap (2*(i:Int))=2*i:=a6 (by omega);have L:IntKind.i64.wrap (2*(i:Int)+1)=2*i+1:=a6 (by omega);have A:IntKind.i64.wrap (2*(i:Int)+1+1)=2*i+2:=by rw [a6 (by omega)]; omega
 have z:decide (2*(i:Int)+1<0)=false:=decide_eq_false (by omega)
 have g:n<=2*i+1\/lsW (gW l (chW l n i)) (gW l i)=false->dnW e n b=l/\dnE e d c n b=es/\dnI e n b=i:=λ q=>by
  rw [M,N,O,dnW,dnE,dnI,dif_pos q,dif_pos q,dif_pos q];exact ⟨rfl,rfl,rfl⟩
 by_cases P:n<=2*i+1
 ·have x:decide (2*(i:Int)+1>=n)=true:=decide_eq_true (by omega);obtain ⟨D,H,E⟩:=g (.inl P);rw [D,H,E]
  push_cast [qI,qO,g8,zW,C,L,A,z,x]
 have x:decide (2*(i:Int)+1>=n)=false:=decide_eq_false (by omega);obtain ⟨V,c2,S,W⟩:=pq (l:=l) (show 2*i+1<n by omega);obtain ⟨J,f⟩:∃J,chW l n i=J:=⟨_,rfl⟩
 have hc:(2*i+2<n/\lsW (gW l (2*i+2)) (gW l (2*i+1))=true/\J=2*i+2)\/(2*i+2<n/\lsW (gW l (2*i+2)) (gW l (2*i+1))=false/\J=2*i+1)\/(¬2*i+2<n/\lsW (gW l 0) (gW l 0)=false/\J=2*i+1):=by
  unfold chW at f;by_cases h:2*i+2<n
  ·cases p:lsW (gW l (2*i+2)) (gW l (2*i+1)) with
   | true=>rw [if_pos ⟨h,p⟩] at f; exact .inl ⟨h,rfl,f.symm⟩
   | false=>rw [if_neg (λ q=>by rw [p] at q; exact absurd q.2 (by decide))] at f; exact .inr (.inl ⟨h,rfl,f.symm⟩)
  rw [if_neg (λ q=>h q.1)] at f;exact .inr (.inr ⟨h,by rw [zl]; omega,f.symm⟩)
 rw [f] at V c2 S g;obtain ⟨Q,X⟩:=w.sx (i:=i) (k:=J) (by omega) (by omega);have G:=ahj l m o es c J i (by omega) (by omega);have F:=ahf l m o es c i J (by omega) (by omega) w.1 w.2.2;have t:=ahj l m o es c (2*i+2)
 rcases hc with ⟨h,p,u⟩ | ⟨h,p,u⟩ | ⟨h,p,u⟩<;>(
  first
  | (have I:decide (2*(i:Int)+2<n)=true:=decide_eq_true (by omega)
     have K:=t (2*i+1) (by omega) (by omega)
     push_cast [qI,qO,g8,zW,C,L,A,z,x,I]
     refine b9 (as':=[.ptr 1000000 0 0,int .i64 (2*i+2:Nat),int .i64 (2*i+1:Nat)]) (by simp) ?_;refine a7 K rfl (by simp [qO,g8,d8]) ?_
     push_cast [qI,qO,g8,zW,p])
  | (have I:decide (2*(i:Int)+2<n)=false:=decide_eq_false (by omega)
     push_cast [qI,qO,g8,zW,C,L,A,z,x,I])
  first
  | rw [show 2*(i:Int)+2=(J:Int) by omega]
  | rw [show 2*(i:Int)+1=(J:Int) by omega]
  refine b9 (as':=[.ptr 1000000 0 0,int .i64 J,int .i64 i]) rfl ?_;refine a7 G rfl (by simp [qO,g8,d8]) ?_;cases hs:lsW (gW l J) (gW l i) with
  | false=>
    obtain ⟨D,H,E⟩:=g (.inr hs);rw [D,H,E]
    push_cast [qI,qO,g8,zW]
  | true=>
    push_cast [qI,qO,g8,zW]
    refine b9 (as':=[.ptr 1000000 0 0,int .i64 i,int .i64 J]) rfl ?_;refine a7 F rfl (by simp [qO,g8,d8]) ?_
    push_cast [qI,qO,g8,zW]
    have j:¬(n<=2*i+1\/lsW (gW l J) (gW l i)=false):=λ q=>q.elim P (λ q=>by rw [hs] at q; cases q)
    exact ⟨⟨J,swW l i J,swE l es c i J,by rw [v8]; exact B,by omega,Q,by rw [M,dnW,f,dif_neg j],by rw [N,dnE,f,dif_neg j],by rw [O,dnI,f,dif_neg j],rfl,rfl⟩,by omega⟩)

theorem ar9 (es:List MapEntry) (c:Nat) (x:Wt) (e:eg es c) (hx:x.1∉es.map kI) :
 b5 P0 60 [qI,ifW x] [.box [.nils 2 zW,.mp 1000001 0],.map es c] (.tup []) [.box [.own 1000002 0 0 1,.mp 1000001 0],.map (puE es c x.1 0) (c+1),g8 [x]]:=by
 refine yq rfl (by simp) ?_;obtain ⟨o,m,l,f,h⟩:=ac0 e hx 0
 have i:Nam [x] 1 (puE es c x.1 0) (c+1):=⟨f,by simp,λ j n=>by
  obtain rfl:j=0:=by omega
  rw [h];show x.1∈_
  simp⟩
 have a:=awp [x] 1 (by simp) (puE es c x.1 0) (c+1) 0 (by omega) i;have k:upW [x] 0=[x]:=by rw [upW,dif_pos (.inl rfl)]
 have g:upE [x] (puE es c x.1 0) (c+1) 0=puE es c x.1 0:=by rw [upE,dif_pos (.inl rfl)]
 rw [k,g] at a;have b:=arf es c x e hx;have d:=ajd [x] 1 (puE es c x.1 0) (c+1)
 push_cast [yr,qI,ifW,zW,zae,zad]
 refine b9 (as':=[.ptr 1000000 0 0,ifW x]) rfl ?_;refine a7 b rfl (by simp [d8]) ?_
 push_cast [qI,qO,g8,zW]
 refine b9 (as':=[.ptr 1000000 0 0]) rfl ?_;refine a7 d rfl (by simp [qO,g8,d8]) ?_
 push_cast [qI,qO,g8,zW]
 refine b9 (as':=[qI,int .i64 (0:Nat)]) rfl ?_;refine a7 a rfl (by simp [qO,g8,d8]) ?_
 push_cast [qI,qO,g8,zW]
theorem avi (l:List Wt) (p:l.length<1000000) (i:l≠[]) (es:List MapEntry) (c:Nat) (x:Wt) (b:Nam l l.length es c) (hx:x.1∉es.map kI) :
 b5 P0 60 [qI,ifW x] (qO l l.length es c) (.tup []) (qO (upW (l++[x]) l.length) (l.length+1) (upE (l++[x]) (puE es c x.1 l.length) (c+1) l.length) (c+1)):=by
 refine yq rfl (by simp [qO]) ?_;obtain ⟨o,q,r,k,m⟩:=ac0 b.1 hx l.length
 have a:Nam (l++[x]) (l.length+1) (puE es c x.1 l.length) (c+1):=⟨k,by simp,λ j n=>by
  rw [m];by_cases h:j<l.length
  ·rw [fp h];exact zaq _ (b.2.2 j h)
  obtain rfl:j=l.length:=by omega
  rw [gz (by simp)]
  simp⟩
 have d:=awp (l++[x]) (l.length+1) (by simp; omega) (puE es c x.1 l.length) (c+1) l.length (by omega) a;have f:=aur l (by omega) i es c x b.1 hx;have e:=ajd (l++[x]) (l.length+1) (puE es c x.1 l.length) (c+1);have g:IntKind.i64.wrap ((l.length:Int)+1-1)=l.length:=by rw [a6 (by omega)]; omega
 push_cast [yr,qI,qO,g8,ifW,zW,zae,zad]
 refine b9 (as':=[.ptr 1000000 0 0,ifW x]) rfl ?_;refine a7 f rfl (by simp [qO,g8,d8]) ?_
 push_cast [qI,qO,g8,zW]
 refine b9 (as':=[.ptr 1000000 0 0]) rfl ?_;refine a7 e rfl (by simp [qO,g8,d8]) ?_
 push_cast [qI,qO,g8,zW,Int.natCast_add,Int.natCast_one,g]
 refine b9 (as':=[qI,int .i64 l.length]) rfl ?_;refine a7 d rfl (by simp [qO,g8,d8]) ?_
 push_cast [qI,qO,g8,zW]
def poL (l:List Wt) (n:Nat):List Wt:=dnW (swW l 0 n) n 0
def poE (l:List Wt) (es:List MapEntry) (c n:Nat):List MapEntry:=z5 (dnE (swW l 0 n) (swE l es c 0 n) c n 0) (.int .u64 (gW (poL l n) n).1)
theorem aqg:∀{es:List MapEntry} {c m:Nat},n<=m->Nam l m es c->Nam (dnW l n i) m (dnE l es c n i) c/\kb (dnE l es c n i)=kb es:=by
 induction l,i using dnW.induct (n:=n) with
 | case1 l i h=>
   intro es c m b a;rw [dnW,dnE,dif_pos h,dif_pos h];exact ⟨a,rfl⟩
 | case2 l i h ih=>
   intro es c m b a;rw [dnW,dnE,dif_neg h,dif_neg h];rw [not_or] at h;obtain ⟨_,c2,j,_⟩:=pq (l:=l) (show 2*i+1<n by omega);obtain ⟨d,f⟩:=a.sx (i:=i) (k:=chW l n i) (by omega) (by omega);obtain ⟨e,g⟩:=ih b d;exact ⟨e,g.trans f⟩
theorem awr:∀{es:List MapEntry} {c m:Nat},j<m->Nam l m es c->Nam (upW l j) m (upE l es c j) c/\kb (upE l es c j)=kb es:=by
 induction l,j using upW.induct with
 | case1 l j h=>
   intro es c m b a;rw [upW,upE,dif_pos h,dif_pos h];exact ⟨a,rfl⟩
 | case2 l j h ih=>
   intro es c m b a;rw [upW,upE,dif_neg h,dif_neg h];obtain ⟨d,f⟩:=a.sx (i:=(j-1)/2) (k:=j) (by omega) b;obtain ⟨e,g⟩:=ih (by omega) d;exact ⟨e,g.trans f⟩
theorem ayc (l:List Wt) (n:Nat) (g:l.length<=1000000) (es:List MapEntry) (c:Nat) (a:Nam l (n+1) es c) :
 b5 P0 62 [qI] (qO l (n+1) es c) (ifW (gW (poL l n) n)) (qO (poL l n) n (poE l es c n) c):=by
 refine agp rfl (by simp [qO]) ?_;have j:=a.2.1;have f:=ajd l (n+1) es c;have e:=ahf l (n+1) j es c 0 n (by omega) (by omega) a.1 a.2.2;obtain ⟨h,p⟩:=a.sx (i:=0) (k:=n) (by omega) (by omega);have d:=a0t (swW l 0 n) (n+1) n (by omega) (by rw [v8]; exact g) (swE l es c 0 n) c 0 (by omega) h;obtain ⟨o,q⟩:=aqg (i:=0) (n:=n) (by omega) h;have b:=aw7 (poL l n) n (by unfold poL; rw [aa6,v8]; exact j) (by unfold poL; rw [aa6,v8]; exact g) (dnE (swW l 0 n) (swE l es c 0 n) c n 0) c o.1;have m:IntKind.i64.wrap ((n:Int)+1-1)=n:=by rw [a6 (by omega)]; omega
 push_cast [aeo,qI,qO,g8,zW,zae,zad]
 refine b9 (as':=[.ptr 1000000 0 0]) rfl ?_;refine a7 f rfl (by simp [qO,g8,d8]) ?_
 push_cast [qI,qO,g8,zW,Int.natCast_add,Int.natCast_one,m]
 refine b9 (as':=[.ptr 1000000 0 0,int .i64 (0:Nat),int .i64 n]) rfl ?_;refine a7 e rfl (by simp [qO,g8,d8]) ?_
 push_cast [qI,qO,g8,zW]
 refine b9 (as':=[qI,int .i64 (0:Nat),int .i64 n]) rfl ?_;refine a7 d rfl (by simp [qO,g8,d8]) ?_
 push_cast [qI,qO,g8,zW]
 refine b9 (as':=[.ptr 1000000 0 0]) rfl ?_;refine a7 b rfl (by simp [qO,g8,d8]) ?_
 push_cast [qI,qO,g8,zW,ifW]
 rfl

def acz:Mk P0 f35:={ x:=_ }
def ko:Mk P0 f36:={ x:=_ }
theorem ot:pg 36 2 ko:=ft func36
def lz:Mk P0 f59:={ x:=_ }
theorem pj:pg 59 3 lz:=ft func59
def fg:Mk P0 f37:={ x:=_ }
theorem gr:pg 37 1 fg:=ft func37
def dz:Mk P0 f61:={ x:=_ }
theorem ou:pg 61 1 dz:=ft func61
def qN (es:List MapEntry) (c:Nat):List Ob:=[.box [.ptr 1000001 0 0],.box [.nils 2 zW,.mp 1000002 0],.map es c]
def qS (l:List Wt) (n:Nat) (es:List MapEntry) (c:Nat):List Ob:=[.box [.ptr 1000001 0 0],.box [.own 1000002 0 0 n,.mp 1000003 0],g8 l,.map es c]
theorem aph:b5 P0 35 [] [] (.ptr 1000000 0 0) (qN [] 0):=by
 refine acz.t func35 ?_
 push_cast [acz,qN,zW,zad]
theorem auv (es:List MapEntry) (c:Nat) (k w:Int) (d:eg es c) (hx:k∉es.map kI) :
 b5 P0 59 [.ptr 1000000 0 0,int .u64 k,int .i64 w] (qN es c) (bl false) (qN es c):=by
 refine pj rfl (by simp [qN]) ?_;have a:=qx 0 d.1 hx;have e:∀n,bj false (.int .u64 n)=true:=λ _=>rfl;have f:okK es (.int .u64 k)=true:=by simp [okK,a]
 have b:lkB es (.int .u64 k)=false:=by simp [lkB,a]
 push_cast [lz,qN,zW,e,f,b,zae,zad]
theorem axb (l:List Wt) (n:Nat) (es:List MapEntry) (c:Nat) (k w:Int) (d:eg es c) (hx:k∉es.map kI) :
 b5 P0 59 [.ptr 1000000 0 0,int .u64 k,int .i64 w] (qS l n es c) (bl false) (qS l n es c):=by
 refine pj rfl (by simp [qS]) ?_;have a:=qx 0 d.1 hx;have e:∀n,bj false (.int .u64 n)=true:=λ _=>rfl;have f:okK es (.int .u64 k)=true:=by simp [okK,a]
 have b:lkB es (.int .u64 k)=false:=by simp [lkB,a]
 push_cast [lz,qS,g8,zW,e,f,b,zae,zad]
theorem arl (es:List MapEntry) (c:Nat):b5 P0 61 [.ptr 1000000 0 0] (qN es c) (.tup [.r zW,bl false]) (qN es c):=by
 refine ou rfl (by simp [qN]) ?_
 push_cast [dz,qN,zW,zae,zad]
theorem alq (l:List Wt) (n:Nat) (b:n<=l.length) (es:List MapEntry) (c:Nat):b5 P0 61 [.ptr 1000000 0 0] (qS l n es c) (if n=0 then .tup [.r zW,bl false] else .tup [.r (wR (gW l 0)),bl true]) (qS l n es c):=by
 refine ou rfl (by simp [qS]) ?_;by_cases h:n=0
 ·have e:((n:Int) == 0)=true:=by simp [h]
  rw [if_pos h]
  push_cast [dz,qS,g8,zW,e,zae,zad]
 have e:((n:Int) == 0)=false:=by simp [h]
 have a:=λ z=>xd (l:=l) (i:=0) (by omega) z;rw [if_neg h]
 push_cast [dz,qS,g8,zW,wR,e,a,Int.toNat_zero,zaa,zag,zae,zad,zab,zac,zaa]
 omega
theorem ark (es:List MapEntry) (c:Nat) (x:Wt) (d:eg es c) (hx:x.1∉es.map kI) :
 b5 P0 36 [.ptr 1000000 0 0,.r (wR x)] (qN es c) (.tup []) [.box [.ptr 1000001 0 0],.box [.own 1000003 0 0 1,.mp 1000002 0],.map (puE es c x.1 0) (c+1),g8 [x]]:=by
 refine ot rfl (by simp [qN]) ?_;have b:=auv es c x.1 x.2 d hx;have a:=ar9 es c x d hx
 push_cast [ko,qN,wR,zW,zae,zad]
 refine b9 (as':=[.ptr 1000000 0 0,int .u64 x.1,int .i64 x.2]) rfl ?_;refine a7 b rfl (by simp [qN,d8]) ?_
 push_cast [qN,g8,zW]
 refine x8 (as':=[qI,ifW x]) rfl ?_;refine d9 a rfl (by simp [d8]) ?_
 push_cast [qI,g8,zW]
 kernel_rfl
theorem auw (l:List Wt) (e:l.length<1000000) (f:l≠[]) (es:List MapEntry) (c:Nat) (x:Wt) (d:Nam l l.length es c) (hx:x.1∉es.map kI) :
 b5 P0 36 [.ptr 1000000 0 0,.r (wR x)] (qS l l.length es c) (.tup []) (qS (upW (l++[x]) l.length) (l.length+1) (upE (l++[x]) (puE es c x.1 l.length) (c+1) l.length) (c+1)):=by
 refine ot rfl (by simp [qS]) ?_;have b:=axb l l.length es c x.1 x.2 d.1 hx;have a:=avi l e f es c x d hx
 push_cast [ko,qS,g8,wR,zW,zae,zad]
 refine b9 (as':=[.ptr 1000000 0 0,int .u64 x.1,int .i64 x.2]) rfl ?_;refine a7 b rfl (by simp [qS,g8,d8]) ?_
 push_cast [qS,g8,zW]
 refine x8 (as':=[qI,ifW x]) rfl ?_;refine d9 a rfl (by simp [qO,g8,d8]) ?_
 push_cast [qI,qO,qS,g8,zW]
 kernel_rfl
theorem alp (es:List MapEntry) (c:Nat):b5 P0 37 [.ptr 1000000 0 0] (qN es c) (.tup [.r zW,bl false]) (qN es c):=by
 refine gr rfl (by simp [qN]) ?_;have a:=arl es c
 push_cast [fg,qN,zW,zae,zad]
 refine b9 (as':=[.ptr 1000000 0 0]) rfl ?_;refine a7 a rfl (by simp [qN,d8]) ?_
 push_cast [qN,zW]
theorem alo (l:List Wt) (es:List MapEntry) (c:Nat):b5 P0 37 [.ptr 1000000 0 0] (qS l 0 es c) (.tup [.r zW,bl false]) (qS l 0 es c):=by
 refine gr rfl (by simp [qS]) ?_;have a:=alq l 0 (by omega) es c;rw [if_pos rfl] at a
 push_cast [fg,qS,g8,zW,zae,zad]
 refine b9 (as':=[.ptr 1000000 0 0]) rfl ?_;refine a7 a rfl (by simp [qS,g8,d8]) ?_
 push_cast [qS,g8,zW]
theorem axc (l:List Wt) (n:Nat) (e:l.length<=1000000) (es:List MapEntry) (c:Nat) (b:Nam l (n+1) es c) :
 b5 P0 37 [.ptr 1000000 0 0] (qS l (n+1) es c) (.tup [.r (wR (gW l 0)),bl true]) (qS (poL l n) n (poE l es c n) c):=by
 refine gr rfl (by simp [qS]) ?_;have d:=alq l (n+1) b.2.1 es c;rw [if_neg (by omega)] at d;have a:=ayc l n e es c b
 push_cast [fg,qS,g8,zW,zae,zad]
 refine b9 (as':=[.ptr 1000000 0 0]) rfl ?_;refine a7 d rfl (by simp [qS,g8,d8]) ?_
 push_cast [qS,g8,zW,wR]
 refine b9 (as':=[qI]) rfl ?_;refine a7 a rfl (by simp [qO,g8,d8]) ?_
 push_cast [qO,qS,g8,zW,ifW,wR]

structure QI (l:List Wt) (es:List MapEntry) (c:Nat):Prop where
 hp:Hp l l.length
 nm:Nam l l.length es c
 pm:(es.map kI).Perm (l.map (·.1))
theorem QI.nil:QI [] [] 0:=⟨λ j c a=>by simp at a,⟨⟨by simp,by simp,by simp⟩,by simp,λ j b=>by simp at b⟩,by simp⟩
def puW (l:List Wt) (x:Wt):List Wt:=upW (l++[x]) l.length
def puS (l:List Wt) (es:List MapEntry) (c:Nat) (x:Wt):List MapEntry:=upE (l++[x]) (puE es c x.1 l.length) (c+1) l.length
theorem QI.put {es:List MapEntry} {c:Nat} (h:QI l es c) {x:Wt} (hx:x.1∉l.map (·.1)):QI (puW l x) (puS l es c x) (c+1)/\(puW l x).Perm (l++[x])/\(puW l x).length=l.length+1/\x.1∉es.map kI:=by
 have a:x.1∉es.map kI:=λ q=>hx (h.pm.subset q);obtain ⟨n,o,p,i,e⟩:=ac0 h.nm.1 a l.length;obtain ⟨k,p2⟩:=ajg h.hp x;have d:(puW l x).length=l.length+1:=by unfold puW; rw [ald]; simp
 have b:Nam (l++[x]) (l.length+1) (puE es c x.1 l.length) (c+1):=⟨i,by simp,λ j m=>by
  rw [e];by_cases q:j<l.length
  ·rw [fp q];exact zaq _ (h.nm.2.2 j q)
  obtain rfl:j=l.length:=by omega
  rw [gz (by simp)]
  simp⟩
 obtain ⟨g,f⟩:=awr (j:=l.length) (by omega) b;refine ⟨⟨by rw [d]; exact k,by rw [d]; exact g,?_⟩,p2,d,a⟩;show ((upE (l++[x]) (puE es c x.1 l.length) (c+1) l.length).map kI).Perm _;rw [ad6 f,e];refine (h.pm.append_right _).trans ?_;have:=(p2.map (·.1)).symm;rw [List.map_append] at this;exact this
theorem avc {es:List MapEntry} {c:Nat} (h:eg es c) (k:Int):eg (z5 es (.int .u64 k)) c/\∀x∈es.map kI,x≠k->x∈(z5 es (.int .u64 k)).map kI:=by
 by_cases g:k∈es.map kI
 ·obtain ⟨j,v,e,l,m,n,o⟩:=abo 0 h.1 g;rw [zaa] at l;have f:z5 es (.int .u64 k)=es.eraseIdx j:=by simp [z5,l]
  rw [f];have d:(es.eraseIdx j).Sublist es:=List.eraseIdx_sublist es j;refine ⟨⟨λ y hy=>h.1 y (d.subset hy),h.2.1.sublist (d.map _),λ y hy=>h.2.2 y (d.subset hy)⟩,λ x hx b=>?_⟩;obtain ⟨y,hy,rfl⟩:=zaf.1 hx;refine zaf.2 ⟨y,?_,rfl⟩;obtain ⟨i,a⟩:=zam hy;refine List.mem_eraseIdx_iff_getElem?.2 ⟨i,λ q=>?_,a⟩;subst q;rw [m] at a;cases a;apply b;have:=h.1 e hy;rw [n] at this
  injection this with _ q
  exact q.symm
 have f:z5 es (.int .u64 k)=es:=by simp [z5,qx 0 h.1 g]
 rw [f];exact ⟨h,λ x hx _=>hx⟩
structure QP (xs:List Wt) (n:Nat) (es:List MapEntry) (c:Nat):Prop where
 hp:Hp xs n
 nm:Nam xs n es c
 nd:((xs.take n).map (·.1)).Nodup
theorem avs:∀{l:List Wt},n<=l.length->dnW (l++t) n i=dnW l n i++t:=by
 intro l
 induction l,i using dnW.induct (n:=n) with
 | case1 l i h=>
   intro c
   have e:n<=2*i+1\/lsW (gW (l++t) (chW (l++t) n i)) (gW (l++t) i)=false:=by
    rcases h with h | h
    ·exact .inl h
    by_cases q:n<=2*i+1
    ·exact .inl q
    obtain ⟨_,c2,f,_⟩:=pq (l:=l) (show 2*i+1<n by omega);rw [amn c (by omega),fp (by omega),fp (by omega)];exact .inr h
   have a:dnW (l++t) n i=l++t:=by rw [dnW,dif_pos e]
   have b:dnW l n i=l:=by rw [dnW,dif_pos h]
   rw [a,b]
 | case2 l i h ih=>
   intro c;have d:=h;rw [not_or] at h;obtain ⟨_,c2,f,_⟩:=pq (l:=l) (show 2*i+1<n by omega);have hc:=amn (t:=t) c (show 2*i+1<n by omega)
   have e:¬(n<=2*i+1\/lsW (gW (l++t) (chW (l++t) n i)) (gW (l++t) i)=false):=by
    rw [hc,fp (by omega),fp (by omega)];exact d
   have a:dnW (l++t) n i=dnW (swW (l++t) i (chW (l++t) n i)) n (chW (l++t) n i):=by rw [dnW,dif_neg e]
   have b:dnW l n i=dnW (swW l i (chW l n i)) n (chW l n i):=by rw [dnW,dif_neg d]
   rw [a,b,hc,alg (by omega) (by omega),ih (by rw [v8]; exact c)]
theorem QP.pop {xs:List Wt} {es:List MapEntry} {c:Nat} (h:QP xs (n+1) es c) :
 QP (poL xs n) n (poE xs es c n) c/\(poL xs n).take n=ig (xs.take (n+1))/\gW xs 0=gW (xs.take (n+1)) 0/\(poL xs n).length=xs.length:=by
 obtain ⟨D,t,A⟩:=h;have z:=t.2.1;have d:(xs.take (n+1)).length=n+1:=by rw [List.length_take]; omega
 have g:xs=xs.take (n+1)++xs.drop (n+1):=(List.take_append_drop _ _).symm
 have o:poL xs n=poL (xs.take (n+1)) n++xs.drop (n+1):=by
  unfold poL
  conv=>lhs; rw [g]
  rw [alg (by omega) (by omega),avs (by rw [v8]; omega)]
 have C:(poL (xs.take (n+1)) n).length=n+1:=by unfold poL; rw [aa6,v8,d]
 have s:Hp (xs.take (n+1)) (xs.take (n+1)).length:=by rw [d]; exact D.take z
 have m:ig (xs.take (n+1))=(poL (xs.take (n+1)) n).take n:=by unfold ig poL; rw [d,zao]
 have b:(poL xs n).take n=ig (xs.take (n+1)):=by
  rw [o,m,List.take_append_of_le_length (by omega)]
 have a:(poL xs n).length=xs.length:=by unfold poL; rw [aa6,v8]
 obtain ⟨E,p2,w,H⟩:=alx (l:=xs.take (n+1)) (λ q=>by rw [q] at d; simp at d) s;obtain ⟨x,F⟩:=t.sx (i:=0) (k:=n) (by omega) (by omega);obtain ⟨u,G⟩:=aqg (i:=0) (n:=n) (by omega) x;obtain ⟨y,m2⟩:=avc u.1 (gW (poL xs n) n).1
 have f:gW (poL xs n) n=gW (xs.take (n+1)) 0:=by
  unfold poL;rw [aqf (by rw [v8]; omega) (zai _),zf (by omega) (by omega),if_pos rfl]
  conv=>lhs; rw [g]
  rw [fp (by omega)]
 have r:∀j,j<n->gW (poL xs n) j=gW (ig (xs.take (n+1))) j:=λ j p=>by
  rw [<- b];unfold gW;rw [zah,zah,List.getElem?_take,if_pos p]
 have e:((gW (xs.take (n+1)) 0::ig (xs.take (n+1))).map (·.1)).Nodup:=(w.map (·.1)).nodup_iff.1 A;rw [List.map_cons,List.nodup_cons] at e;refine ⟨⟨?_,⟨y,by rw [a]; omega,λ j p=>m2 _ ?_ ?_⟩,by rw [b]; exact e.2⟩,b,?_,a⟩
 ·intro j B v;rw [r j v,r _ (by omega)];have:=E;rw [d,zao] at this;exact this j B v
 ·have:=u.2.2 j (by omega);exact this
 ·rw [r j p,f];intro q;refine e.1 (zaf.2 ⟨gW (ig (xs.take (n+1))) j,?_,q⟩);rw [gz (by rw [p2,d]; omega)];exact List.getElem_mem _
 conv=>lhs; rw [g]
 rw [fp (by omega)]

end
end Go.Ev

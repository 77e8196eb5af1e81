import Derived.Sort.AssemblyPlain
import Derived.Test.YtocfnfcflljooaaGreatM8
open Nat renaming reduceBEq → zB, reduceEqDiff → zE, reduceAdd → zA, reduceSub → zS, reduceLT → zL, reduceLeDiff → zD, reduceMul → zM
open Go.Proofs.Tryz renaming prog → P0
open Go.Proofs.Tryz
open Nat renaming zero_add → zaa, le_refl → zah, add_sub_cancel → zao
open Int renaming toNat_natCast → zab, toNat_natCast_add_one → zac, tdiv_eq_ediv_of_nonneg → zak
open List renaming length_nil → zad, length_cons → zae, mem_map → zaf, getD_eq_getElem?_getD → zag, length_map → zai, mem_append → zaj, getElem?_of_mem → zam, mem_cons → zan, mergeSort_perm → zap, mem_append_left → zaq
open BitVec renaming ofInt → zal
namespace Go.Ev
set_option maxHeartbeats 8000000
set_option maxRecDepth 100000
noncomputable section
open Go
set_option linter.unusedSectionVars false
set_option linter.unnecessarySimpa false
open Go.Sort (swp insInner insOuter insertionSort ltInt)
set_option linter.unusedSimpArgs false
set_option linter.unusedVariables false
def wc:Mk P0 f126:={ x:=_ }
def yq:Mk P0 f87:={ x:=_ }
def eg:Mk P0 f85:={ x:=_ }
def v7:Mk P0 f81:={ x:=_ }
def bu (d:Array Int):List AV:=d.toList.map λ n=>AV.r (.v (.int .u64 n))
def bc (d:Array Int) (m:Nat):List AV:=bu d++List.replicate m .undef
def bO (d:Array Int) (m:Nat):Ob:=.box (bc d m)
theorem afs:∀(xs:List AV),(∀x∈xs,z6 x=[])->o4 xs=[]
 | [],_=>rfl
 | x::xs,h=>by rw [o4,h x (by simp),afs xs λ y hy=>h y (by simp [hy])]; rfl
theorem a8 (d:Array Int) (m:Nat):o4 (bc d m)=[]:=afs _ λ x hx=>by
 rcases zaj.1 hx with hx | hx
 ·obtain ⟨n,_,rfl⟩:=zaf.1 hx
  rfl
 rw [(List.mem_replicate.1 hx).2]; rfl
theorem b5 (F:Ren) (d:Array Int) (m:Nat):imL F (bc d m)=bc d m:=ol F _ (a8 d m)
theorem agd (d:Array Int):(bu d).length=d.size:=by simp [bu]
theorem b6 (d:Array Int) (m:Nat):(bc d m).length=d.size+m:=by simp [bc,agd]
variable {d:Array Int} {m i:Nat}
theorem b8 (h:i<d.size) (z:AV):(bc d m).getD i z=.r (.v (.int .u64 d[i]!)):=by
 unfold bc;rw [zag,List.getElem?_append_left (by rw [agd]; exact h)];simp [bu,h]
theorem o8 (h:i<d.size) (x:Int):List.take i (bc d m)++[AV.r (.v (.int .u64 x))]++List.drop (i+1) (bc d m)=bc (d.setIfInBounds i x) m:=by
 unfold bc;have e:bu (d.setIfInBounds i x)=(bu d).set i (.r (.v (.int .u64 x))):=by simp [bu,List.map_set]
 rw [e,List.take_append_of_le_length (by rw [agd]; omega),List.drop_append_of_le_length (by rw [agd]; omega),List.set_eq_take_append_cons_drop,if_pos (by rw [agd]; exact h)];simp
theorem v3 (d:Array Int) (i j:Nat):(swp d i j).size=d.size:=by simp [swp]
theorem a46 (x:Int):a9 P0 126 [int .u64 x] [] (bl false) []:=by
 refine wc.t func126 ?_;have h:(x != x)=false:=by simp
 push_cast [wc,h,zad]
theorem ri (x y:Int):a9 P0 87 [int .u64 x,int .u64 y] [] (bl (ltInt x y)) []:=by
 refine yq.t func87 ?_
 push_cast [yq,zad]
 refine a7 (a46 x) rfl trivial ?_
 push_cast
 rfl
theorem a5j (d:Array Int) (a b:Nat) (D:a<=b) (I:b<=d.size) (H:d.size<=100000) (m:Nat):a9 P0 81 [.own 1000000 0 0 d.size,int .i64 a,int .i64 b] [bO d m] (.tup []) [bO (insertionSort ltInt d a b) m]:=by
 refine v7.t func81 ?_;have C:IntKind.i64.wrap ((a:Int)+1)=(a:Int)+1:=a6 (by omega)
 push_cast [v7,bO,b6,a8,b5,C,zae,zad]
 generalize A:d.size=n at *
 refine c7 [(6,false),(0,false),(1,false),(2,false)] (λ vs pos c=>∃(i:Nat) (e:Array Int),a+1<=i/\i<=100002/\e.size=n/\insertionSort ltInt d a b=insOuter ltInt a b i e/\vs=[int .i64 i,.own 1000000 0 0 n,int .i64 a,int .i64 b]/\pos=[bO e m]/\c=[])
  (λ vs _ _=>match vs with | .r (.v (.int _ j))::_=>(b-j).toNat | _=>0) rfl ?_ ?_
 ·push_cast [bO,b6,a8,b5]
  exact ⟨a+1,d,by omega,by omega,A,rfl,rfl,rfl⟩
 rintro vs pos c ⟨i,e,F,B,z,u,rfl,rfl,rfl⟩
 push_cast [bO,b6,a8,b5]
 refine b9 (λ h=>?_) (λ h=>?_)
 ·have p:i<b:=by
   simp at h;omega
  have x:IntKind.i64.wrap ((i:Int)+1)=(i:Int)+1:=a6 (by omega)
  push_cast
  refine c7 [(6,false),(7,false),(0,false),(1,false),(2,false)] (λ vs pos c=>∃(j:Nat) (f:Array Int),j<=i/\f.size=n/\insInner ltInt a i e=insInner ltInt a j f/\vs=[int .i64 i,int .i64 j,.own 1000000 0 0 n,int .i64 a,int .i64 b]/\pos=[bO f m]/\c=[])
   (λ vs _ _=>match vs with | _ :: .r (.v (.int _ j))::_=>j.toNat | _=>0) rfl ?_ ?_
  ·push_cast [bO,b6,a8,b5]
   exact ⟨i,e,by omega,z,rfl,rfl,rfl⟩
  rintro vs pos c ⟨j,f,G,s,w,rfl,rfl,rfl⟩;by_cases E:j<=a
  ·have g:decide ((j:Int)>a)=false:=by simp; omega
   push_cast [bO,b6,a8,b5,g,x]
   repeat refine sI ?_
   refine ⟨⟨i+1,f,by omega,by omega,s,?_,(by first | rfl | exact ⟨rfl,rfl⟩ | exact ⟨rfl,rfl,rfl⟩)⟩,by omega⟩;rw [u,insOuter,if_pos p,w];congr 1;cases j with
   | zero=>rfl
   | succ k=>rw [insInner,if_neg (by simp; omega)]
  obtain ⟨k,rfl⟩:∃k,j=k+1:=⟨j-1,by omega⟩
  have g:decide ((k:Int)+1>a)=true:=by simp; omega
  have q:IntKind.i64.wrap ((k:Int)+1-1)=(k:Int):=by rw [a6 (by omega)]; omega
  have l:k<f.size:=by omega
  have o:k+1<f.size:=by omega
  push_cast [bO,b6,a8,b5,g,q,b8 (m:=m) l,b8 (m:=m) o,zab,zac,zaa]
  repeat refine sI ?_
  refine g9 (ri f[k+1]! f[k]!) rfl trivial ?_
  push_cast [bO,b6,a8,b5,g,q,b8 (m:=m) l,b8 (m:=m) o,zab,zac,zaa]
  refine ⟨by kernel_rfl,?_⟩;refine b9 (λ hc=>?_) (λ hc=>?_)
  ·have y:k<(f.setIfInBounds (k+1) f[k]!).size:=by simpa using l
   push_cast [bO,b6,a8,b5,g,q,b8 (m:=m) l,b8 (m:=m) o,b8 (m:=m) y,o8 (m:=m) o,o8 (m:=m) y,zab,zac,zaa]
   repeat refine sI ?_
   refine ⟨⟨k,swp f (k+1) k,by omega,by rw [v3]; exact s,?_,(by first | rfl | exact ⟨rfl,rfl⟩ | exact ⟨rfl,rfl,rfl⟩)⟩,by omega⟩;rw [w,insInner,if_pos];simp [hc];omega
  push_cast [bO,b6,a8,b5,g,q,x,b8 (m:=m) l,b8 (m:=m) o,zab,zac,zaa]
  refine ⟨⟨i+1,f,by omega,by omega,s,?_,(by first | rfl | exact ⟨rfl,rfl⟩ | exact ⟨rfl,rfl,rfl⟩)⟩,by omega⟩;rw [u,insOuter,if_pos p,w,insInner,if_neg];simp [hc]
 have p:¬i<b:=by
  simp at h;omega
 push_cast [a8,b5]
 rw [u,insOuter,if_neg p]

open Go.Sort (swp ltInt reverseLoop reverseRange siftDown heapSort heapBuild heapPop)
def gi:Mk P0 f121:={ x:=_ }
def gj:Mk P0 f82:={ x:=_ }
theorem a4v (d:Array Int) (a b:Nat) (B:a<=b) (y:1<=b) (F:b<=d.size) (E:d.size<=100000) (m:Nat):a9 P0 85 [.own 1000000 0 0 d.size,int .i64 a,int .i64 b] [bO d m] (.tup []) [bO (reverseRange d a b) m]:=by
 refine eg.t func85 ?_;have q:IntKind.i64.wrap ((b:Int)-1)=((b-1:Nat):Int):=by rw [a6 (by omega)]; omega
 obtain ⟨g,c⟩:∃g,b-1=g:=⟨_,rfl⟩
 rw [c] at q
 push_cast [eg,bO,b6,a8,b5,q,zae,zad]
 generalize x:d.size=n at *
 refine c7 [(6,false),(7,false),(0,false)] (λ vs pos f=>∃(i j:Nat) (e:Array Int),j<n/\i<=j+1/\e.size=n/\reverseRange d a b=reverseLoop i j e/\vs=[int .i64 i,int .i64 j,.own 1000000 0 0 n]/\pos=[bO e m]/\f=[])
  (λ vs _ _=>match vs with | .r (.v (.int _ i)) :: .r (.v (.int _ j))::_=>(j-i).toNat | _=>0) rfl ?_ ?_
 ·push_cast [bO,b6,a8,b5]
  exact ⟨a,g,d,by omega,by omega,x,by rw [reverseRange,c],(by first | rfl | exact ⟨rfl,rfl⟩ | exact ⟨rfl,rfl,rfl⟩)⟩
 rintro vs pos f ⟨i,j,e,D,C,w,p,rfl,rfl,rfl⟩
 push_cast [bO,b6,a8,b5]
 refine b9 (λ h=>?_) (λ h=>?_)
 ·have l:i<j:=by
   simp at h;omega
  obtain ⟨k,rfl⟩:∃k,j=k+1:=⟨j-1,by omega⟩
  have z:IntKind.i64.wrap ((i:Int)+1)=(i:Int)+1:=a6 (by omega);have A:IntKind.i64.wrap ((k:Int)+1-1)=(k:Int):=by rw [a6 (by omega)]; omega
  have s:i<e.size:=by omega
  have u:k+1<e.size:=by omega
  have o:k+1<(e.setIfInBounds i e[k+1]!).size:=by simpa using u
  push_cast [bO,b6,a8,b5,z,A,b8 (m:=m) s,b8 (m:=m) u,b8 (m:=m) o,o8 (m:=m) s,o8 (m:=m) o,zab,zac,zaa]
  repeat refine sI ?_
  refine ⟨⟨i+1,k,swp e i (k+1),by omega,by omega,by rw [v3]; exact w,?_,(by first | rfl | exact ⟨rfl,rfl⟩ | exact ⟨rfl,rfl,rfl⟩)⟩,by omega⟩;rw [p,reverseLoop,if_pos l]
  rfl
 have l:¬i<j:=by
  simp at h;omega
 push_cast [a8,b5,b6]
 rw [p,reverseLoop,if_neg l]
theorem ml (b first:Nat):∀(k a:Nat) (d:Array Int),b-a<=k->(siftDown ltInt b first a d).size=d.size:=by
 intro k
 induction k with
 | zero=>
   intro a d c;rw [siftDown];rw [dif_pos (by omega)]
 | succ k ih=>
   intro a d c;rw [siftDown];split
   ·rfl
   split
   ·split
    ·rfl
    split
    ·rw [ih _ _ (by omega),v3]
    rfl
   split
   ·rfl
   rw [ih _ _ (by omega),v3]
theorem asr (d:Array Int) (D a first:Nat) (L:first+a<=d.size) (C:D<=100000) (K:d.size<=100000) (m:Nat):a9 P0 121 [.own 1000000 0 0 d.size,int .i64 D,int .i64 a,int .i64 first] [bO d m] (.tup []) [bO (siftDown ltInt a first D d) m]:=by
 refine gi.t func121 ?_
 push_cast [gi,bO,b6,a8,b5,zae,zad]
 generalize H:d.size=n at *
 refine c7 [(8,false),(0,false),(2,false),(3,false)] (λ vs pos E=>∃(r:Nat) (e:Array Int),r<=100000/\e.size=n/\siftDown ltInt a first D d=siftDown ltInt a first r e/\vs=[int .i64 r,.own 1000000 0 0 n,int .i64 a,int .i64 first]/\pos=[bO e m]/\E=[])
  (λ vs _ _=>match vs with | .r (.v (.int _ i))::_=>(a-i).toNat | _=>0) rfl ?_ ?_
 ·push_cast [bO,b6,a8,b5]
  exact ⟨D,d,C,H,rfl,(by first | rfl | exact ⟨rfl,rfl⟩ | exact ⟨rfl,rfl,rfl⟩)⟩
 rintro vs pos E ⟨r,e,J,F,B,rfl,rfl,rfl⟩;obtain ⟨c,hc⟩:∃c,2*r+1=c:=⟨_,rfl⟩
 have l:IntKind.i64.wrap (2*(r:Int))=2*(r:Int):=a6 (by omega);have o:IntKind.i64.wrap (2*(r:Int)+1)=(c:Int):=by rw [a6 (by omega)]; omega
 push_cast [bO,b6,a8,b5,l,o]
 refine b9 (λ h=>?_) (λ h=>?_)
 ·have I:c>=a:=by
   simp at h;omega
  push_cast [a8,b5,b6]
  rw [B,siftDown,dif_pos (by omega)]
 have I:¬c>=a:=by
  simp at h;omega
 have z:IntKind.i64.wrap ((c:Int)+1)=(c:Int)+1:=a6 (by omega);obtain ⟨x,hx⟩:∃x,first+c=x:=⟨_,rfl⟩
 obtain ⟨y,hy⟩:∃y,first+r=y:=⟨_,rfl⟩
 have w:IntKind.i64.wrap ((first:Int)+c)=(x:Int):=by rw [a6 (by omega)]; omega
 have u:IntKind.i64.wrap ((first:Int)+r)=(y:Int):=by rw [a6 (by omega)]; omega
 have s:IntKind.i64.wrap ((x:Int)+1)=(x:Int)+1:=a6 (by omega);have kx:x<e.size:=by omega
 have ky:y<e.size:=by omega
 have j:∀q,siftDown ltInt a first r e=q↔(if c+1<a&&ltInt e[x]! e[x+1]! then
  if !ltInt e[y]! e[x+1]! then e else siftDown ltInt a first (c+1) (swp e y (x+1)) else
  if !ltInt e[y]! e[x]! then e else siftDown ltInt a first c (swp e y x))=q:=λ q=>by
  rw [siftDown,dif_neg (by omega),hc,hx,hy,show 2*r+2=c+1 by omega,show first+(c+1)=x+1 by omega];by_cases g:(c+1<a&&ltInt e[x]! e[x+1]!)=true
  ·have:c+1<a:=by simp at g; exact g.1
   rw [if_pos g,if_pos g,dif_pos this]
  rw [if_neg g,if_neg g]
 by_cases A:c+1<a
 ·have k:decide ((c:Int)+1<a)=true:=by simp; omega
  have f:x+1<e.size:=by omega
  push_cast [bO,b6,a8,b5,l,o,z,w,u,s,k,b8 (m:=m) kx,b8 (m:=m) ky,b8 (m:=m) f,zab,zac,zaa]
  repeat refine sI ?_
  refine g9 (ri e[x]! e[x+1]!) rfl trivial ?_
  push_cast [bO,b6,a8,b5,l,o,z,w,u,s,k,b8 (m:=m) kx,b8 (m:=m) ky,b8 (m:=m) f,zab,zac,zaa]
  repeat refine sI ?_
  refine b9 (λ C=>?_) (λ C=>?_)
  ·have G:IntKind.i64.wrap ((first:Int)+(c+1))=(x:Int)+1:=by rw [a6 (by omega)]; omega
   push_cast [bO,b6,a8,b5,l,o,z,w,u,s,G,k,b8 (m:=m) kx,b8 (m:=m) ky,b8 (m:=m) f,zab,zac,zaa]
   repeat refine sI ?_
   refine g9 (ri e[y]! e[x+1]!) rfl trivial ?_
   push_cast [bO,b6,a8,b5,l,o,z,w,u,s,G,k,b8 (m:=m) kx,b8 (m:=m) ky,b8 (m:=m) f,zab,zac,zaa]
   repeat refine sI ?_
   refine b9 (λ p=>?_) (λ p=>?_)
   ·push_cast [bO,b6,a8,b5]
    rw [B,(j _).2 rfl,if_pos (by simp [A,C]),if_pos p]
   have b:x+1<(e.setIfInBounds y e[x+1]!).size:=by simpa using f
   push_cast [bO,b6,a8,b5,l,o,z,w,u,s,G,k,b8 (m:=m) kx,b8 (m:=m) ky,b8 (m:=m) f,b8 (m:=m) b,o8 (m:=m) ky,o8 (m:=m) b,zab,zac,zaa]
   repeat refine sI ?_
   refine ⟨⟨c+1,swp e y (x+1),by omega,by rw [v3]; exact F,?_,(by first | rfl | exact ⟨rfl,rfl⟩ | exact ⟨rfl,rfl,rfl⟩)⟩,by omega⟩;rw [B,(j _).2 rfl,if_pos (by simp [A,C]),if_neg (by simp [p])]
  push_cast [bO,b6,a8,b5,l,o,z,w,u,s,k,b8 (m:=m) kx,b8 (m:=m) ky,b8 (m:=m) f,zab,zac,zaa]
  repeat refine sI ?_
  refine g9 (ri e[y]! e[x]!) rfl trivial ?_
  push_cast [bO,b6,a8,b5,l,o,z,w,u,s,k,b8 (m:=m) kx,b8 (m:=m) ky,zab,zac,zaa]
  repeat refine sI ?_
  refine b9 (λ p=>?_) (λ p=>?_)
  ·push_cast [bO,b6,a8,b5]
   rw [B,(j _).2 rfl,if_neg (by simp [C]),if_pos p]
  have b:x<(e.setIfInBounds y e[x]!).size:=by simpa using kx
  push_cast [bO,b6,a8,b5,l,o,z,w,u,s,k,b8 (m:=m) kx,b8 (m:=m) ky,b8 (m:=m) b,o8 (m:=m) ky,o8 (m:=m) b,zab,zac,zaa]
  repeat refine sI ?_
  refine ⟨⟨c,swp e y x,by omega,by rw [v3]; exact F,?_,(by first | rfl | exact ⟨rfl,rfl⟩ | exact ⟨rfl,rfl,rfl⟩)⟩,by omega⟩;rw [B,(j _).2 rfl,if_neg (by simp [C]),if_neg (by simp [p])]
 have k:decide ((c:Int)+1<a)=false:=by simp; omega
 push_cast [bO,b6,a8,b5,l,o,z,w,u,s,k,b8 (m:=m) kx,b8 (m:=m) ky,zab,zac,zaa]
 repeat refine sI ?_
 refine g9 (ri e[y]! e[x]!) rfl trivial ?_
 push_cast [bO,b6,a8,b5,l,o,z,w,u,s,k,b8 (m:=m) kx,b8 (m:=m) ky,zab,zac,zaa]
 repeat refine sI ?_
 refine b9 (λ p=>?_) (λ p=>?_)
 ·push_cast [bO,b6,a8,b5]
  rw [B,(j _).2 rfl,if_neg (by simp [A]),if_pos p]
 have b:x<(e.setIfInBounds y e[x]!).size:=by simpa using kx
 push_cast [bO,b6,a8,b5,l,o,z,w,u,s,k,b8 (m:=m) kx,b8 (m:=m) ky,b8 (m:=m) b,o8 (m:=m) ky,o8 (m:=m) b,zab,zac,zaa]
 repeat refine sI ?_
 refine ⟨⟨c,swp e y x,by omega,by rw [v3]; exact F,?_,(by first | rfl | exact ⟨rfl,rfl⟩ | exact ⟨rfl,rfl,rfl⟩)⟩,by omega⟩;rw [B,(j _).2 rfl,if_neg (by simp [A]),if_neg (by simp [p])]
theorem ac5 (a first:Nat):∀(k:Nat) (d:Array Int),(heapBuild ltInt a first k d).size=d.size
 | 0,d=>rfl
 | k+1,d=>by rw [heapBuild,ac5 a first k,ml a first (a-k) k d (zah _)]
theorem a3l (d:Array Int) (a b:Nat) (N:a<b) (Q:b<=d.size) (P:d.size<=100000) (m:Nat):a9 P0 82 [.own 1000000 0 0 d.size,int .i64 a,int .i64 b] [bO d m] (.tup []) [bO (heapSort ltInt d a b) m]:=by
 refine gj.t func82 ?_;obtain ⟨c,C⟩:∃c,b-a=c:=⟨_,rfl⟩
 have J:IntKind.i64.wrap ((b:Int)-a)=(c:Int):=by rw [a6 (by omega)]; omega
 obtain ⟨g,F⟩:∃k,(c-1)/2=k:=⟨_,rfl⟩
 have A:IntKind.i64.wrap ((c:Int)-1)=((c-1:Nat):Int):=by rw [a6 (by omega)]; omega
 obtain ⟨w,y⟩:∃w,c-1=w:=⟨_,rfl⟩
 rw [y] at A;have M:(w:Int).tdiv 2=(g:Int):=by rw [zak (by omega)]; omega
 have D:IntKind.i64.wrap (g:Int)=(g:Int):=a6 (by omega);generalize G:d.size=n at *
 push_cast [gj,bO,b6,a8,b5,J,A,M,D,zae,zad]
 repeat refine sI ?_
 have B:heapSort ltInt d a b=heapPop ltInt a c (heapBuild ltInt c a (g+1) d):=by rw [heapSort,C,F]
 have z:(heapBuild ltInt c a (g+1) d).size=n:=by rw [ac5]; exact G
 generalize K:heapBuild ltInt c a (g+1) d=H at *
 refine c7 [(9,false),(0,false),(6,false),(7,false),(8,false)] (λ vs pos f=>∃(k:Nat) (e:Array Int),k<=g+1/\e.size=n/\H=heapBuild ltInt c a k e/\vs=[int .i64 ((k:Int)-1),.own 1000000 0 0 n,int .i64 a,int .i64 0,int .i64 c]/\pos=[bO e m]/\f=[])
  (λ vs _ _=>match vs with | .r (.v (.int _ i))::_=>(i+1).toNat | _=>0) rfl ?_ ?_
 ·push_cast [bO,b6,a8,b5]
  refine ⟨g+1,d,by omega,G,K.symm,?_⟩;have:((g+1:Nat):Int)-1=g:=by omega
  rw [this]
  first | rfl | exact ⟨rfl,rfl⟩ | exact ⟨rfl,rfl,rfl⟩
 rintro vs pos f ⟨k,e,O,l,u,rfl,rfl,rfl⟩
 push_cast [bO,b6,a8,b5]
 refine b9 (λ h=>?_) (λ h=>?_)
 ·obtain ⟨q,rfl⟩:∃q,k=q+1:=⟨k-1,by simp at h; omega⟩
  have s:((q:Int)+1-1)=(q:Int):=by omega
  have j:IntKind.i64.wrap ((q:Int)-1)=(q:Int)-1:=a6 (by omega)
  push_cast [bO,b6,a8,b5,s]
  have p:=asr e q c a (by omega) (by omega) (by omega) m;rw [l] at p;refine a7 p rfl ⟨by simp [b6,v3,ml _ _ _ _ _ (zah _)],trivial⟩ ?_
  push_cast [bO,b6,a8,b5,s,j]
  refine ⟨⟨q,siftDown ltInt c a q e,by omega,by rw [ml _ _ _ _ _ (zah _)]; exact l,u,(by first | rfl | exact ⟨rfl,rfl⟩ | exact ⟨rfl,rfl,rfl⟩)⟩,by omega⟩
 obtain rfl:k=0:=by simp at h; omega
 have E:H=e:=u;subst E
 push_cast [bO,b6,a8,b5,J,A]
 refine c7 [(10,false),(0,false),(6,false),(7,false)] (λ vs pos f=>∃(k:Nat) (e:Array Int),k<=c/\e.size=n/\heapPop ltInt a c H=heapPop ltInt a k e/\vs=[int .i64 ((k:Int)-1),.own 1000000 0 0 n,int .i64 a,int .i64 0]/\pos=[bO e m]/\f=[])
  (λ vs _ _=>match vs with | .r (.v (.int _ i))::_=>(i+1).toNat | _=>0) rfl ?_ ?_
 ·push_cast [bO,b6,a8,b5]
  refine ⟨c,H,by omega,z,rfl,?_⟩;have:((c:Nat):Int)-1=w:=by omega
  rw [this]
  first | rfl | exact ⟨rfl,rfl⟩ | exact ⟨rfl,rfl,rfl⟩
 rintro vs pos f ⟨k,e,O,l,u,rfl,rfl,rfl⟩
 push_cast [bO,b6,a8,b5]
 refine b9 (λ h=>?_) (λ h=>?_)
 ·obtain ⟨q,rfl⟩:∃q,k=q+1:=⟨k-1,by simp at h; omega⟩
  have s:((q:Int)+1-1)=(q:Int):=by omega
  have j:IntKind.i64.wrap ((q:Int)-1)=(q:Int)-1:=a6 (by omega);obtain ⟨x,hx⟩:∃x,a+q=x:=⟨_,rfl⟩
  have L:IntKind.i64.wrap ((a:Int)+q)=(x:Int):=by rw [a6 (by omega)]; omega
  have I:a<e.size:=by omega
  have kx:x<e.size:=by omega
  have o:x<(e.setIfInBounds a e[x]!).size:=by simpa using kx
  push_cast [bO,b6,a8,b5,s,L,b8 (m:=m) I,b8 (m:=m) kx,b8 (m:=m) o,o8 (m:=m) I,o8 (m:=m) o,zab,zac,zaa]
  repeat refine sI ?_
  have p:=asr (swp e a x) 0 q a (by rw [v3]; omega) (by omega) (by rw [v3]; omega) m;rw [v3,l] at p;refine a7 p rfl ⟨by simp [b6,v3,ml _ _ _ _ _ (zah _)],trivial⟩ ?_
  push_cast [bO,b6,a8,b5,s,j]
  refine ⟨⟨q,siftDown ltInt q a 0 (swp e a x),by omega,by rw [ml _ _ _ _ _ (zah _),v3]; exact l,?_,(by first | rfl | exact ⟨rfl,rfl⟩ | exact ⟨rfl,rfl,rfl⟩)⟩,by omega⟩;rw [u,heapPop,hx]
 obtain rfl:k=0:=by simp at h; omega
 push_cast [bO,b6,a8,b5]
 rw [B,u]
 rfl

open Go.Sort (swp ltInt order2 median medianAdjacent choosePivot Hint)
def io:Mk P0 f147:={ x:=_ }
def ip:Mk P0 f125:={ x:=_ }
def di:Mk P0 f124:={ x:=_ }
def ej:Mk P0 f84:={ x:=_ }
theorem ah4 (d:Array Int) (a b sw:Nat) (e:a<d.size) (f:b<d.size) (g:d.size<=100000) (i:sw<=1000) (m:Nat) :
 a9 P0 147 [.own 1000000 0 0 d.size,int .i64 a,int .i64 b,.ptr 1000001 0 0] [bO d m,.box [int .i64 sw]]
  (.tup [int .i64 (order2 ltInt d a b sw).1,int .i64 (order2 ltInt d a b sw).2.1]) [bO d m,.box [int .i64 (order2 ltInt d a b sw).2.2]]:=by
 refine io.t func147 ?_;have c:IntKind.i64.wrap ((sw:Int)+1)=(sw:Int)+1:=a6 (by omega)
 push_cast [io,bO,b6,a8,b5,c,b8 (m:=m) e,b8 (m:=m) f,zae,zad,zab,zac,zaa]
 repeat refine sI ?_
 refine g9 (ri d[b]! d[a]!) rfl trivial ?_
 push_cast [bO,b6,a8,b5,c,b8 (m:=m) e,b8 (m:=m) f,zab,zac,zaa]
 repeat refine sI ?_
 refine b9 (λ h=>?_) (λ h=>?_)
 ·push_cast [bO,b6,a8,b5,order2,h,c,if_true]
 push_cast [bO,b6,a8,b5,order2,h,c,Bool.false_eq_true,if_false]
variable {sw:Nat}
theorem tm {a b:Nat}:(order2 ltInt d a b sw).2.2<=sw+1/\((order2 ltInt d a b sw).1=a/\(order2 ltInt d a b sw).2.1=b\/(order2 ltInt d a b sw).1=b/\(order2 ltInt d a b sw).2.1=a):=by
 unfold order2;split<;>simp
theorem aie (d:Array Int) (a b c sw:Nat) (A:a<d.size) (B:b<d.size) (hc:c<d.size) (n:d.size<=100000) (E:sw<=100) (m:Nat) :
 a9 P0 125 [.own 1000000 0 0 d.size,int .i64 a,int .i64 b,int .i64 c,.ptr 1000001 0 0] [bO d m,.box [int .i64 sw]]
  (int .i64 (median ltInt d a b c sw).1) [bO d m,.box [int .i64 (median ltInt d a b c sw).2]]:=by
 refine ip.t func125 ?_;have e:=tm (d:=d) (a:=a) (b:=b) (sw:=sw);have q:=ah4 d a b sw A B n (by omega) m;unfold median;generalize order2 ltInt d a b sw=z at *;obtain ⟨l,i,o⟩:=z;simp only at e q |-;have u:=tm (d:=d) (a:=i) (b:=c) (sw:=o);have p:=ah4 d i c o (by rcases e.2 with h | h<;>omega) hc n (by omega) m;generalize order2 ltInt d i c o=y at *;obtain ⟨f,C,g⟩:=y;simp only at u p |-;have w:=tm (d:=d) (a:=l) (b:=f) (sw:=g);have r:=ah4 d l f g (by rcases e.2 with h | h<;>omega) (by rcases e.2 with h | h<;>rcases u.2 with x | x<;>omega) n (by omega) m;generalize order2 ltInt d l f g=v at *;obtain ⟨F,D,G⟩:=v;simp only at w r |-
 have j:∀k s:Nat,k7 [bO d m,.box [int .i64 k]] [bO d m,.box [int .i64 s]]:=λ k s=>⟨rfl,rfl,trivial⟩
 push_cast [ip,bO,b6,a8,b5,zae,zad]
 refine a7 q rfl (j _ _) ?_
 push_cast [bO,b6,a8,b5]
 refine a7 p rfl (j _ _) ?_
 push_cast [bO,b6,a8,b5]
 refine a7 r rfl (j _ _) ?_
 push_cast [bO,b6,a8,b5]
theorem at4 {a b c:Nat}:(median ltInt d a b c sw).2<=sw+3/\((median ltInt d a b c sw).1=a\/(median ltInt d a b c sw).1=b\/(median ltInt d a b c sw).1=c):=by
 have k:=tm (d:=d) (a:=a) (b:=b) (sw:=sw);unfold median;generalize order2 ltInt d a b sw=n at *;obtain ⟨i,h,g⟩:=n;simp only at k |-;have o:=tm (d:=d) (a:=h) (b:=c) (sw:=g);generalize order2 ltInt d h c g=l at *;obtain ⟨f,q,e⟩:=l;simp only at o |-;have m:=tm (d:=d) (a:=i) (b:=f) (sw:=e);generalize order2 ltInt d i f e=j at *;obtain ⟨p,r,s⟩:=j;simp only at m |-;omega
theorem aif (d:Array Int) (a sw:Nat) (i:1<=a) (j:a+1<d.size) (f:d.size<=100000) (h:sw<=100) (m:Nat) :
 a9 P0 124 [.own 1000000 0 0 d.size,int .i64 a,.ptr 1000001 0 0] [bO d m,.box [int .i64 sw]]
  (int .i64 (medianAdjacent ltInt d a sw).1) [bO d m,.box [int .i64 (medianAdjacent ltInt d a sw).2]]:=by
 refine di.t func124 ?_;obtain ⟨q,rfl⟩:∃q,a=q+1:=⟨a-1,by omega⟩
 have e:IntKind.i64.wrap ((q:Int)+1-1)=(q:Int):=by rw [a6 (by omega)]; omega
 have c:IntKind.i64.wrap ((q:Int)+1+1)=(q:Int)+1+1:=a6 (by omega);have t:=aie d q (q+1) (q+1+1) sw (by omega) (by omega) (by omega) f h m;have g:∀k b:Nat,k7 [bO d m,.box [int .i64 k]] [bO d m,.box [int .i64 b]]:=λ k b=>⟨rfl,rfl,trivial⟩
 push_cast [di,medianAdjacent,zao,bO,b6,a8,b5,e,c,zae,zad]
 refine b7 (as':=[.own 1000000 0 0 d.size,int .i64 q,int .i64 (q+1:Nat),int .i64 (q+1+1:Nat),.ptr 1000001 0 0]) rfl ?_;refine a7 t rfl (g _ _) ?_
 push_cast [bO,b6,a8,b5]

open Go.Sort (swp ltInt order2 median medianAdjacent choosePivot Hint)
def agy:Hint->Int
 | .unknown=>0
 | .increasing=>1
 | .decreasing=>2
theorem afl {a:Nat}:(medianAdjacent ltInt d a sw).2<=sw+3/\((medianAdjacent ltInt d a sw).1=a-1\/(medianAdjacent ltInt d a sw).1=a\/(medianAdjacent ltInt d a sw).1=a+1):=by
 unfold medianAdjacent;exact at4
theorem azy (d:Array Int) (a b:Nat) (hl:12<b-a) (hb:b<=d.size) (x:d.size<=100000) (m:Nat) :
 a9 P0 84 [.own 1000000 0 0 d.size,int .i64 a,int .i64 b] [bO d m]
  (.tup [int .i64 (choosePivot ltInt d a b).1,int .i64 (agy (choosePivot ltInt d a b).2)]) [bO d m]:=by
 refine ej.t func84 ?_;have w:∀k P:Nat,k7 [bO d m,.box [int .i64 k]] [bO d m,.box [int .i64 P]]:=λ k P=>⟨rfl,rfl,trivial⟩
 unfold choosePivot;obtain ⟨l,K⟩:∃l,b-a=l:=⟨_,rfl⟩
 obtain ⟨q,hq⟩:∃q,l/4=q:=⟨_,rfl⟩
 obtain ⟨i,W⟩:∃i,a+q*1=i:=⟨_,rfl⟩
 obtain ⟨j,hj⟩:∃j,a+q*2=j:=⟨_,rfl⟩
 obtain ⟨k,hk⟩:∃k,a+q*3=k:=⟨_,rfl⟩
 have w0:IntKind.i64.wrap ((b:Int)-a)=(l:Int):=by rw [a6 (by omega)]; omega
 have V:(l:Int).tdiv 4=(q:Int):=by rw [zak (by omega)]; omega
 have G:IntKind.i64.wrap (q:Int)=(q:Int):=a6 (by omega);have w2:IntKind.i64.wrap ((q:Int)*1)=(q:Int)*1:=a6 (by omega);have w3:IntKind.i64.wrap ((q:Int)*2)=(q:Int)*2:=a6 (by omega);have w4:IntKind.i64.wrap ((q:Int)*3)=(q:Int)*3:=a6 (by omega);have w5:IntKind.i64.wrap ((a:Int)+(q:Int)*1)=(i:Int):=by rw [a6 (by omega)]; omega
 have w6:IntKind.i64.wrap ((a:Int)+(q:Int)*2)=(j:Int):=by rw [a6 (by omega)]; omega
 have R:IntKind.i64.wrap ((a:Int)+(q:Int)*3)=(k:Int):=by rw [a6 (by omega)]; omega
 have S:decide ((l:Int)>=8)=true:=by simp; omega
 simp only [K,hq,W,hj,hk];rw [if_pos (show l>=8 by omega)]
 have r:∀(p s:Nat),int .i64 (agy (if s=0 then Hint.increasing else if s=12 then Hint.decreasing else Hint.unknown))=int .i64 (if s=0 then 1 else if s=12 then 2 else 0):=λ p s=>by
  split
  ·rfl
  split<;>rfl
 push_cast [ej,bO,b6,a8,b5,w0,V,G,w2,w3,w4,w5,w6,R,S,zae,zad]
 repeat refine sI ?_
 by_cases u:l>=50
 ·have c2:decide ((l:Int)>=50)=true:=by simp; omega
  rw [if_pos u]
  push_cast [c2,a8,b5]
  have N:=aif d i 0 (by omega) (by omega) x (by omega) m;have z:=afl (d:=d) (a:=i) (sw:=0);generalize medianAdjacent ltInt d i 0=Z at *;obtain ⟨C,y⟩:=Z;simp only at N z |-
  have J:C<d.size:=by
   have e:i+1<d.size:=by omega
   obtain ⟨_,h | h | h⟩:=z<;>rw [h]<;>omega
  have T:y<=0+3:=z.1;clear z;refine a7 N rfl (w 0 _) ?_
  push_cast [bO,b6,a8,b5]
  have M:=aif d j y (by omega) (by omega) x (by omega) m;have B:=afl (d:=d) (a:=j) (sw:=y);generalize medianAdjacent ltInt d j y=Y at *;obtain ⟨p2,o⟩:=Y;simp only at M B |-
  have F:p2<d.size:=by
   have e:j+1<d.size:=by omega
   obtain ⟨_,h | h | h⟩:=B<;>rw [h]<;>omega
  have X:o<=y+3:=B.1;clear B;refine a7 M rfl (w _ _) ?_
  push_cast [bO,b6,a8,b5]
  have O:=aif d k o (by omega) (by omega) x (by omega) m;have A:=afl (d:=d) (a:=k) (sw:=o);generalize medianAdjacent ltInt d k o=Q at *;obtain ⟨H,L⟩:=Q;simp only at O A |-
  have I:H<d.size:=by
   have e:k+1<d.size:=by omega
   obtain ⟨_,h | h | h⟩:=A<;>rw [h]<;>omega
  have U:L<=o+3:=A.1;clear A;refine a7 O rfl (w _ _) ?_
  push_cast [bO,b6,a8,b5]
  have v:=aie d C p2 H L J F I x (by omega) m;generalize median ltInt d C p2 H L=D at *;obtain ⟨E,c⟩:=D;simp only at v |-;refine a7 v rfl (w _ _) ?_
  push_cast [bO,b6,a8,b5]
  rw [r E c];by_cases n:c=0
  ·have f:((c:Int) == 0)=true:=by simp [n]
   push_cast [f,if_pos n,a8,b5]
  have f:((c:Int) == 0)=false:=by simp; omega
  rw [if_neg n];by_cases e:c=12
  ·have g:((c:Int) == 12)=true:=by simp [e]
   push_cast [f,g,if_pos e,a8,b5]
  have g:((c:Int) == 12)=false:=by simp; omega
  push_cast [f,g,if_neg e,a8,b5]
 have c2:decide ((l:Int)>=50)=false:=by simp; omega
 rw [if_neg u]
 push_cast [c2,a8,b5]
 have v:=aie d i j k 0 (by omega) (by omega) (by omega) x (by omega) m;generalize median ltInt d i j k 0=D at *;obtain ⟨E,c⟩:=D;simp only at v |-;refine a7 v rfl (w 0 _) ?_
 push_cast [bO,b6,a8,b5]
 rw [r E c];by_cases n:c=0
 ·have f:((c:Int) == 0)=true:=by simp [n]
  push_cast [f,if_pos n,a8,b5]
 have f:((c:Int) == 0)=false:=by simp; omega
 rw [if_neg n];by_cases e:c=12
 ·have g:((c:Int) == 12)=true:=by simp [e]
  push_cast [f,g,if_pos e,a8,b5]
 have g:((c:Int) == 12)=false:=by simp; omega
 push_cast [f,g,if_neg e,a8,b5]

open Go.Sort (swp ltInt scanUp scanDown partEqLoop partitionEqual partLoop partition)
def dh:Mk P0 f88:={ x:=_ }
def ge:Mk P0 f89:={ x:=_ }
variable {j i2 j2:Nat}
theorem afh {a:Nat} {e:Array Int} (c:scanUp (λ x=>!ltInt e[a]! x) e j i=i2) (b:scanDown (λ x=>ltInt e[a]! x) e i2 j=j2) (d:i<=i2) (g:j2<=j) (f:1<=i) :
 partEqLoop ltInt a i j e=if i2>j2 then (i2,e) else partEqLoop ltInt a (i2+1) (j2-1) (swp e i2 j2):=by
 rw [partEqLoop];simp only [c,b];split
 ·rfl
 rw [dif_pos (by omega)]
theorem av9 (d:Array Int) (a b f:Nat) (X:a<b) (hb:b<=d.size) (O:f<d.size) (hn:d.size<=100000) (m:Nat) :
 a9 P0 88 [.own 1000000 0 0 d.size,int .i64 a,int .i64 b,int .i64 f] [bO d m] (int .i64 (partitionEqual ltInt d a b f).1) [bO (partitionEqual ltInt d a b f).2 m]:=by
 refine dh.t func88 ?_;have P:a<d.size:=by omega
 have D:f<(d.setIfInBounds a d[f]!).size:=by simpa using O
 have T:IntKind.i64.wrap ((a:Int)+1)=(a:Int)+1:=a6 (by omega);obtain ⟨y,K⟩:∃y,b-1=y:=⟨_,rfl⟩
 have W:IntKind.i64.wrap ((b:Int)-1)=(y:Int):=by rw [a6 (by omega)]; omega
 push_cast [dh,bO,b6,a8,b5,T,W,b8 (m:=m) P,b8 (m:=m) O,b8 (m:=m) D,o8 (m:=m) P,o8 (m:=m) D,zae,zad,zab,zac,zaa]
 repeat refine sI ?_
 rw [show (d.setIfInBounds a d[f]!).setIfInBounds f d[a]! = swp d a f from rfl];have U:partitionEqual ltInt d a b f=partEqLoop ltInt a (a+1) y (swp d a f):=by rw [partitionEqual,K]
 rw [U];have J:=v3 d a f;generalize Z:d.size=n at *;generalize S:partEqLoop ltInt a (a+1) y (swp d a f)=R
 refine c7 [(9,false),(10,false),(0,false),(1,false)] (λ vs pos c=>∃(i j:Nat) (e:Array Int),1<=i/\i<=j+2/\j<n/\e.size=n/\R=partEqLoop ltInt a i j e/\vs=[int .i64 i,int .i64 j,.own 1000000 0 0 n,int .i64 a]/\pos=[bO e m]/\c=[])
  (λ vs _ _=>match vs with | .r (.v (.int _ i)) :: .r (.v (.int _ j))::_=>(j+1-i).toNat | _=>0) rfl ?_ ?_
 ·push_cast [bO,a8,b5]
  exact ⟨a+1,y,swp d a f,by omega,by omega,by omega,J,S.symm,(by first | rfl | exact ⟨rfl,rfl⟩ | exact ⟨rfl,rfl,rfl⟩)⟩
 rintro vs pos c ⟨i,j,e,w,V,hj,Q,L,rfl,rfl,rfl⟩;have q:a<e.size:=by omega
 push_cast [bO,a8,b5,b6]
 refine c7 [(9,false),(10,false),(0,false),(1,false)] (λ vs pos c=>∃E:Nat,i<=E/\E<=j+2/\scanUp (λ x=>!ltInt e[a]! x) e j i=scanUp (λ x=>!ltInt e[a]! x) e j E/\vs=[int .i64 E,int .i64 j,.own 1000000 0 0 n,int .i64 a]/\pos=[bO e m]/\c=[])
  (λ vs _ _=>match vs with | .r (.v (.int _ i))::_=>(j+1-i).toNat | _=>0) rfl ?_ ?_
 ·push_cast [bO,a8,b5]
  exact ⟨i,by omega,by omega,rfl,(by first | rfl | exact ⟨rfl,rfl⟩ | exact ⟨rfl,rfl,rfl⟩)⟩
 rintro vs pos c ⟨i2,M,h2,N,rfl,rfl,rfl⟩;have I:IntKind.i64.wrap ((i2:Int)+1)=(i2:Int)+1:=a6 (by omega);by_cases A:i2<=j
 ·have g:decide ((i2:Int)<=j)=true:=by simp; omega
  have l:i2<e.size:=by omega
  push_cast [bO,b6,a8,b5,g,I,b8 (m:=m) q,b8 (m:=m) l,zab,zac,zaa]
  repeat refine sI ?_
  refine g9 (ri e[a]! e[i2]!) rfl trivial ?_
  push_cast [bO,b6,a8,b5,g,I,b8 (m:=m) q,b8 (m:=m) l,zab,zac,zaa]
  repeat refine sI ?_
  refine b9 (λ hc=>?_) (λ hc=>?_)
  ·push_cast [bO,b6,a8,b5,g,I]
   refine ⟨⟨i2+1,by omega,by omega,?_,(by first | rfl | exact ⟨rfl,rfl⟩ | exact ⟨rfl,rfl,rfl⟩)⟩,by omega⟩;rw [N,scanUp,if_pos (by simp [A]; simpa using hc)]
  have p:scanUp (λ x=>!ltInt e[a]! x) e j i=i2:=by rw [N,scanUp,if_neg (by simp; intro _; simpa using hc)]
  push_cast [bO,b6,a8,b5]
  refine c7 [(9,false),(10,false),(0,false),(1,false)] (λ vs pos c=>∃s:Nat,s<=j/\i2<=s+2/\scanDown (λ x=>ltInt e[a]! x) e i2 j=scanDown (λ x=>ltInt e[a]! x) e i2 s/\vs=[int .i64 i2,int .i64 s,.own 1000000 0 0 n,int .i64 a]/\pos=[bO e m]/\c=[])
   (λ vs _ _=>match vs with | _ :: .r (.v (.int _ j))::_=>j.toNat | _=>0) rfl ?_ ?_
  ·push_cast [bO,a8,b5]
   exact ⟨j,by omega,by omega,rfl,(by first | rfl | exact ⟨rfl,rfl⟩ | exact ⟨rfl,rfl,rfl⟩)⟩
  rintro vs pos c ⟨j2,F,Y,B,rfl,rfl,rfl⟩;by_cases o:i2<=j2
  ·obtain ⟨k,rfl⟩:∃k,j2=k+1:=⟨j2-1,by omega⟩
   have g:decide ((i2:Int)<=(k:Int)+1)=true:=by simp; omega
   have C:decide ((i2:Int)>(k:Int)+1)=false:=by simp; omega
   have G:IntKind.i64.wrap ((k:Int)+1-1)=(k:Int):=by rw [a6 (by omega)]; omega
   have H:k+1<e.size:=by omega
   have l:i2<e.size:=by omega
   push_cast [bO,b6,a8,b5,g,G,b8 (m:=m) q,b8 (m:=m) H,zab,zac,zaa]
   repeat refine sI ?_
   refine g9 (ri e[a]! e[k+1]!) rfl trivial ?_
   push_cast [bO,b6,a8,b5,g,G,b8 (m:=m) q,b8 (m:=m) H,zab,zac,zaa]
   repeat refine sI ?_
   refine b9 (λ hc=>?_) (λ hc=>?_)
   ·push_cast [bO,b6,a8,b5,g,G]
    refine ⟨⟨k,by omega,by omega,?_,(by first | rfl | exact ⟨rfl,rfl⟩ | exact ⟨rfl,rfl,rfl⟩)⟩,by omega⟩;rw [B,scanDown,if_pos (by simp [o,hc])]
   have h:scanDown (λ x=>ltInt e[a]! x) e i2 j=k+1:=by rw [B,scanDown,if_neg (by simp [hc])]
   have u:=afh p h M F w;rw [if_neg (by omega)] at u;have z:k+1<(e.setIfInBounds i2 e[k+1]!).size:=by simpa using H
   push_cast [bO,b6,a8,b5,C,G,I,b8 (m:=m) l,b8 (m:=m) H,b8 (m:=m) z,o8 (m:=m) l,o8 (m:=m) z,zab,zac,zaa]
   repeat refine sI ?_
   refine ⟨⟨i2+1,k,swp e i2 (k+1),by omega,by omega,by omega,by rw [v3]; exact Q,by rw [L,u]; rfl,(by first | rfl | exact ⟨rfl,rfl⟩ | exact ⟨rfl,rfl,rfl⟩)⟩,by omega⟩
  have g:decide ((i2:Int)<=j2)=false:=by simp; omega
  have C:decide ((i2:Int)>j2)=true:=by simp; omega
  have h:scanDown (λ x=>ltInt e[a]! x) e i2 j=j2:=by
   rw [B];cases j2 with
   | zero=>rfl
   | succ k=>rw [scanDown,if_neg (by simp; omega)]
  have u:=afh p h M F w;rw [if_pos (by omega)] at u
  push_cast [bO,b6,a8,b5,g]
  repeat refine sI ?_
  try push_cast [bO,b6,a8,b5,C]
  rw [L,u]
  first | rfl | exact ⟨rfl,rfl⟩
 have g:decide ((i2:Int)<=j)=false:=by simp; omega
 have p:scanUp (λ x=>!ltInt e[a]! x) e j i=i2:=by rw [N,scanUp,if_neg (by simp; omega)]
 push_cast [bO,b6,a8,b5,g]
 repeat refine sI ?_
 refine c7 [(9,false),(10,false),(0,false),(1,false)] (λ vs pos c=>∃s:Nat,s<=j/\i2<=s+2/\scanDown (λ x=>ltInt e[a]! x) e i2 j=scanDown (λ x=>ltInt e[a]! x) e i2 s/\vs=[int .i64 i2,int .i64 s,.own 1000000 0 0 n,int .i64 a]/\pos=[bO e m]/\c=[])
  (λ vs _ _=>match vs with | _ :: .r (.v (.int _ j))::_=>j.toNat | _=>0) rfl ?_ ?_
 ·push_cast [bO,a8,b5]
  exact ⟨j,by omega,by omega,rfl,(by first | rfl | exact ⟨rfl,rfl⟩ | exact ⟨rfl,rfl,rfl⟩)⟩
 rintro vs pos c ⟨j2,F,Y,B,rfl,rfl,rfl⟩;by_cases o:i2<=j2
 ·exact absurd o (by omega)
 have g:decide ((i2:Int)<=j2)=false:=by simp; omega
 have C:decide ((i2:Int)>j2)=true:=by simp; omega
 have h:scanDown (λ x=>ltInt e[a]! x) e i2 j=j2:=by
  rw [B];cases j2 with
  | zero=>rfl
  | succ k=>rw [scanDown,if_neg (by simp; omega)]
 have u:=afh p h M F w;rw [if_pos (by omega)] at u
 push_cast [bO,b6,a8,b5,g]
 repeat refine sI ?_
 try push_cast [bO,b6,a8,b5,C]
 rw [L,u]
 first | rfl | exact ⟨rfl,rfl⟩

open Go.Sort (swp ltInt scanUp scanDown partLoop partition)
theorem akk {a:Nat} {e:Array Int} (c:scanUp (λ x=>ltInt x e[a]!) e j i=i2) (b:scanDown (λ x=>!ltInt x e[a]!) e i2 j=j2) (d:i<=i2) (g:j2<=j) (f:1<=i) :
 partLoop ltInt a i j e=if i2>j2 then (j2,e) else partLoop ltInt a (i2+1) (j2-1) (swp e i2 j2):=by
 rw [partLoop];simp only [c,b];split
 ·rfl
 rw [dif_pos (by omega)]
theorem atq (d:Array Int) (a b z:Nat) (h3:a+1<b) (hb:b<=d.size) (W:z<d.size) (hn:d.size<=100000) (m:Nat) :
 a9 P0 89 [.own 1000000 0 0 d.size,int .i64 a,int .i64 b,int .i64 z] [bO d m] (.tup [int .i64 (partition ltInt d a b z).1,bl (partition ltInt d a b z).2.1]) [bO (partition ltInt d a b z).2.2 m]:=by
 refine ge.t func89 ?_;have X:a<d.size:=by omega
 have Q:z<(d.setIfInBounds a d[z]!).size:=by simpa using W
 have w1:IntKind.i64.wrap ((a:Int)+1)=(a:Int)+1:=a6 (by omega);obtain ⟨q,U⟩:∃q,b-1=q:=⟨_,rfl⟩
 have w2:IntKind.i64.wrap ((b:Int)-1)=(q:Int):=by rw [a6 (by omega)]; omega
 push_cast [ge,bO,b6,a8,b5,w1,w2,b8 (m:=m) X,b8 (m:=m) W,b8 (m:=m) Q,o8 (m:=m) X,o8 (m:=m) Q,zae,zad,zab,zac,zaa]
 repeat refine sI ?_
 rw [show (d.setIfInBounds a d[z]!).setIfInBounds z d[a]! = swp d a z from rfl];have S:=v3 d a z;unfold partition;simp only [U];generalize hN:d.size=n at *;generalize swp d a z=c at *;have g:a<c.size:=by omega
 refine c7 [(10,false),(11,false),(0,false),(1,false)] (λ vs pos f=>∃H:Nat,a+1<=H/\H<=q+2/\scanUp (λ x=>ltInt x c[a]!) c q (a+1)=scanUp (λ x=>ltInt x c[a]!) c q H/\vs=[int .i64 H,int .i64 q,.own 1000000 0 0 n,int .i64 a]/\pos=[bO c m]/\f=[])
  (λ vs _ _=>match vs with | .r (.v (.int _ i))::_=>((q:Int)+1-i).toNat | _=>0) rfl ?_ ?_
 ·push_cast [bO,a8,b5]
  exact ⟨a+1,by omega,by omega,rfl,(by first | rfl | exact ⟨rfl,rfl⟩ | exact ⟨rfl,rfl,rfl⟩)⟩
 rintro vs pos f ⟨i2,P,Y,J,rfl,rfl,rfl⟩;have G:IntKind.i64.wrap ((i2:Int)+1)=(i2:Int)+1:=a6 (by omega);by_cases w:i2<=q
 ·have h:decide ((i2:Int)<=q)=true:=by simp; omega
  have p:i2<c.size:=by omega
  push_cast [bO,b6,a8,b5,h,G,b8 (m:=m) g,b8 (m:=m) p,zab,zac,zaa]
  repeat refine sI ?_
  refine g9 (ri c[i2]! c[a]!) rfl trivial ?_
  push_cast [bO,b6,a8,b5,h,G,b8 (m:=m) g,b8 (m:=m) p,zab,zac,zaa]
  repeat refine sI ?_
  refine b9 (λ hc=>?_) (λ hc=>?_)
  ·push_cast [bO,b6,a8,b5,h,G]
   refine ⟨⟨i2+1,by omega,by omega,?_,(by first | rfl | exact ⟨rfl,rfl⟩ | exact ⟨rfl,rfl,rfl⟩)⟩,by omega⟩;rw [J,scanUp,if_pos (by simp [w]; simpa using hc)]
  have s:scanUp (λ x=>ltInt x c[a]!) c q (a+1)=i2:=by rw [J,scanUp,if_neg (by simp; intro _; simpa using hc)]
  push_cast [bO,b6,a8,b5]
  refine c7 [(10,false),(11,false),(0,false),(1,false)] (λ vs pos f=>∃u:Nat,u<=q/\i2<=u+2/\scanDown (λ x=>!ltInt x c[a]!) c i2 q=scanDown (λ x=>!ltInt x c[a]!) c i2 u/\vs=[int .i64 i2,int .i64 u,.own 1000000 0 0 n,int .i64 a]/\pos=[bO c m]/\f=[])
   (λ vs _ _=>match vs with | _ :: .r (.v (.int _ j))::_=>j.toNat | _=>0) rfl ?_ ?_
  ·push_cast [bO,a8,b5]
   exact ⟨q,by omega,by omega,rfl,(by first | rfl | exact ⟨rfl,rfl⟩ | exact ⟨rfl,rfl,rfl⟩)⟩
  rintro vs pos f ⟨j2,K,R,A,rfl,rfl,rfl⟩;by_cases l:i2<=j2
  ·obtain ⟨k,rfl⟩:∃k,j2=k+1:=⟨j2-1,by omega⟩
   have h:decide ((i2:Int)<=(k:Int)+1)=true:=by simp; omega
   have B:decide ((i2:Int)>(k:Int)+1)=false:=by simp; omega
   have E:IntKind.i64.wrap ((k:Int)+1-1)=(k:Int):=by rw [a6 (by omega)]; omega
   have F:k+1<c.size:=by omega
   have p:i2<c.size:=by omega
   push_cast [bO,b6,a8,b5,h,E,b8 (m:=m) g,b8 (m:=m) F,zab,zac,zaa]
   repeat refine sI ?_
   refine g9 (ri c[k+1]! c[a]!) rfl trivial ?_
   push_cast [bO,b6,a8,b5,h,E,b8 (m:=m) g,b8 (m:=m) F,zab,zac,zaa]
   repeat refine sI ?_
   refine b9 (λ hc=>?_) (λ hc=>?_)
   ·push_cast [bO,b6,a8,b5,h,E]
    refine ⟨⟨k,by omega,by omega,?_,(by first | rfl | exact ⟨rfl,rfl⟩ | exact ⟨rfl,rfl,rfl⟩)⟩,by omega⟩;rw [A,scanDown,if_pos (by simp [l]; simpa using hc)]
   have o:scanDown (λ x=>!ltInt x c[a]!) c i2 q=k+1:=by rw [A,scanDown,if_neg (by simp; intro _; simpa using hc)]
   have y:k+1<(c.setIfInBounds i2 c[k+1]!).size:=by simpa using F
   have V:¬i2>k+1:=by omega
   simp only [s,o,V,if_false,zao]
   push_cast [bO,b6,a8,b5,B,E,G,b8 (m:=m) p,b8 (m:=m) F,b8 (m:=m) y,o8 (m:=m) p,o8 (m:=m) y,zab,zac,zaa]
   repeat refine sI ?_
   rw [show (c.setIfInBounds i2 c[k+1]!).setIfInBounds (k+1) c[i2]! = swp c i2 (k+1) from rfl];obtain ⟨M,N⟩:∃M,partLoop ltInt a (i2+1) k (swp c i2 (k+1))=M:=⟨_,rfl⟩
   rw [N]
   refine c7 [(10,false),(11,false),(0,false),(1,false)] (λ vs pos f=>∃(i j:Nat) (e:Array Int),1<=i/\i<=j+2/\j<n/\e.size=n/\M=partLoop ltInt a i j e/\vs=[int .i64 i,int .i64 j,.own 1000000 0 0 n,int .i64 a]/\pos=[bO e m]/\f=[])
    (λ vs _ _=>match vs with | .r (.v (.int _ i)) :: .r (.v (.int _ j))::_=>(j+1-i).toNat | _=>0) rfl ?_ ?_
   ·push_cast [bO,a8,b5]
    exact ⟨i2+1,k,swp c i2 (k+1),by omega,by omega,by omega,by rw [v3]; exact S,N.symm,(by first | rfl | exact ⟨rfl,rfl⟩ | exact ⟨rfl,rfl,rfl⟩)⟩
   clear w l s o P Y J h K R B A hc F y p G E;rintro vs pos f ⟨i,j,e,L,h0,hj,Z,O,rfl,rfl,rfl⟩;have g:a<e.size:=by omega
   push_cast [bO,a8,b5,b6]
   refine c7 [(10,false),(11,false),(0,false),(1,false)] (λ vs pos f=>∃H:Nat,i<=H/\H<=j+2/\scanUp (λ x=>ltInt x e[a]!) e j (i)=scanUp (λ x=>ltInt x e[a]!) e j H/\vs=[int .i64 H,int .i64 j,.own 1000000 0 0 n,int .i64 a]/\pos=[bO e m]/\f=[])
    (λ vs _ _=>match vs with | .r (.v (.int _ i))::_=>((j:Int)+1-i).toNat | _=>0) rfl ?_ ?_
   ·push_cast [bO,a8,b5]
    exact ⟨i,by omega,by omega,rfl,(by first | rfl | exact ⟨rfl,rfl⟩ | exact ⟨rfl,rfl,rfl⟩)⟩
   rintro vs pos f ⟨i2,P,Y,J,rfl,rfl,rfl⟩;have G:IntKind.i64.wrap ((i2:Int)+1)=(i2:Int)+1:=a6 (by omega);by_cases w:i2<=j
   ·have h:decide ((i2:Int)<=j)=true:=by simp; omega
    have p:i2<e.size:=by omega
    push_cast [bO,b6,a8,b5,h,G,b8 (m:=m) g,b8 (m:=m) p,zab,zac,zaa]
    repeat refine sI ?_
    refine g9 (ri e[i2]! e[a]!) rfl trivial ?_
    push_cast [bO,b6,a8,b5,h,G,b8 (m:=m) g,b8 (m:=m) p,zab,zac,zaa]
    repeat refine sI ?_
    refine b9 (λ hc=>?_) (λ hc=>?_)
    ·push_cast [bO,b6,a8,b5,h,G]
     refine ⟨⟨i2+1,by omega,by omega,?_,(by first | rfl | exact ⟨rfl,rfl⟩ | exact ⟨rfl,rfl,rfl⟩)⟩,by omega⟩;rw [J,scanUp,if_pos (by simp [w]; simpa using hc)]
    have s:scanUp (λ x=>ltInt x e[a]!) e j (i)=i2:=by rw [J,scanUp,if_neg (by simp; intro _; simpa using hc)]
    push_cast [bO,b6,a8,b5]
    refine c7 [(10,false),(11,false),(0,false),(1,false)] (λ vs pos f=>∃u:Nat,u<=j/\i2<=u+2/\scanDown (λ x=>!ltInt x e[a]!) e i2 j=scanDown (λ x=>!ltInt x e[a]!) e i2 u/\vs=[int .i64 i2,int .i64 u,.own 1000000 0 0 n,int .i64 a]/\pos=[bO e m]/\f=[])
     (λ vs _ _=>match vs with | _ :: .r (.v (.int _ j))::_=>j.toNat | _=>0) rfl ?_ ?_
    ·push_cast [bO,a8,b5]
     exact ⟨j,by omega,by omega,rfl,(by first | rfl | exact ⟨rfl,rfl⟩ | exact ⟨rfl,rfl,rfl⟩)⟩
    rintro vs pos f ⟨j2,K,R,A,rfl,rfl,rfl⟩;by_cases l:i2<=j2
    ·obtain ⟨k,rfl⟩:∃k,j2=k+1:=⟨j2-1,by omega⟩
     have h:decide ((i2:Int)<=(k:Int)+1)=true:=by simp; omega
     have B:decide ((i2:Int)>(k:Int)+1)=false:=by simp; omega
     have E:IntKind.i64.wrap ((k:Int)+1-1)=(k:Int):=by rw [a6 (by omega)]; omega
     have F:k+1<e.size:=by omega
     have p:i2<e.size:=by omega
     push_cast [bO,b6,a8,b5,h,E,b8 (m:=m) g,b8 (m:=m) F,zab,zac,zaa]
     repeat refine sI ?_
     refine g9 (ri e[k+1]! e[a]!) rfl trivial ?_
     push_cast [bO,b6,a8,b5,h,E,b8 (m:=m) g,b8 (m:=m) F,zab,zac,zaa]
     repeat refine sI ?_
     refine b9 (λ hc=>?_) (λ hc=>?_)
     ·push_cast [bO,b6,a8,b5,h,E]
      refine ⟨⟨k,by omega,by omega,?_,(by first | rfl | exact ⟨rfl,rfl⟩ | exact ⟨rfl,rfl,rfl⟩)⟩,by omega⟩;rw [A,scanDown,if_pos (by simp [l]; simpa using hc)]
     have o:scanDown (λ x=>!ltInt x e[a]!) e i2 j=k+1:=by rw [A,scanDown,if_neg (by simp; intro _; simpa using hc)]
     have y:k+1<(e.setIfInBounds i2 e[k+1]!).size:=by simpa using F
     have I:=akk s o P K L;rw [if_neg (by omega)] at I
     push_cast [bO,b6,a8,b5,B,E,G,b8 (m:=m) p,b8 (m:=m) F,b8 (m:=m) y,o8 (m:=m) p,o8 (m:=m) y,zab,zac,zaa]
     repeat refine sI ?_
     refine ⟨⟨i2+1,k,swp e i2 (k+1),by omega,by omega,by omega,by rw [v3]; exact Z,by rw [O,I]; rfl,(by first | rfl | exact ⟨rfl,rfl⟩ | exact ⟨rfl,rfl,rfl⟩)⟩,by omega⟩
    have h:decide ((i2:Int)<=j2)=false:=by simp; omega
    have B:decide ((i2:Int)>j2)=true:=by simp; omega
    have o:scanDown (λ x=>!ltInt x e[a]!) e i2 j=j2:=by
     rw [A];cases j2 with
     | zero=>rfl
     | succ k=>rw [scanDown,if_neg (by simp; omega)]
    push_cast [bO,b6,a8,b5,h]
    repeat refine sI ?_
    have I:=akk s o P K L;rw [if_pos (by omega)] at I;have T:M=(j2,e):=by rw [O,I]
    clear O;subst T;have C:j2<e.size:=by omega
    have D:a<(e.setIfInBounds j2 e[a]!).size:=by simpa using g
    push_cast [bO,b6,a8,b5,B,b8 (m:=m) C,b8 (m:=m) g,b8 (m:=m) D,o8 (m:=m) C,o8 (m:=m) D,zab,zac,zaa]
    repeat refine sI ?_
    first | done | rfl | exact ⟨rfl,rfl⟩
   have h:decide ((i2:Int)<=j)=false:=by simp; omega
   have s:scanUp (λ x=>ltInt x e[a]!) e j (i)=i2:=by rw [J,scanUp,if_neg (by simp; omega)]
   push_cast [bO,b6,a8,b5,h]
   repeat refine sI ?_
   refine c7 [(10,false),(11,false),(0,false),(1,false)] (λ vs pos f=>∃u:Nat,u<=j/\i2<=u+2/\scanDown (λ x=>!ltInt x e[a]!) e i2 j=scanDown (λ x=>!ltInt x e[a]!) e i2 u/\vs=[int .i64 i2,int .i64 u,.own 1000000 0 0 n,int .i64 a]/\pos=[bO e m]/\f=[])
    (λ vs _ _=>match vs with | _ :: .r (.v (.int _ j))::_=>j.toNat | _=>0) rfl ?_ ?_
   ·push_cast [bO,a8,b5]
    exact ⟨j,by omega,by omega,rfl,(by first | rfl | exact ⟨rfl,rfl⟩ | exact ⟨rfl,rfl,rfl⟩)⟩
   rintro vs pos f ⟨j2,K,R,A,rfl,rfl,rfl⟩;by_cases l:i2<=j2
   ·exact absurd l (by omega)
   have h:decide ((i2:Int)<=j2)=false:=by simp; omega
   have B:decide ((i2:Int)>j2)=true:=by simp; omega
   have o:scanDown (λ x=>!ltInt x e[a]!) e i2 j=j2:=by
    rw [A];cases j2 with
    | zero=>rfl
    | succ k=>rw [scanDown,if_neg (by simp; omega)]
   push_cast [bO,b6,a8,b5,h]
   repeat refine sI ?_
   have I:=akk s o P K L;rw [if_pos (by omega)] at I;have T:M=(j2,e):=by rw [O,I]
   clear O;subst T;have C:j2<e.size:=by omega
   have D:a<(e.setIfInBounds j2 e[a]!).size:=by simpa using g
   push_cast [bO,b6,a8,b5,B,b8 (m:=m) C,b8 (m:=m) g,b8 (m:=m) D,o8 (m:=m) C,o8 (m:=m) D,zab,zac,zaa]
   repeat refine sI ?_
   first | done | rfl | exact ⟨rfl,rfl⟩
  have h:decide ((i2:Int)<=j2)=false:=by simp; omega
  have B:decide ((i2:Int)>j2)=true:=by simp; omega
  have o:scanDown (λ x=>!ltInt x c[a]!) c i2 q=j2:=by
   rw [A];cases j2 with
   | zero=>rfl
   | succ k=>rw [scanDown,if_neg (by simp; omega)]
  push_cast [bO,b6,a8,b5,h]
  repeat refine sI ?_
  simp only [s,o,show i2>j2 from by omega,if_true];have C:j2<c.size:=by omega
  have D:a<(c.setIfInBounds j2 c[a]!).size:=by simpa using g
  push_cast [bO,b6,a8,b5,B,b8 (m:=m) C,b8 (m:=m) g,b8 (m:=m) D,o8 (m:=m) C,o8 (m:=m) D,zab,zac,zaa]
  repeat refine sI ?_
  first | done | rfl | exact ⟨rfl,rfl⟩
 have h:decide ((i2:Int)<=q)=false:=by simp; omega
 have s:scanUp (λ x=>ltInt x c[a]!) c q (a+1)=i2:=by rw [J,scanUp,if_neg (by simp; omega)]
 push_cast [bO,b6,a8,b5,h]
 repeat refine sI ?_
 refine c7 [(10,false),(11,false),(0,false),(1,false)] (λ vs pos f=>∃u:Nat,u<=q/\i2<=u+2/\scanDown (λ x=>!ltInt x c[a]!) c i2 q=scanDown (λ x=>!ltInt x c[a]!) c i2 u/\vs=[int .i64 i2,int .i64 u,.own 1000000 0 0 n,int .i64 a]/\pos=[bO c m]/\f=[])
  (λ vs _ _=>match vs with | _ :: .r (.v (.int _ j))::_=>j.toNat | _=>0) rfl ?_ ?_
 ·push_cast [bO,a8,b5]
  exact ⟨q,by omega,by omega,rfl,(by first | rfl | exact ⟨rfl,rfl⟩ | exact ⟨rfl,rfl,rfl⟩)⟩
 rintro vs pos f ⟨j2,K,R,A,rfl,rfl,rfl⟩;by_cases l:i2<=j2
 ·exact absurd l (by omega)
 have h:decide ((i2:Int)<=j2)=false:=by simp; omega
 have B:decide ((i2:Int)>j2)=true:=by simp; omega
 have o:scanDown (λ x=>!ltInt x c[a]!) c i2 q=j2:=by
  rw [A];cases j2 with
  | zero=>rfl
  | succ k=>rw [scanDown,if_neg (by simp; omega)]
 push_cast [bO,b6,a8,b5,h]
 repeat refine sI ?_
 simp only [s,o,show i2>j2 from by omega,if_true];have C:j2<c.size:=by omega
 have D:a<(c.setIfInBounds j2 c[a]!).size:=by simpa using g
 push_cast [bO,b6,a8,b5,B,b8 (m:=m) C,b8 (m:=m) g,b8 (m:=m) D,o8 (m:=m) C,o8 (m:=m) D,zab,zac,zaa]
 repeat refine sI ?_
 first | done | rfl | exact ⟨rfl,rfl⟩

open Go.Sort (swp ltInt scanSorted partialIns partialInsertionSort)
def aw:Mk P0 f86:={ x:=_ }

open Go.Sort (swp ltInt scanSorted partialIns partialInsertionSort shiftDown shiftUp)
theorem azz (d:Array Int) (a b:Nat) (h8:a<b) (hb:b<=d.size) (hn:d.size<=100000) (m:Nat) :
 a9 P0 86 [.own 1000000 0 0 d.size,int .i64 a,int .i64 b] [bO d m] (bl (partialInsertionSort ltInt d a b).2) [bO (partialInsertionSort ltInt d a b).1 m]:=by
 refine aw.t func86 ?_;have w1:IntKind.i64.wrap ((a:Int)+1)=(a:Int)+1:=a6 (by omega);have w2:IntKind.i64.wrap ((b:Int)-a)=(b:Int)-a:=a6 (by omega)
 push_cast [aw,bO,b6,a8,b5,w1,zae,zad,zab,zac,zaa]
 repeat refine sI ?_
 obtain ⟨RR,W⟩:∃RR,partialInsertionSort ltInt d a b=RR:=⟨_,rfl⟩
 rw [W];generalize hN:d.size=n at *
 refine c7 [(7,false),(8,false),(0,false),(1,false),(2,false)] (λ vs pos e=>∃(s i:Nat) (D:Array Int),s<=5/\a+1<=i/\i<=b/\D.size=n/\RR=partialIns ltInt a b s i D/\vs=[int .i64 i,int .i64 (5-s),.own 1000000 0 0 n,int .i64 a,int .i64 b]/\pos=[bO D m]/\e=[])
  (λ vs _ _=>match vs with | _ :: .r (.v (.int _ j))::_=>(5-j).toNat | _=>0) rfl ?_ ?_
 ·push_cast [bO,a8,b5]
  exact ⟨5,a+1,d,by omega,by omega,by omega,hN,W.symm,by simp⟩
 rintro vs pos e ⟨s,Z,D,hs,h6,h9,hD,g,rfl,rfl,rfl⟩;by_cases h0:s=0
 ·subst h0;have o:decide ((5:Int)-(0:Nat)<5)=false:=by decide
  have h5:decide ((5:Int)-0<5)=false:=by decide
  rw [partialIns] at g;subst g
  push_cast [bO,b6,a8,b5,o,h5,zab,zac,zaa]
 obtain ⟨t,rfl⟩:∃t,s=t+1:=⟨s-1,by omega⟩
 obtain ⟨J,hJ⟩:∃J:Int,(5:Int)-(t+1:Nat)=J:=⟨_,rfl⟩
 have o:decide (J<5)=true:=decide_eq_true (by omega);have wJ:IntKind.i64.wrap (J+1)=5-(t:Int):=by rw [a6 (by omega)]; omega
 rw [hJ]
 push_cast [bO,b6,a8,b5,o,zab,zac,zaa]
 refine c7 [(7,false),(8,false),(0,false),(1,false),(2,false)] (λ vs pos e=>∃i:Nat,a+1<=i/\i<=b/\scanSorted ltInt D b Z=scanSorted ltInt D b i/\vs=[int .i64 i,int .i64 J,.own 1000000 0 0 n,int .i64 a,int .i64 b]/\pos=[bO D m]/\e=[])
  (λ vs _ _=>match vs with | .r (.v (.int _ i))::_=>(b-i).toNat | _=>0) rfl ?_ ?_
 ·push_cast [bO,a8,b5]
  exact ⟨Z,by omega,by omega,rfl,(by first | rfl | exact ⟨rfl,rfl⟩ | exact ⟨rfl,rfl,rfl⟩)⟩
 rintro vs pos e ⟨i,h1,h2,hU,rfl,rfl,rfl⟩;by_cases h3:i<b
 ·obtain ⟨k,rfl⟩:∃k,i=k+1:=⟨i-1,by omega⟩
  have o:decide ((k:Int)+1<b)=true:=by simp; omega
  have g1:decide ((k:Int)+1=b)=false:=by simp; omega
  have V:((k:Int)+1 == b)=false:=by simp; omega
  have S:IntKind.i64.wrap ((k:Int)+1+1)=(k:Int)+1+1:=a6 (by omega);have R:IntKind.i64.wrap ((k:Int)+1-1)=(k:Int):=by rw [a6 (by omega)]; omega
  have Y:k<D.size:=by omega
  have q:k+1<D.size:=by omega
  push_cast [bO,b6,a8,b5,o,S,R,b8 (m:=m) Y,b8 (m:=m) q,zab,zac,zaa]
  repeat refine sI ?_
  refine g9 (ri D[k+1]! D[k]!) rfl trivial ?_
  push_cast [bO,b6,a8,b5,o,S,R,b8 (m:=m) Y,b8 (m:=m) q,zab,zac,zaa]
  repeat refine sI ?_
  refine b9 (λ hc=>?_) (λ hc=>?_)
  ·push_cast [bO,b6,a8,b5,o,S,R]
   refine ⟨⟨k+2,by omega,by omega,?_,(by first | rfl | exact ⟨rfl,rfl⟩ | exact ⟨rfl,rfl,rfl⟩)⟩,by omega⟩;rw [hU,scanSorted,if_pos (by simp [h3]; simpa using hc)]
  have H:scanSorted ltInt D b Z=k+1:=by rw [hU,scanSorted,if_neg (by simp; intro _; simpa using hc)]
  rw [partialIns,H,if_neg (by omega)] at g;have k3:k<(D.setIfInBounds (k+1) D[k]!).size:=by simpa using Y
  by_cases T:b-a<50
  ·have g2:decide ((b:Int)-a<50)=true:=by simp; omega
   rw [if_pos T] at g;subst g
   push_cast [bO,b6,a8,b5,o,g1,V,g2,w2,S,R]
   done
  have g2:decide ((b:Int)-a<50)=false:=by simp; omega
  rw [if_neg T] at g
  push_cast [bO,b6,a8,b5,o,g1,V,g2,w2,S,R,b8 (m:=m) Y,b8 (m:=m) q,b8 (m:=m) k3,o8 (m:=m) q,o8 (m:=m) k3,zab,zac,zaa]
  repeat refine sI ?_
  have w5:IntKind.i64.wrap ((k:Int)+1-a)=(k:Int)+1-a:=a6 (by omega);have w6:IntKind.i64.wrap ((b:Int)-(k+1))=(b:Int)-(k+1):=a6 (by omega);obtain ⟨A,O⟩:∃A,swp D (k+1) k=A:=⟨_,rfl⟩
  have B:A.size=n:=by rw [<- O,v3]; exact hD
  rw [show (D.setIfInBounds (k+1) D[k]!).setIfInBounds k D[k+1]! = A from O];simp only [show k+1-1=k from rfl,O] at g;refine xu (λ E ob=>∃y:Array Int,(if k+1-a>=2 then shiftDown ltInt k A else A)=y/\y.size=n/\E 0=.own 1000000 0 0 n/\E 1=int .i64 a/\E 2=int .i64 b/\E 7=int .i64 ((k:Int)+1)/\E 8=int .i64 J/\ob=upd 1000000 (0,bO y m) (λ _=>none)) ?_ (λ Q=>?_) (λ Q=>?_)
  ·rintro E ob ⟨y,q1,q2,L,K,I,N,M,rfl⟩;rw [q1] at g
   push_cast [bO,b6,a8,b5,L,K,I,N,M,w6,zab,zac,zaa]
   refine xu (λ E ob=>∃U:Array Int,(if b-(k+1)>=2 then shiftUp ltInt b (k+2) y else y)=U/\U.size=n/\E 0=.own 1000000 0 0 n/\E 1=int .i64 a/\E 2=int .i64 b/\E 7=int .i64 ((k:Int)+1)/\E 8=int .i64 J/\ob=upd 1000000 (0,bO U m) (λ _=>none)) ?_ (λ F=>?_) (λ F=>?_)
   ·clear L K I N M E;rintro E ob ⟨U,q3,q4,L,K,I,N,M,rfl⟩;rw [show k+1+1=k+2 from rfl,q3] at g
    push_cast [bO,b6,a8,b5,L,K,I,N,M,wJ,zab,zac,zaa]
    exact ⟨⟨t,k+1,U,by omega,by omega,by omega,q4,g,rfl,rfl⟩,by omega⟩
   ·have x:b-(k+1)>=2:=by have:=of_decide_eq_true F; omega
    push_cast [bO,b6,a8,b5,L,K,I,N,M,S,zab,zac,zaa]
    refine c7 [(10,false),(7,false),(8,false),(0,false),(1,false),(2,false)] (λ vs pos e=>∃(j:Nat) (c:Array Int),k+1<=j/\j+1<=b/\c.size=n/\shiftUp ltInt b (k+2) y=shiftUp ltInt b (j+1) c/\vs=[int .i64 ((j:Int)+1),int .i64 ((k:Int)+1),int .i64 J,.own 1000000 0 0 n,int .i64 a,int .i64 b]/\pos=[bO c m]/\e=[])
     (λ vs _ _=>match vs with | .r (.v (.int _ j))::_=>(b-j).toNat | _=>0) rfl ?_ ?_
    ·push_cast [bO,a8,b5,L,K,I,N,M]
     exact ⟨k+1,y,by omega,by omega,q2,rfl,rfl,rfl⟩
    rintro vs pos e ⟨j,c,h4,h7,f,P,rfl,rfl,rfl⟩;by_cases G:j+1<b
    ·have l:decide ((j:Int)+1<b)=true:=decide_eq_true (by omega);have C:IntKind.i64.wrap ((j:Int)+1-1)=j:=by rw [a6 (by omega)]; omega
     have v2:IntKind.i64.wrap ((j:Int)+1+1)=(j:Int)+1+1:=a6 (by omega);have w:j<c.size:=by omega
     have p:j+1<c.size:=by omega
     have X:j<(c.setIfInBounds (j+1) c[j]!).size:=by simpa using w
     push_cast [bO,b6,a8,b5,l,C,v2,b8 (m:=m) w,b8 (m:=m) p,zab,zac,zaa]
     repeat refine sI ?_
     refine g9 (ri c[j+1]! c[j]!) rfl trivial ?_
     push_cast [bO,b6,a8,b5,l,C,v2,b8 (m:=m) w,b8 (m:=m) p,zab,zac,zaa]
     repeat refine sI ?_
     refine b9 (λ hc=>?_) (λ hc=>?_)
     ·push_cast [bO,b6,a8,b5]
      refine ⟨c,?_,f,by funext z; by_cases h:z=1000000<;>simp [upd,h]⟩;rw [if_pos x,P,shiftUp,if_pos G,if_pos (by simpa using hc)]
     push_cast [bO,b6,a8,b5,l,C,v2,b8 (m:=m) w,b8 (m:=m) p,b8 (m:=m) X,o8 (m:=m) p,o8 (m:=m) X,zab,zac,zaa]
     repeat refine sI ?_
     refine ⟨⟨j+1,swp c (j+1) j,by omega,by omega,by rw [v3]; exact f,?_,(by first | rfl | exact ⟨rfl,rfl⟩ | exact ⟨rfl,rfl,rfl⟩)⟩,by omega⟩;rw [P,shiftUp,if_pos G,if_neg (by simpa using hc)]
     rfl
    have l:decide ((j:Int)+1<b)=false:=decide_eq_false (by omega)
    push_cast [bO,b6,a8,b5,l,zab,zac,zaa]
    refine ⟨c,?_,f,by funext z; by_cases h:z=1000000<;>simp [upd,h]⟩;rw [if_pos x,P,shiftUp,if_neg G]
   have x:¬b-(k+1)>=2:=by have:=of_decide_eq_false F; omega
   push_cast [bO,b6,a8,b5,L,K,I,N,M,zab,zac,zaa]
   exact ⟨y,if_neg x,q2,rfl⟩
  ·have u:k+1-a>=2:=by have:=of_decide_eq_true Q; rw [w5] at this; omega
   push_cast [bO,b6,a8,b5,R,zab,zac,zaa]
   refine c7 [(9,false),(7,false),(8,false),(0,false),(1,false),(2,false)] (λ vs pos e=>∃(j:Nat) (c:Array Int),j<=k/\c.size=n/\shiftDown ltInt k A=shiftDown ltInt j c/\vs=[int .i64 j,int .i64 ((k:Int)+1),int .i64 J,.own 1000000 0 0 n,int .i64 a,int .i64 b]/\pos=[bO c m]/\e=[])
    (λ vs _ _=>match vs with | .r (.v (.int _ j))::_=>j.toNat | _=>0) rfl ?_ ?_
   ·push_cast [bO,a8,b5]
    exact ⟨k,A,by omega,B,rfl,rfl,rfl⟩
   rintro vs pos e ⟨j,c,h4,f,P,rfl,rfl,rfl⟩;cases j with
   | zero=>
     have l:decide ((0:Int)>=1)=false:=by decide
     push_cast [bO,b6,a8,b5,l,zab,zac,zaa]
     refine ⟨c,?_,f,by funext z; by_cases h:z=1000000<;>simp [upd,h]⟩;rw [if_pos u,P]
     rfl
   | succ j=>
     have l:decide ((j:Int)+1>=1)=true:=decide_eq_true (by omega);have C:IntKind.i64.wrap ((j:Int)+1-1)=j:=by rw [a6 (by omega)]; omega
     have w:j<c.size:=by omega
     have p:j+1<c.size:=by omega
     have X:j<(c.setIfInBounds (j+1) c[j]!).size:=by simpa using w
     push_cast [bO,b6,a8,b5,l,C,b8 (m:=m) w,b8 (m:=m) p,zab,zac,zaa]
     repeat refine sI ?_
     refine g9 (ri c[j+1]! c[j]!) rfl trivial ?_
     push_cast [bO,b6,a8,b5,l,C,b8 (m:=m) w,b8 (m:=m) p,zab,zac,zaa]
     repeat refine sI ?_
     refine b9 (λ hc=>?_) (λ hc=>?_)
     ·push_cast [bO,b6,a8,b5]
      refine ⟨c,?_,f,by funext z; by_cases h:z=1000000<;>simp [upd,h]⟩;rw [if_pos u,P,shiftDown,if_pos (by simpa using hc)]
     push_cast [bO,b6,a8,b5,l,C,b8 (m:=m) w,b8 (m:=m) p,b8 (m:=m) X,o8 (m:=m) p,o8 (m:=m) X,zab,zac,zaa]
     repeat refine sI ?_
     refine ⟨⟨j,swp c (j+1) j,by omega,by rw [v3]; exact f,?_,(by first | rfl | exact ⟨rfl,rfl⟩ | exact ⟨rfl,rfl,rfl⟩)⟩,by omega⟩;rw [P,shiftDown,if_neg (by simpa using hc)]
  have u:¬k+1-a>=2:=by have:=of_decide_eq_false Q; rw [w5] at this; omega
  push_cast [bO,b6,a8,b5,R,zab,zac,zaa]
  exact ⟨A,if_neg u,B,by funext z; by_cases h:z=1000000<;>simp [upd,h]⟩
 have o:decide ((i:Int)<b)=false:=by simp; omega
 have g1:((i:Int) == b)=true:=by simp; omega
 have H:scanSorted ltInt D b Z=i:=by rw [hU,scanSorted,if_neg (by simp; omega)]
 rw [partialIns,H,if_pos (by omega)] at g;subst g
 push_cast [bO,b6,a8,b5,o,g1]
 show _=true;kernel_rfl

open Go.Sort (swp ltInt bitsLen xorNext)
def oc:Mk P0 f122:={ x:=_ }
def qx:Mk P0 f123:={ x:=_ }
theorem asj (x:Int):IntKind.u64.wrap x=x%18446744073709551616:=by simp [IntKind.wrap,IntKind.bits,IntKind.signed]
theorem te {x:Int} (h:0<=x/\x<18446744073709551616):IntKind.u64.wrap x=x:=by rw [asj]; omega
theorem axq (a:UInt64) (k:Nat) (b:k<64):IntKind.u64.wrap ((a.toNat:Int)*2^k)=((a <<< (UInt64.ofNat k)).toNat:Int):=by
 have c:(UInt64.ofNat k).toNat=k:=by simp; omega
 rw [UInt64.toNat_shiftLeft,c,Nat.mod_eq_of_lt b,Nat.shiftLeft_eq,asj];simp
theorem a4o (a:UInt64) (k:Nat) (c:k<64):(a.toNat:Int).fdiv (2^k)=((a >>> (UInt64.ofNat k)).toNat:Int):=by
 have d:(UInt64.ofNat k).toNat=k:=by simp; omega
 rw [UInt64.toNat_shiftRight,d,Nat.mod_eq_of_lt c,Nat.shiftRight_eq_div_pow];have e:=a.toNat_lt;have b:((2^k:Nat):Int)=(2:Int)^k:=by simp
 rw [<- b,Int.fdiv_eq_ediv_of_nonneg _ (Int.natCast_nonneg _),<- Int.natCast_ediv]
theorem a1u (a:UInt64):zal IntKind.u64.bits (a.toNat:Int)=a.toBitVec:=by
 apply BitVec.eq_of_toNat_eq;rw [BitVec.toNat_ofInt];have:=a.toNat_lt;show ((a.toNat:Int)%((2^64:Nat):Int)).toNat=a.toNat;omega
theorem a4n (a b:UInt64):IntKind.u64.wrap ((zal IntKind.u64.bits (a.toNat:Int) ^^^ zal IntKind.u64.bits (b.toNat:Int)).toNat:Int)=((a ^^^ b).toNat:Int):=by
 rw [a1u,a1u];have h:(a.toBitVec ^^^ b.toBitVec).toNat=(a ^^^ b).toNat:=rfl;have:=(a ^^^ b).toNat_lt;refine (congrArg IntKind.u64.wrap (congrArg Int.ofNat h)).trans ?_;exact te ⟨Int.natCast_nonneg _,Int.ofNat_lt.2 this⟩
theorem a0a (n:Nat) (d:n<128):a9 P0 91 [int .u64 n] [] (int .i64 (bitsLen n)) []:=by
 refine ag8 rfl (by decide) ?_;have a:decide ((n:Int)>=4294967296)=false:=by simp; omega
 have c:decide ((n:Int)>=65536)=false:=by simp; omega
 have b:decide ((n:Int)>=256)=false:=by simp; omega
 have w:IntKind.u8.wrap (n:Int)=n:=by simp [IntKind.wrap,IntKind.bits,IntKind.signed]; omega
 push_cast [aez,a,c,b,w,zab,zad]
 refine ⟨⟨by omega,(show (n:Int)<((256:Nat):Int) by omega)⟩,?_⟩;refine congrArg (λ z=>AV.r (.v (.int .i64 z))) ?_;clear a c b w
 revert n
 decide +kernel
theorem aoc (n:Nat) (a:n<128):a9 P0 52 [int .u64 n] [] (int .i64 (bitsLen n)) []:=by
 refine ahr.t func52 ?_;have w:IntKind.u64.wrap (n:Int)=n:=te (by omega)
 push_cast [ahr,w,zad]
 refine a7 (a0a n a) rfl trivial ?_
 push_cast
theorem a2x (n:Nat) (a:n<128):a9 P0 122 [int .i64 n] [] (int .u64 (1 <<< bitsLen n:Nat)) []:=by
 refine oc.t func122 ?_;have w:IntKind.u64.wrap (n:Int)=n:=te (by omega)
 push_cast [oc,w,zad]
 refine a7 (aoc n a) rfl trivial ?_
 push_cast
 refine ⟨by omega,?_⟩;refine congrArg (λ z=>AV.r (.v (.int .u64 z))) ?_;clear w
 revert n
 decide +kernel
theorem a2y (r:UInt64):a9 P0 123 [.ptr 1000000 0 0] [.box [int .u64 r.toNat]] (int .u64 (xorNext r).toNat) [.box [int .u64 (xorNext r).toNat]]:=by
 refine qx.t func123 ?_;have f:(min (Int.toNat 13) IntKind.u64.bits)=13:=rfl;have e:(min (Int.toNat 7) IntKind.u64.bits)=7:=rfl;have c:(min (Int.toNat 17) IntKind.u64.bits)=17:=rfl;have h:∀a:UInt64,a <<< (UInt64.ofNat 13)=a <<< 13:=λ _=>rfl;have d:∀a:UInt64,a >>> (UInt64.ofNat 7)=a >>> 7:=λ _=>rfl;have g:∀a:UInt64,a <<< (UInt64.ofNat 17)=a <<< 17:=λ _=>rfl;have i:=λ a=>axq a 13 (by decide);have b:=λ a=>a4o a 7 (by decide);have j:=λ a=>axq a 17 (by decide);simp only [qx,f,e,c,i,b,j,h,d,g,a4n,push_cast,↓reduceIte,reduceCtorEq,zB,zE,zA,zS,zL,zD,zM]
 repeat refine sI ?_
 rfl

open Go.Sort (swp ltInt bitsLen xorNext breakStep breakPatterns)
def dn:Mk P0 f83:={ x:=_ }
def brk (a l b:Nat):Nat->Nat->UInt64×Array Int->Array Int
 | 0,_,st=>st.2
 | s+1,idx,st=>brk a l b s (idx+1) (breakStep a l b st idx)
theorem a4e {a b:Nat} (h:8<=b-a):breakPatterns d a b=brk a (b-a) (1 <<< bitsLen (b-a)) 3 (a+(b-a)/4*2-1) (UInt64.ofNat (b-a),d):=by
 unfold breakPatterns;simp only [show b-a>=8 from h,if_true]
 rfl
theorem ar5 (x a:Nat) (k:Nat) (c:k<=62) (b:a=2^k) (hx:x<18446744073709551616):IntKind.u64.wrap ((zal IntKind.u64.bits (x:Int) &&& zal IntKind.u64.bits ((a:Int)-1)).toNat)=((x &&& (a-1):Nat):Int):=by
 rw [ar4 x ((a:Int)-1) k (by omega) (by rw [b]; simp) (Int.natCast_nonneg _) (by omega),b,Nat.and_two_pow_sub_one_eq_mod];simp
theorem a05 (d:Array Int) (a b:Nat) (hl:8<=b-a) (hb:b<=d.size) (hn:d.size<128) (m:Nat) :
 a9 P0 83 [.own 1000000 0 0 d.size,int .i64 a,int .i64 b] [bO d m] (.tup []) [bO (breakPatterns d a b) m]:=by
 refine dn.t func83 ?_;rw [a4e hl];have A:=Go.Sort.lt_two_pow_bitsLen (b-a);have z:=Go.Sort.two_pow_bitsLen_le (n:=b-a) (by omega);obtain ⟨l,O⟩:∃l,b-a=l:=⟨_,rfl⟩
 obtain ⟨q,hq⟩:∃q,l/4=q:=⟨_,rfl⟩
 obtain ⟨B,Q⟩:∃B,bitsLen l=B:=⟨_,rfl⟩
 obtain ⟨c,x⟩:∃c,1 <<< B=c:=⟨_,rfl⟩
 have k:c=2^B:=by rw [<- x,Nat.shiftLeft_eq,Nat.one_mul]
 rw [O] at A z |-;rw [Q] at A z;rw [Q,x,hq]
 have F:B<=62:=by
  rcases Nat.lt_or_ge 62 B with h | h
  ·have:=Nat.pow_le_pow_right (n:=2) (by decide) (show 9<=B by omega);omega
  exact h
 rw [<- k] at A z;obtain ⟨j,R⟩:∃j,a+q*2-1=j:=⟨_,rfl⟩
 have Z:IntKind.i64.wrap ((b:Int)-a)=(l:Int):=by rw [a6 (by omega)]; omega
 have L:(l:Int).tdiv 4=(q:Int):=by rw [zak (by omega)]; omega
 have w:IntKind.i64.wrap (q:Int)=(q:Int):=a6 (by omega);have P:IntKind.i64.wrap ((q:Int)*2)=(q:Int)*2:=a6 (by omega);have S:IntKind.i64.wrap ((a:Int)+(q:Int)*2)=(a:Int)+(q:Int)*2:=a6 (by omega);have w4:IntKind.i64.wrap ((a:Int)+(q:Int)*2-1)=(j:Int):=by rw [a6 (by omega)]; omega
 have w5:IntKind.i64.wrap ((a:Int)+(q:Int)*2+1)=(j:Int)+2:=by rw [a6 (by omega)]; omega
 have Y:IntKind.u64.wrap (l:Int)=(l:Int):=te (by omega);have w7:IntKind.u64.wrap ((c:Int)-1)=(c:Int)-1:=te (by omega);have V:decide ((l:Int)>=8)=true:=by simp; omega
 push_cast [dn,bO,b6,a8,b5,Z,L,w,P,S,w4,Y,V,zae,zad,zab,zac,zaa]
 repeat refine sI ?_
 refine a7 (a2x l (by omega)) rfl trivial ?_;rw [Q,x]
 push_cast [bO,b6,a8,b5,Z,L,w,P,S,w4,Y,V,zae,zad,zab,zac,zaa]
 repeat refine sI ?_
 generalize hN:d.size=n at *;obtain ⟨K,E⟩:∃K,brk a l c 3 j (UInt64.ofNat l,d)=K:=⟨_,rfl⟩
 rw [R,E]
 refine c7 [(9,false),(0,false),(1,false),(6,false),(7,false),(8,false)] (λ vs pos C=>∃(s idx:Nat) (r:UInt64) (e:Array Int),s+idx=j+3/\s<=3/\e.size=n/\K=brk a l c s idx (r,e)/\vs=[int .i64 idx,.own 1000000 0 0 n,int .i64 a,int .i64 l,.ptr 2000000 0 0,int .u64 c]/\pos=[bO e m]/\C=[.box [int .u64 r.toNat]])
  (λ vs _ _=>match vs with | .r (.v (.int _ i))::_=>((j:Int)+3-i).toNat | _=>0) rfl ?_ ?_
 ·push_cast [bO,a8,b5]
  refine ⟨3,j,UInt64.ofNat l,d,by omega,by omega,hN,E.symm,(by first | rfl | exact ⟨rfl,rfl⟩ | exact ⟨rfl,rfl,rfl⟩),?_⟩;have:(UInt64.ofNat l).toNat=l:=by simp; omega
  rw [this];exact ⟨rfl,rfl⟩
 rintro vs pos C ⟨s,idx,r,e,h1,h2,T,M,rfl,rfl,rfl⟩
 push_cast [bO,b6,a8,b5,L,w,P,S,w5,zab,zac,zaa]
 repeat refine sI ?_
 refine b9 (λ hc=>?_) (λ hc=>?_)
 ·obtain ⟨s',rfl⟩:∃s',s=s'+1:=⟨s-1,by simp at hc; omega⟩
  push_cast [bO,b6,a8,b5,zab,zac,zaa]
  refine a7 (a2y r) rfl ⟨rfl,trivial⟩ ?_;have hx:=(xorNext r).toNat_lt;have g:=ar5 (xorNext r).toNat c B F k hx;obtain ⟨o,I⟩:∃o,(xorNext r).toNat &&& (c-1)=o:=⟨_,rfl⟩
  rw [I] at g;have X:o<=c-1:=by rw [<- I]; exact Nat.and_le_right
  have wo:IntKind.i64.wrap (o:Int)=(o:Int):=a6 (by omega)
  push_cast [bO,b6,a8,b5,w7,g,wo,zab,zac,zaa]
  repeat refine sI ?_
  have f:idx<e.size:=by omega
  have W:IntKind.i64.wrap ((idx:Int)+1)=(idx:Int)+1:=a6 (by omega)
  have D:∀t:Nat,t<l->(breakStep a l c (r,e) idx)=(xorNext r,swp e idx (a+t))->brk a l c (s'+1) idx (r,e)=brk a l c s' (idx+1) (xorNext r,swp e idx (a+t)):=λ t U h=>by
   rw [brk,h]
  refine b9 (λ hc=>?_) (λ hc=>?_)
  ·have h3:l<=o:=by simp at hc; omega
   obtain ⟨t,rfl⟩:∃t,o=l+t:=⟨o-l,by omega⟩
   have U:t<l:=by omega
   have wt:IntKind.i64.wrap (((l+t:Nat):Int)-l)=(t:Int):=by rw [a6 (by omega)]; omega
   have u:IntKind.i64.wrap ((a:Int)+t)=((a+t:Nat):Int):=by rw [a6 (by omega)]; omega
   have G:a+t<e.size:=by omega
   have H:a+t<(e.setIfInBounds idx e[a+t]!).size:=by simpa using G
   have p:=D t U (by
    unfold breakStep;simp only [I];rw [if_pos (by omega)]
    simp)
   generalize N:a+t=y at *;generalize h0:l+t=h4 at *
   push_cast [bO,b6,a8,b5,wt,u,W,b8 (m:=m) f,b8 (m:=m) G,b8 (m:=m) H,o8 (m:=m) f,o8 (m:=m) H,zab,zac,zaa]
   repeat refine sI ?_
   refine ⟨⟨s',idx+1,xorNext r,swp e idx y,by omega,by omega,by rw [v3]; exact T,by rw [M,p],(by first | rfl | exact ⟨rfl,rfl⟩ | exact ⟨rfl,rfl,rfl⟩)⟩,by omega⟩
  have J:o<l:=by simp at hc; omega
  have u:IntKind.i64.wrap ((a:Int)+o)=((a+o:Nat):Int):=by rw [a6 (by omega)]; omega
  have G:a+o<e.size:=by omega
  have H:a+o<(e.setIfInBounds idx e[a+o]!).size:=by simpa using G
  have p:=D o J (by
   unfold breakStep;simp only [I]
   rw [if_neg (by omega)])
  generalize N:a+o=y at *
  push_cast [bO,b6,a8,b5,u,W,b8 (m:=m) f,b8 (m:=m) G,b8 (m:=m) H,o8 (m:=m) f,o8 (m:=m) H,zab,zac,zaa]
  repeat refine sI ?_
  refine ⟨⟨s',idx+1,xorNext r,swp e idx y,by omega,by omega,by rw [v3]; exact T,by rw [M,p],(by first | rfl | exact ⟨rfl,rfl⟩ | exact ⟨rfl,rfl,rfl⟩)⟩,by omega⟩
 have hs:s=0:=by simp at hc; omega
 subst hs
 push_cast [bO,b6,a8,b5,zab,zac,zaa]
 rw [M]
 rfl

open Go.Sort (swp ltInt bitsLen breakPatterns pdq insertionSort heapSort choosePivot Hint reverseRange partialInsertionSort partition partitionEqual Below PermIn SWO)
structure Rnd (e:Array Int) (a b limit:Nat) (wb wp:Bool) (d1:Array Int) (l1:Nat) (d2:Array Int) (pv:Nat) (hint:Hint) (d3:Array Int) (F:Bool):Prop where
 g1:(if !wb then breakPatterns e a b else e)=d1
 g2:(if !wb then limit-1 else limit)=l1
 g3:(if (choosePivot ltInt d1 a b).2=.decreasing then reverseRange d1 a b else d1)=d2
 g4:(if (choosePivot ltInt d1 a b).2=.decreasing then (b-1)-((choosePivot ltInt d1 a b).1-a) else (choosePivot ltInt d1 a b).1)=pv
 g5:(if (choosePivot ltInt d1 a b).2=.decreasing then Hint.increasing else (choosePivot ltInt d1 a b).2)=hint
 g6:((wb&&wp&&decide (hint=.increasing))&&(partialInsertionSort ltInt d2 a b).2)=F
 g7:(if (wb&&wp&&decide (hint=.increasing))=true then (partialInsertionSort ltInt d2 a b).1 else d2)=d3
section
variable {e d1 d2 d3:Array Int} {a b limit l1 pv:Nat} {wb wp F:Bool} {hint:Hint}
theorem atp (h:b-a<=12):pdq ltInt e a b limit wb wp=insertionSort ltInt e a b:=by rw [pdq,if_pos h]
theorem av8 (h:¬b-a<=12) (c:limit=0):pdq ltInt e a b limit wb wp=heapSort ltInt e a b:=by rw [pdq,if_neg h,if_pos c]
theorem a40 (c:Bool):(if c=true then partialInsertionSort ltInt d2 a b else (d2,false))=((if c=true then (partialInsertionSort ltInt d2 a b).1 else d2),c&&(partialInsertionSort ltInt d2 a b).2):=by
 cases c<;>rfl
theorem Rnd.eq (R:Rnd e a b limit wb wp d1 l1 d2 pv hint d3 F) (h:¬b-a<=12) (c:limit≠0) :
 pdq ltInt e a b limit wb wp=if F=true then d3 else
  if (decide (a>0) && !ltInt d3[a-1]! d3[pv]!)=true then
   match partitionEqual ltInt d3 a b pv with
   | (mid,d4)=>if _h:a<mid/\mid<=b then pdq ltInt d4 mid b l1 wb wp else d4
  else
   match partition ltInt d3 a b pv with
   | (mid,ap,d4)=>
     if _h:a<=mid/\mid<b then
      if mid-a<b-mid then pdq ltInt (pdq ltInt d4 a mid l1 true true) (mid+1) b l1 (decide (mid-a>=(b-a)/8)) ap
      else pdq ltInt (pdq ltInt d4 (mid+1) b l1 true true) a mid l1 (decide (b-mid>=(b-a)/8)) ap
     else d4:=by
 rw [pdq,if_neg h,if_neg c];simp only [R.g1,R.g2,R.g3,R.g4,R.g5,a40,R.g6,R.g7]
theorem Rnd.facts (R:Rnd e a b limit wb wp d1 l1 d2 pv hint d3 F) (h:a<b) (g:b<=e.size) (l:Below ltInt a b e) :
 d1.size=e.size/\d3.size=e.size/\l1<=limit/\Below ltInt a b d3/\a<=pv/\pv<b/\d2.size=e.size:=by
 have c:PermIn a b e d1:=by
  rw [<- R.g1];split
  ·exact Go.Sort.breakPatterns_holds e a b (by omega) g
  exact Go.Sort.permIn_refl e a b
 have f:b<=d1.size:=by rw [c.1]; exact g
 have d:PermIn a b d1 d2:=by
  rw [<- R.g3];split
  ·exact Go.Sort.reverseRange_holds d1 a b (by omega) f
  exact Go.Sort.permIn_refl d1 a b
 have k:b<=d2.size:=by rw [d.1]; exact f
 have i:=(l.perm g c).perm f d
 have j:PermIn a b d2 d3:=by
  rw [<- R.g7];split
  ·exact (Go.Sort.partialInsertionSort_holds Go.Sort.swo_ltInt d2 a b h k i).1
  exact Go.Sort.permIn_refl d2 a b
 have hc:=Go.Sort.choosePivot_holds ltInt d1 a b h;refine ⟨c.1,j.1.trans (d.1.trans c.1),by rw [<- R.g2]; split<;>omega,i.perm k j,?_,?_,d.1.trans c.1⟩
 ·rw [<- R.g4]; split<;>omega
 rw [<- R.g4]; split<;>omega
theorem Rnd.eqs (R:Rnd e a b limit wb wp d1 l1 d2 pv hint d3 F) (h:¬b-a<=12) (l:b<=e.size) (j:Below ltInt a b e)
 (d:(decide (a>0) && !ltInt d3[a-1]! d3[pv]!)=true) {c:Nat} {f:Array Int} (hx:partitionEqual ltInt d3 a b pv=(c,f)) :
 a<c/\c<=b/\f.size=e.size/\Below ltInt c b f:=by
 obtain ⟨r,m,s,n,i,o,_⟩:=R.facts (by omega) l j;simp only [Bool.and_eq_true,decide_eq_true_eq,Bool.not_eq_true'] at d;obtain ⟨q,p,g,k,_⟩:=Go.Sort.round_eq Go.Sort.swo_ltInt (Go.Sort.partitionEqual_holds ltInt) d.1 i o (by omega) n d.2 hx;exact ⟨q,p,g.trans m,k⟩
theorem Rnd.parts (R:Rnd e a b limit wb wp d1 l1 d2 pv hint d3 F) (h:¬b-a<=12) (r:b<=e.size) (q:Below ltInt a b e) {c:Nat} {o:Bool} {d:Array Int} (hx:partition ltInt d3 a b pv=(c,o,d)) :
 a<=c/\c<b/\d.size=e.size/\Below ltInt a c d/\Below ltInt (c+1) b d /\
 (pdq ltInt d a c l1 true true).size=e.size/\Below ltInt (c+1) b (pdq ltInt d a c l1 true true) /\
 (pdq ltInt d (c+1) b l1 true true).size=e.size/\Below ltInt a c (pdq ltInt d (c+1) b l1 true true):=by
 obtain ⟨v,k,w,n,p,s,_⟩:=R.facts (by omega) r q;obtain ⟨l,t,f,g,i,u,m⟩:=Go.Sort.round_part Go.Sort.swo_ltInt (Go.Sort.partition_holds ltInt) p s (by omega) n hx;have j:=Go.Sort.pdq_sorts ltInt Go.Sort.swo_ltInt d a c l1 true true l (by omega) g;have p2:=Go.Sort.pdq_sorts ltInt Go.Sort.swo_ltInt d (c+1) b l1 true true (by omega) (by omega) i;exact ⟨l,t,f.trans k,g,i,j.1.1.trans (f.trans k),(u _ j.1 j.2).1,p2.1.1.trans (f.trans k),(m _ p2.1 p2.2).1⟩
end

open Go.Sort (swp ltInt bitsLen breakPatterns pdq insertionSort heapSort choosePivot Hint reverseRange partialInsertionSort partition partitionEqual Below PermIn SWO)
def aa:Mk P0 f51:={ x:=_ }
theorem agk (i:Nat) (x y:Nat×Ob) (f:Obs):upd i x (upd i y f)=upd i x f:=by
 funext n;simp only [upd];split<;>rfl
def axi (m N:Nat):Prop:=∀(d:Array Int) (a b c:Nat),b-a<=N->a<=b->b<=d.size->d.size<128->c<=100->Below ltInt a b d ->
 a9 P0 51 [.own 1000000 0 0 d.size,int .i64 a,int .i64 b,int .i64 c] [bO d m] (.tup []) [bO (pdq ltInt d a b c true true) m]
theorem nh {f g:Array Int} (h:g.size=f.size):k7 [bO f m] [bO g m]:=⟨by rw [b6,b6,h],trivial⟩
theorem av7 (m N:Nat) (ih:∀N',N'<N->axi m N'):axi m N:=by
 intro d a b g hN O hb hn Z hB;refine aa.t func51 ?_;obtain ⟨RR,B⟩:∃RR,pdq ltInt d a b g true true=RR:=⟨_,rfl⟩
 rw [B]
 push_cast [aa,bO,b6,a8,b5,zae,zad,zab,zac,zaa]
 repeat refine sI ?_
 obtain ⟨n,hh⟩:∃n,d.size=n:=⟨_,rfl⟩
 rw [hh] at hb hn |-
 refine c7 [(8,false),(9,false),(0,false),(1,false),(2,false),(3,false)] (λ vs pos hk=>∃(a b g:Nat) (K U:Bool) (e:Array Int),a<=b/\b<=n/\e.size=n/\b-a<=N/\g<=100/\Below ltInt a b e/\RR=pdq ltInt e a b g K U/\vs=[bl K,bl U,.own 1000000 0 0 n,int .i64 a,int .i64 b,int .i64 g]/\pos=[bO e m]/\hk=[])
  (λ vs _ _=>match vs with | [_,_,_,.r (.v (.int _ a)),.r (.v (.int _ b)),_]=>(b-a).toNat | _=>0) rfl ?_ ?_
 ·push_cast [bO,a8,b5]
  exact ⟨a,b,g,true,true,d,O,hb,hh,hN,Z,hB,B.symm,(by first | rfl | exact ⟨rfl,rfl⟩ | exact ⟨rfl,rfl,rfl⟩)⟩
 clear B hB Z hN O hb hh;rintro vs pos hk ⟨a,b,g,K,U,e,O,hb,X,hN,Z,hB,B,rfl,rfl,rfl⟩;have w0:IntKind.i64.wrap ((b:Int)-a)=(b:Int)-a:=a6 (by omega);obtain ⟨l,hl⟩:∃l,b-a=l:=⟨_,rfl⟩
 have w0:IntKind.i64.wrap ((b:Int)-a)=(l:Int):=by rw [a6 (by omega)]; omega
 push_cast [bO,b6,a8,b5,w0,zab,zac,zaa]
 refine b9 (λ hc=>?_) (λ hc=>?_)
 ·have S:b-a<=12:=by simp at hc; omega
  push_cast [bO,b6,a8,b5,zab,zac,zaa]
  have o:=a5j e a b O (by omega) (by omega) m;rw [X] at o;refine a7 o rfl (nh (Go.Sort.insertionSort_holds Go.Sort.swo_ltInt e a b O (by omega)).1.1) ?_;rw [B,atp S]
  push_cast [bO,b6,a8,b5,zab,zac,zaa]
 have S:¬b-a<=12:=by simp at hc; omega
 push_cast [bO,b6,a8,b5,zab,zac,zaa]
 refine b9 (λ h8=>?_) (λ h8=>?_)
 ·have h0:g=0:=by simp at h8; omega
  push_cast [bO,b6,a8,b5,zab,zac,zaa]
  have o:=a3l e a b (by omega) (by omega) (by omega) m;rw [X] at o;refine a7 o rfl (nh (Go.Sort.heapSort_holds Go.Sort.swo_ltInt e a b O (by omega)).1.1) ?_;rw [B,av8 S h0]
  push_cast [bO,b6,a8,b5,zab,zac,zaa]
 have h0:g≠0:=by simp at h8; omega
 push_cast [bO,b6,a8,b5,zab,zac,zaa]
 refine xu (λ E ob=>∃(W:Array Int) (H:Nat),(if !K then breakPatterns e a b else e)=W/\(if !K then g-1 else g)=H/\E 0=.own 1000000 0 0 n/\E 1=int .i64 a/\E 2=int .i64 b/\E 3=int .i64 H/\E 8=bl K/\E 9=bl U/\E 10=int .i64 l/\ob=upd 1000000 (0,bO W m) (λ _=>none)) ?_ (λ h6=>?_) (λ h6=>?_)
 ·rintro E ob ⟨W,H,q1,q2,u,s,q,A,w,z,i,rfl⟩
  have h2:W.size=n:=by
   rw [<- X,<- q1];split
   ·exact (Go.Sort.breakPatterns_holds e a b O (by omega)).1
   rfl
  push_cast [bO,b6,a8,b5,u,s,q,A,w,z,i,zab,zac,zaa]
  have o:=azy W a b (by omega) (by omega) (by omega) m;rw [h2] at o;refine a7 o rfl (nh rfl) ?_;clear o;obtain ⟨c,h,h1⟩:∃c h,choosePivot ltInt W a b=(c,h):=⟨_,_,rfl⟩
  have hj:=Go.Sort.choosePivot_holds ltInt W a b (by omega);rw [h1] at hj |-;simp only at hj
  push_cast [bO,b6,a8,b5,u,s,q,A,w,z,i,zab,zac,zaa]
  refine xu (λ E ob=>∃(d2:Array Int) (L:Nat) (p:Hint),(if h=.decreasing then reverseRange W a b else W)=d2/\(if h=.decreasing then (b-1)-(c-a) else c)=L/\(if h=.decreasing then Hint.increasing else h)=p/\E 0=.own 1000000 0 0 n/\E 1=int .i64 a/\E 2=int .i64 b/\E 3=int .i64 H/\E 8=bl K/\E 9=bl U/\E 10=int .i64 l/\E 11=int .i64 L/\E 12=int .i64 (agy p)/\ob=upd 1000000 (0,bO d2 m) (λ _=>none)) ?_ (λ hf=>?_) (λ hf=>?_)
  ·clear u s q A w z i E;rintro E ob ⟨d2,L,p,q3,q4,q5,u,s,q,A,w,z,i,k,V,rfl⟩
   push_cast [bO,b6,a8,b5,u,s,q,A,w,z,i,k,V,zab,zac,zaa]
   have hG:(bif bif K then U else false then agy p == 1 else false)=(K&&U&&decide (p=.increasing)):=by cases K<;>cases U<;>cases p<;>rfl
   obtain ⟨J,q6⟩:∃J,(if (K&&U&&decide (p=.increasing))=true then (partialInsertionSort ltInt d2 a b).1 else d2)=J:=⟨_,rfl⟩
   have R:Rnd e a b g K U W H d2 L p J ((K&&U&&decide (p=.increasing))&&(partialInsertionSort ltInt d2 a b).2):=⟨q1,q2,by rw [h1]; exact q3,by rw [h1]; exact q4,by rw [h1]; exact q5,rfl,q6⟩
   obtain ⟨hw,h9,g3,g2,hu,hv,hs⟩:=R.facts (by omega) (by omega) hB;have j:=R.eq S h0;refine xu (λ E ob=>((K&&U&&decide (p=.increasing))&&(partialInsertionSort ltInt d2 a b).2)=false/\E 0=.own 1000000 0 0 n/\E 1=int .i64 a/\E 2=int .i64 b/\E 3=int .i64 H/\E 8=bl K/\E 9=bl U/\E 10=int .i64 l/\E 11=int .i64 L/\ob=upd 1000000 (0,bO J m) (λ _=>none)) ?_ (λ Q=>?_) (λ Q=>?_)
   ·clear u s q A w z i k V E;rintro E ob ⟨hF,u,s,q,A,w,z,i,k,rfl⟩;rw [hF] at R j;rw [if_neg (by simp)] at j;clear hG hF;by_cases hz:0<a
    ·obtain ⟨C,rfl⟩:∃C,a=C+1:=⟨a-1,by omega⟩
     have g0:decide ((C:Int)+1>0)=true:=by rw [decide_eq_true_eq]; omega
     have wk:IntKind.i64.wrap ((C:Int)+1-1)=(C:Int):=by rw [a6 (by omega)]; omega
     have k1:C<J.size:=by omega
     have k2:L<J.size:=by omega
     push_cast [bO,b6,a8,b5,g0,wk,u,s,q,A,w,z,i,k,b8 (m:=m) k1,b8 (m:=m) k2,zab,zac,zaa]
     repeat refine sI ?_
     refine g9 (ri J[C]! J[L]!) rfl trivial ?_
     push_cast [bO,b6,a8,b5,g0,wk,u,s,q,A,w,z,i,k,b8 (m:=m) k1,b8 (m:=m) k2,zab,zac,zaa]
     repeat refine sI ?_
     refine b9 (λ hi=>?_) (λ hi=>?_)
     ·have I:(decide (C+1>0) && !ltInt J[C+1-1]! J[L]!)=true:=by simpa using hi
      have o:=av9 J (C+1) b L (by omega) (by omega) (by omega) (by omega) m;rw [h9,X] at o;obtain ⟨f,M,hx⟩:∃f M,partitionEqual ltInt J (C+1) b L=(f,M):=⟨_,_,rfl⟩
      obtain ⟨r1,r2,r3,r4⟩:=R.eqs S (by omega) hB I hx;rw [hx] at o j;simp only at o;rw [if_pos I] at j;simp only [dif_pos (show C+1<f/\f<=b from ⟨r1,r2⟩)] at j
      push_cast [bO,b6,a8,b5,g0,wk,u,s,q,A,w,z,i,k,zab,zac,zaa]
      refine a7 o rfl (nh (by omega)) ?_
      push_cast [bO,b6,a8,b5,g0,wk,u,s,q,A,w,z,i,k,zab,zac,zaa]
      exact ⟨⟨f,b,H,K,U,M,by omega,by omega,by omega,by omega,by omega,r4,by rw [B,j],(by first | rfl | exact ⟨rfl,rfl⟩ | exact ⟨rfl,rfl,rfl⟩)⟩,by omega⟩
     have I:¬(decide (C+1>0) && !ltInt J[C+1-1]! J[L]!)=true:=by simpa using hi
     push_cast [bO,b6,a8,b5,g0,wk,u,s,q,A,w,z,i,k,zab,zac,zaa]
     have o:=atq J (C+1) b L (by omega) (by omega) (by omega) (by omega) m;rw [h9,X] at o;obtain ⟨f,ap,M,hx⟩:∃f ap M,partition ltInt J (C+1) b L=(f,ap,M):=⟨_,_,_,rfl⟩
     obtain ⟨r1,r2,r3,r4,r5,r6,r7,r8,r9⟩:=R.parts S (by omega) hB hx;rw [hx] at o j;simp only at o;refine a7 o rfl (nh (by omega)) ?_;rw [if_neg (by exact I)] at j;simp only [dif_pos (show (C+1)<=f/\f<b from ⟨r1,r2⟩)] at j;obtain ⟨G,h3⟩:∃G,(b-(C+1))/8=G:=⟨_,rfl⟩
     obtain ⟨x,h7⟩:∃x,f-(C+1)=x:=⟨_,rfl⟩
     obtain ⟨y,hg⟩:∃y,b-f=y:=⟨_,rfl⟩
     have wx:IntKind.i64.wrap ((f:Int)-((C:Int)+1))=(x:Int):=by rw [a6 (by omega)]; omega
     have wy:IntKind.i64.wrap ((b:Int)-f)=(y:Int):=by rw [a6 (by omega)]; omega
     have Y:(l:Int).tdiv 8=(G:Int):=by rw [zak (by omega)]; omega
     have D:IntKind.i64.wrap (G:Int)=(G:Int):=a6 (by omega);have wm:IntKind.i64.wrap ((f:Int)+1)=((f+1:Nat):Int):=by rw [a6 (by omega)]; omega
     have dx:decide ((x:Int)>=(G:Int))=decide (x>=G):=by simp
     have dy:decide ((y:Int)>=(G:Int))=decide (y>=G):=by simp
     rw [h3,h7,hg] at j;clear o
     push_cast [bO,b6,a8,b5,wx,wy,Y,D,dx,dy,u,s,q,A,w,z,i,k,zab,zac,zaa]
     repeat refine sI ?_
     refine b9 (λ T=>?_) (λ T=>?_)
     ·have P:x<y:=by simpa using T
      rw [if_pos P] at j;have o:=ih (f-(C+1)) (by omega) M (C+1) f H (by omega) r1 (by omega) (by omega) (by omega) r4;rw [r3,X] at o;generalize h5:f+1=F at *
      push_cast [bO,b6,a8,b5,wx,wy,wm,Y,D,dx,dy,u,s,q,A,w,z,i,k,zab,zac,zaa]
      refine a7 o rfl (nh (by omega)) ?_
      push_cast [bO,b6,a8,b5,wx,wy,wm,Y,D,dx,dy,u,s,q,A,w,z,i,k,zab,zac,zaa]
      exact ⟨⟨F,b,H,decide (x>=G),ap,pdq ltInt M (C+1) f H true true,by omega,by omega,by omega,by omega,by omega,r7,by rw [B,j],(by first | rfl | exact ⟨rfl,rfl⟩ | exact ⟨rfl,rfl,rfl⟩)⟩,by omega⟩
     have P:¬x<y:=by simpa using T
     rw [if_neg P] at j;have o:=ih (b-(f+1)) (by omega) M (f+1) b H (by omega) (by omega) (by omega) (by omega) (by omega) r5;rw [r3,X] at o;generalize h5:f+1=F at *
     push_cast [bO,b6,a8,b5,wx,wy,wm,Y,D,dx,dy,u,s,q,A,w,z,i,k,zab,zac,zaa]
     refine a7 o rfl (nh (by omega)) ?_
     push_cast [bO,b6,a8,b5,wx,wy,wm,Y,D,dx,dy,u,s,q,A,w,z,i,k,zab,zac,zaa]
     exact ⟨⟨(C+1),f,H,decide (y>=G),ap,pdq ltInt M F b H true true,by omega,by omega,by omega,by omega,by omega,r9,by rw [B,j],(by first | rfl | exact ⟨rfl,rfl⟩ | exact ⟨rfl,rfl,rfl⟩)⟩,by omega⟩
    obtain rfl:a=0:=by omega
    have g0:decide (((0:Nat):Int)>0)=false:=by decide
    have hq:decide ((0:Int)>0)=false:=by decide
    have wk:True:=trivial;have I:¬(decide (0>0) && !ltInt J[0-1]! J[L]!)=true:=by simp
    push_cast [bO,b6,a8,b5,g0,hq,u,s,q,A,w,z,i,k,zab,zac,zaa]
    repeat refine sI ?_
    try push_cast [bO,b6,a8,b5,g0,wk,u,s,q,A,w,z,i,k,zab,zac,zaa]
    have o:=atq J 0 b L (by omega) (by omega) (by omega) (by omega) m;rw [h9,X] at o;obtain ⟨f,ap,M,hx⟩:∃f ap M,partition ltInt J 0 b L=(f,ap,M):=⟨_,_,_,rfl⟩
    obtain ⟨r1,r2,r3,r4,r5,r6,r7,r8,r9⟩:=R.parts S (by omega) hB hx;rw [hx] at o j;simp only at o;refine a7 o rfl (nh (by omega)) ?_;rw [if_neg (by exact I)] at j;simp only [dif_pos (show 0<=f/\f<b from ⟨r1,r2⟩)] at j;obtain ⟨G,h3⟩:∃G,(b-0)/8=G:=⟨_,rfl⟩
    obtain ⟨x,h7⟩:∃x,f-0=x:=⟨_,rfl⟩
    obtain ⟨y,hg⟩:∃y,b-f=y:=⟨_,rfl⟩
    have wx:IntKind.i64.wrap ((f:Int)-0)=(x:Int):=by rw [a6 (by omega)]; omega
    have wy:IntKind.i64.wrap ((b:Int)-f)=(y:Int):=by rw [a6 (by omega)]; omega
    have Y:(l:Int).tdiv 8=(G:Int):=by rw [zak (by omega)]; omega
    have D:IntKind.i64.wrap (G:Int)=(G:Int):=a6 (by omega);have wm:IntKind.i64.wrap ((f:Int)+1)=((f+1:Nat):Int):=by rw [a6 (by omega)]; omega
    have dx:decide ((x:Int)>=(G:Int))=decide (x>=G):=by simp
    have dy:decide ((y:Int)>=(G:Int))=decide (y>=G):=by simp
    rw [h3,h7,hg] at j;clear o
    push_cast [bO,b6,a8,b5,wx,wy,Y,D,dx,dy,u,s,q,A,w,z,i,k,zab,zac,zaa]
    repeat refine sI ?_
    refine b9 (λ T=>?_) (λ T=>?_)
    ·have P:x<y:=by simpa using T
     rw [if_pos P] at j;have o:=ih (f-0) (by omega) M 0 f H (by omega) r1 (by omega) (by omega) (by omega) r4;rw [r3,X] at o;generalize h5:f+1=F at *
     push_cast [bO,b6,a8,b5,wx,wy,wm,Y,D,dx,dy,u,s,q,A,w,z,i,k,zab,zac,zaa]
     refine a7 o rfl (nh (by omega)) ?_
     push_cast [bO,b6,a8,b5,wx,wy,wm,Y,D,dx,dy,u,s,q,A,w,z,i,k,zab,zac,zaa]
     exact ⟨⟨F,b,H,decide (x>=G),ap,pdq ltInt M 0 f H true true,by omega,by omega,by omega,by omega,by omega,r7,by rw [B,j],(by first | rfl | exact ⟨rfl,rfl⟩ | exact ⟨rfl,rfl,rfl⟩)⟩,by omega⟩
    have P:¬x<y:=by simpa using T
    rw [if_neg P] at j;have o:=ih (b-(f+1)) (by omega) M (f+1) b H (by omega) (by omega) (by omega) (by omega) (by omega) r5;rw [r3,X] at o;generalize h5:f+1=F at *
    push_cast [bO,b6,a8,b5,wx,wy,wm,Y,D,dx,dy,u,s,q,A,w,z,i,k,zab,zac,zaa]
    refine a7 o rfl (nh (by omega)) ?_
    push_cast [bO,b6,a8,b5,wx,wy,wm,Y,D,dx,dy,u,s,q,A,w,z,i,k,zab,zac,zaa]
    exact ⟨⟨0,f,H,decide (y>=G),ap,pdq ltInt M F b H true true,by omega,by omega,by omega,by omega,by omega,r9,by rw [B,j],(by first | rfl | exact ⟨rfl,rfl⟩ | exact ⟨rfl,rfl,rfl⟩)⟩,by omega⟩
   ·rw [hG] at Q;have o:=azz d2 a b (by omega) (by omega) (by omega) m;rw [hs,X] at o
    push_cast [bO,b6,a8,b5,u,s,q,A,w,z,i,k,V,zab,zac,zaa]
    rw [if_pos Q] at q6;rw [q6] at o;refine a7 o rfl (nh (by omega)) ?_
    push_cast [bO,b6,a8,b5,u,s,q,A,w,z,i,k,V,zab,zac,zaa]
    refine b9 (λ ha=>?_) (λ ha=>?_)
    ·rw [Q,ha] at j;simp only [Bool.and_self,if_true] at j
     push_cast [bO,b6,a8,b5,zab,zac,zaa]
     rw [B,j]
    push_cast [bO,b6,a8,b5,agk,u,s,q,A,w,z,i,k,V,zab,zac,zaa]
    rw [ha]; simp
   rw [hG] at Q;rw [if_neg (by simp [Q])] at q6;subst q6
   push_cast [bO,b6,a8,b5,u,s,q,A,w,z,i,k,V,zab,zac,zaa]
   rw [Q]; simp
  ·have hd:h=.decreasing:=by cases h<;>simp [agy] at hf |-
   subst hd;have o:=a4v W a b (by omega) (by omega) (by omega) (by omega) m;rw [h2] at o;have hm:IntKind.i64.wrap ((b:Int)-1)=(b:Int)-1:=a6 (by omega);have hr:IntKind.i64.wrap ((c:Int)-a)=(c:Int)-a:=a6 (by omega);have ho:IntKind.i64.wrap ((b:Int)-1-((c:Int)-a))=(((b-1)-(c-a):Nat):Int):=by rw [a6 (by omega)]; omega
   generalize g1:(b-1)-(c-a)=L at *
   push_cast [bO,b6,a8,b5,u,s,q,A,w,z,i,zab,zac,zaa]
   refine a7 o rfl (nh (Go.Sort.reverseRange_holds W a b (by omega) (by omega)).1) ?_
   push_cast [bO,b6,a8,b5,hm,hr,ho,u,s,q,A,w,z,i,zab,zac,zaa]
   refine ⟨_,_,_,rfl,rfl,rfl,?_⟩;simp only [agk];exact ⟨trivial,rfl,trivial⟩
  have hd:h≠.decreasing:=by rintro rfl; simp [agy] at hf
  push_cast [bO,b6,a8,b5,u,s,q,A,w,z,i,zab,zac,zaa]
  refine ⟨_,_,_,rfl,rfl,rfl,?_⟩;rw [if_neg hd,if_neg hd,if_neg hd];simp only [agk,and_self]
 ·have h4:K=false:=by simpa using h6
  subst h4;have wl:IntKind.i64.wrap ((g:Int)-1)=((g-1:Nat):Int):=by rw [a6 (by omega)]; omega
  push_cast [bO,b6,a8,b5,zab,zac,zaa]
  have o:=a05 e a b (by omega) (by omega) (by omega) m;rw [X] at o;have h2:=(Go.Sort.breakPatterns_holds e a b O (by omega)).1;refine a7 o rfl (nh h2) ?_;generalize hp:g-1=H at *
  push_cast [bO,b6,a8,b5,wl,zab,zac,zaa]
  refine ⟨_,_,rfl,rfl,?_⟩;simp only [agk,and_self]
  first | done | simpa using hp
 have h4:K=true:=by simpa using h6
 subst h4
 push_cast [bO,b6,a8,b5,zab,zac,zaa]
 refine ⟨_,_,rfl,rfl,?_⟩;exact ⟨rfl,rfl⟩

open Go.Sort (swp ltInt bitsLen pdq sort Below)
def aj:Mk P0 f29:={ x:=_ }
theorem a41 (m:Nat):∀N,axi m N:=by
 intro N
 induction N using Nat.strongRecOn with
 | _ N ih=>exact av7 m N ih
def xf (a:List Int):List Int:=a.mergeSort (λ x y=>decide (x<=y))
def s7 (a:List Int):List RV:=a.map λ n=>RV.v (.int .u64 n)
def o5 (a:List Int):Ob:=.row 1 (.v (.int .u64 0)) true true (s7 a)
theorem ahy (a:List Int):(xf a).length=a.length:=List.length_mergeSort ..
theorem aob (a:List Int) (m:Nat):em (a.map λ n=>Value.int .u64 n) m=bc a.toArray m:=by
 simp [em,bc,bu,Function.comp_def]
theorem p9 (a:List Int):(s7 a).length=a.length:=by simp [s7]
theorem ayp (d:Array Int) (b:d.size<128) (m:Nat):a9 P0 29 [.own 1000000 0 0 d.size] [bO d m] (.tup []) [bO (sort ltInt d) m]:=by
 refine aj.t func29 ?_;have c:bitsLen d.size<=7:=(Go.Sort.bitsLen_le_iff d.size 7).2 (by omega);have w:IntKind.u64.wrap (d.size:Int)=d.size:=te (by omega)
 push_cast [aj,bO,b6,a8,b5,w,zae,zad,zab,zac,zaa]
 refine a7 (aoc d.size (by omega)) rfl trivial ?_
 push_cast [bO,b6,a8,b5,w,zae,zad,zab,zac,zaa]
 have a:=a41 m d.size d 0 d.size (bitsLen d.size) (by omega) (by omega) (by omega) b (by omega) (.inl rfl);refine a7 a rfl (nh (Go.Sort.pdq_sorts ltInt Go.Sort.swo_ltInt d 0 d.size _ true true (by omega) (by omega) (.inl rfl)).1.1) ?_
 push_cast [bO,b6,a8,b5,w,zae,zad,zab,zac,zaa]
 rfl
def vu (a:List Int):List Value:=a.map λ n=>Value.int .u64 n
theorem asg (a:List Int):(vu a).length=a.length:=by simp [vu]
theorem asf (a:List Int):(vu a).map RV.v=s7 a:=by simp [vu,s7,Function.comp_def]
theorem a10 (a:List Int) (b:a.length<128) (m:Nat):a9 P0 29 [.own 1000000 0 0 a.length] [.box (em (vu a) m)] (.tup []) [.box (em (vu (xf a)) m)]:=by
 have:=ayp a.toArray (by simpa using b) m;unfold vu;rw [aob,aob]
 have e:(xf a).toArray=sort ltInt a.toArray:=by
  have:=Go.Sort.sortInt a;unfold xf;rw [<- this]
 rw [e];simpa [bO] using this
theorem a4r (b a:List Int) (h:a.length=b.length) (m:Nat):k7 [.box (em (vu b) m)] [.box (em (vu a) m)]:=⟨by simp [em,asg,h],trivial⟩
theorem afr (xs:List Value) (m:Nat):o4 (em xs m)=[]:=afs _ λ x hx=>by
 rcases zaj.1 hx with hx | hx
 ·obtain ⟨n,_,rfl⟩:=zaf.1 hx
  rfl
 rw [(List.mem_replicate.1 hx).2]; rfl
theorem anp (F:Ren) (xs:List Value) (m:Nat):imL F (em xs m)=em xs m:=ol F _ (afr xs m)
theorem a0d:a9 P0 81 [.r (.sl 1 []),int .i64 0,int .i64 0] [] (.tup []) []:=by
 refine v7.t func81 ?_;have g:decide (IntKind.i64.wrap (0+1)<0)=false:=by decide
 simp only [v7,push_cast,↓reduceIte,reduceCtorEq,zB,zE,zA,zS,zL,zD,zM];refine c7 [(6,false),(2,false)] (λ vs pos a=>vs=[int .i64 (IntKind.i64.wrap (0+1)),int .i64 0]/\pos=[]/\a=[]) (λ _ _ _=>0) rfl ?_ ?_
 ·simp only [push_cast,↓reduceIte,reduceCtorEq,zB,zE,zA,zS,zL,zD,zM]
 rintro vs pos a ⟨rfl,rfl,rfl⟩;simp only [g,push_cast,↓reduceIte,reduceCtorEq,zB,zE,zA,zS,zL,zD,zM]
theorem az0:a9 P0 51 [.r (.sl 1 []),int .i64 0,int .i64 0,int .i64 0] [] (.tup []) []:=by
 refine aa.t func51 ?_;have g:decide ((0:Int)<=12)=true:=by decide
 have w:IntKind.i64.wrap (0-0)=0:=rfl;simp only [aa,push_cast,↓reduceIte,reduceCtorEq,zB,zE,zA,zS,zL,zD,zM];refine c7 [(8,false),(9,false),(0,false),(1,false),(2,false),(3,false)] (λ vs pos a=>vs=[bl true,bl true,.r (.sl 1 []),int .i64 0,int .i64 0,int .i64 0]/\pos=[]/\a=[]) (λ _ _ _=>0) rfl ?_ ?_
 ·simp only [push_cast,↓reduceIte,reduceCtorEq,zB,zE,zA,zS,zL,zD,zM]
 rintro vs pos a ⟨rfl,rfl,rfl⟩;simp only [w,g,push_cast,↓reduceIte,reduceCtorEq,zB,zE,zA,zS,zL,zD,zM];refine a7 a0d rfl trivial ?_;simp only [push_cast,↓reduceIte,reduceCtorEq,zB,zE,zA,zS,zL,zD,zM]
theorem avf:a9 P0 29 [.r (.sl 1 [])] [] (.tup []) []:=by
 refine aj.t func29 ?_
 push_cast [aj,zae,zad]
 refine a7 (aoc 0 (by decide)) rfl trivial ?_
 push_cast
 refine a7 az0 rfl trivial ?_
 push_cast

def y9:Mk P0 f13:={ x:=_ }
theorem nz:ng 13 2 y9:=fg func13
def kI (e:MapEntry):Int:=match e.key with | .int _ n=>n | _=>0
def gt (es:List MapEntry) (c:Nat):Prop:=(∀e∈es,e.key=.int .u64 (kI e))/\(es.map (·.born)).Nodup/\∀e∈es,e.born<c
theorem a0y {f:Nat->Nat} {es:List MapEntry} {c:Nat} (h:CM f es c):gt es c:=by
 obtain ⟨i,b,k,j⟩:=h.ex;refine ⟨λ e g=>?_,b.nd,b.lt⟩;have:(e.key,e.val)∈i.map cnE:=by rw [<- b.kv]; exact zaf.2 ⟨e,g,rfl⟩
 obtain ⟨a,_,d⟩:=zaf.1 this;simp only [ent,Prod.mk.injEq] at d;simp [kI,<- d.1]
variable {seen:List Nat}
theorem akq {es:List MapEntry} {e:MapEntry} (a:e∈ca es seen):(ca es (seen++[e.born])).length<(ca es seen).length:=by
 have b:ca es (seen++[e.born])=(ca es seen).filter λ x=>!(x.born == e.born):=by
  unfold ca;rw [List.filter_filter];apply List.filter_congr;intro x _;simp only [List.contains_eq_mem,zaj,List.mem_singleton,Bool.decide_or,Bool.not_or,Bool.and_comm];by_cases hx:x.born=e.born<;>simp [hx]
 rw [b]
 have:((ca es seen).filter λ x=>!(x.born == e.born)).length<(ca es seen).length:=by
  rw [List.length_filter_lt_length_iff_exists];exact ⟨e,a,by simp⟩
 exact this
structure Vis (es V:List MapEntry) (seen:List Nat):Prop where
 s:seen=V.map (·.born)
 sub:∀e∈V,e∈es
 nd:seen.Nodup
 b:V.length+(ca es seen).length<=es.length
theorem ayf (es:List MapEntry):Vis es [] []:=⟨rfl,by simp,by simp,by simp only [zad,zaa]; exact List.length_filter_le ..⟩
variable {V:List MapEntry}
theorem Vis.add {es:List MapEntry} (h:Vis es V seen) {e:MapEntry} (c:e∈ca es seen):Vis es (V++[e]) (seen++[e.born]):=by
 obtain ⟨i,f⟩:=List.mem_filter.1 c;refine ⟨by rw [h.s]; simp,λ x hx=>?_,?_,by have:=h.b; have:=akq c; simp only [List.length_append,List.length_singleton]; omega⟩
 ·rcases zaj.1 hx with hx | hx
  ·exact h.sub x hx
  simp at hx; subst hx; exact i
 rw [List.nodup_append];refine ⟨h.nd,by simp,λ a g b d=>?_⟩;simp at d;subst d;rintro rfl;simp at f;exact f g
theorem Vis.all {es:List MapEntry} (h:Vis es V seen) (d:(es.map (·.born)).Nodup) (m:ca es seen=[]):V.Perm es:=by
 have l:V.Nodup:=by
  have:=h.nd;rw [h.s] at this;exact (List.pairwise_map.1 this).imp λ {a b} c e=>c (by rw [e])
 have n:es.Nodup:=(List.pairwise_map.1 d).imp λ {a b} c e=>c (by rw [e]);refine (List.perm_ext_iff_of_nodup l n).2 λ x=>⟨h.sub x,λ hx=>?_⟩
 have:¬x∈ca es seen:=by rw [m]; simp
 unfold ca at this;rw [List.mem_filter,h.s] at this;simp only [hx,true_and,Bool.not_eq_true',List.contains_eq_mem,decide_eq_false_iff_not,Classical.not_not,zaf] at this;obtain ⟨y,hy,e⟩:=this;have f:=h.sub y hy;obtain ⟨i,k⟩:=zam hx;obtain ⟨j,g⟩:=zam f;have:=adv d (i:=i) (j:=j) (x:=x.born) (by simp [k]) (by simp [g,e]);subst this;rw [k] at g;cases g;exact hy
theorem alp {es:List MapEntry} (a:(es.map (·.born)).Nodup) {e:MapEntry} (c:e∈es) (seen:List Nat):an1 es (seen++[e.born])=some e:=by
 unfold an1;simp only [List.getLast?_append,List.getLast?_singleton,Option.some_or];cases hf:es.find? λ x=>x.born == e.born with
 | none=>
   have:=List.find?_eq_none.1 hf e c;simp at this
 | some y=>
   have hy:=List.mem_of_find?_eq_some hf;have f:=List.find?_some hf;simp at f;obtain ⟨i,d⟩:=zam c;obtain ⟨j,b⟩:=zam hy;have:=adv a (i:=i) (j:=j) (x:=e.born) (by simp [d]) (by simp [b,f]);subst this;rw [d] at b;exact b.symm
theorem ae8 {a b:List Int} (h:a.Perm b):xf a=xf b:=by
 have d:(xf a).Perm (xf b):=((zap a _).trans h).trans (zap b _).symm;have tr:∀x y z:Int,decide (x<=y)=true->decide (y<=z)=true->decide (x<=z)=true:=by simp; omega
 have c:∀x y:Int,(decide (x<=y)||decide (y<=x))=true:=by simp; omega
 have f:=List.pairwise_mergeSort tr c a;have e:=List.pairwise_mergeSort tr c b;refine List.Perm.eq_of_pairwise (le:=λ x y=>decide (x<=y)=true) (λ x y _ _ d g=>by simp at d g; omega) f e d
theorem a03 {args:List AV} {po:List Ob} {D:AV->List Ob->Prop} (b:args.length=2) (a:po.length<=1000)
 (h:run P0 po.length (ais po.length [(4,false,none)] D) [.c y9.1.2] ⟨kp 0 args,ob0 po⟩):ag6 P0 13 args po D:=
 ae1 (fn:=f13) (c:=(f13.body).getD .skip) (pc:=y9.1.2) (rs:=[(4,false,none)]) func13 rfl (by decide) (by kernel_rfl) (by rw [b]; decide) rfl (by kernel_rfl) (by kernel_rfl) (by decide) a (aoi h)
theorem ayl (V:List MapEntry) (x:Int):List.take V.length (s7 (V.map kI))++[RV.v (.int .u64 x)]=s7 (V.map kI++[x]):=by
 rw [List.take_of_length_le (by simp [s7])];simp [s7]
section
variable {es:List MapEntry} {c:Nat} {ns:List (List Ky)} {ce:Nat->List MapEntry} {cc:Nat->Nat}
theorem ars {r:Nat} (H:r<13) {E:List MapEntry} {C:Nat} (l:ce r=E) (o:cc r=C) (h:gt E C) (I:E.length<128) (q:E≠[]) :
 ag6 P0 13 [.ptr 1000000 0 0,int .i64 r] (d9 es c ns ce cc) λ v os=>∃m,v=.own 1000016 0 0 E.length/\os=d9 es c ns ce cc++[.box (em (vu (xf (E.map kI))) m)]:=by
 refine a03 rfl (by simp [d9]) ?_;have B:decide ((r:Int)<0)=false:=by simp
 have G:decide ((r:Int)>=13)=false:=by simp; omega
 obtain ⟨K,w⟩:∃K,xf (E.map kI)=K:=⟨_,rfl⟩
 rw [w];obtain ⟨M,n⟩:∃M,1000003+r=M:=⟨_,rfl⟩
 push_cast [y9,d9,B,G,zae,zad]
 rcases (show r=0\/r=1\/r=2\/r=3\/r=4\/r=5\/r=6\/r=7\/r=8\/r=9\/r=10\/r=11\/r=12 by omega) with rfl | rfl | rfl | rfl | rfl | rfl | rfl | rfl | rfl | rfl | rfl | rfl | rfl<;>(
  simp only [Nat.reduceAdd] at n
  push_cast [l,o,Int.toNat_zero,Int.reduceToNat]
  repeat refine sI ?_
  refine c7 [(5,false),(19,false)] (λ vs pos e=>∃(V:List MapEntry) (seen:List Nat),Vis E V seen/\pos=d9 es c ns ce cc/\∃k,C<=k /\
   (V=[]/\vs=[.nils 1 (.v (.int .u64 0)),.ptr 2000000 0 0]/\e=[.iter (.mp M 0) C seen k] \/
    V≠[]/\vs=[.own 2000000 0 0 V.length,.ptr 2000001 0 0]/\e=[o5 (V.map kI),.iter (.mp M 0) C seen k]))
   (λ _ _ e=>match e with | [.iter _ _ seen _]=>(ca E seen).length | [_,.iter _ _ seen _]=>(ca E seen).length | _=>0) rfl ?_ ?_
  ·push_cast [d9,l,o,<- n]
   exact ⟨[],[],ayf _,C,zah _,by simp⟩
  rintro vs pos e ⟨V,seen,f,rfl,k,j,⟨y,rfl,rfl⟩ | ⟨y,rfl,rfl⟩⟩
  ·subst y
   push_cast [d9,l,o,<- n]
   have F:seen=[]:=f.s;refine am3 h.2.2 j (λ i=>?_) (λ d a=>?_)
   ·exfalso;rw [F] at i;unfold ca at i;simp at i;exact q (List.eq_nil_iff_forall_not_mem.2 λ x hx=>by simpa using i x hx)
   have z:d.key=.int .u64 (kI d):=h.1 d ((f.add a).sub d (by simp));have u:=alp h.2.1 ((f.add a).sub d (by simp)) seen
   push_cast [z,u,zp,Option.isSome_some]
   repeat refine sI ?_
   exact ⟨⟨[d],_,f.add a,C,zah _,.inr ⟨by simp,rfl,rfl⟩⟩,akq a⟩
  push_cast [d9,l,o,<- n]
  refine am3 h.2.2 j (λ i=>?_) (λ d a=>?_)
  ·push_cast [o5,s7]
   have A:=f.all h.2.1 i;have g:=A.length_eq;refine auz 2000000 0 (.v (.int .u64 0)) (vu (V.map kI)) (by rw [asf]; rfl) (by simpa [vu] using y) (λ m=>?_);rw [show List.map (λ x=>AV.r (RV.v x)) (vu (V.map kI))++List.replicate m AV.undef=em (vu (V.map kI)) m from rfl];have p:=a10 (V.map kI) (by simp; omega) m;rw [ae8 (A.map kI),w] at p;simp only [zai] at p
   push_cast [o5,s7,afr,anp]
   refine a7 p rfl (a4r _ _ (by rw [<- w,ahy,zai,zai,g]) m) ?_
   push_cast [o5,s7,afr,anp,g]
   exact ⟨m,by simp⟩
  have z:d.key=.int .u64 (kI d):=h.1 d ((f.add a).sub d (by simp));have u:=alp h.2.1 ((f.add a).sub d (by simp)) seen;have t:=(f.add a).b;simp only [List.length_append,List.length_singleton] at t;have D:=o9
  push_cast [z,u,zp,Option.isSome_some,o5,ayl]
  repeat refine sI ?_
  exact ⟨⟨V++[d],_,f.add a,C,zah _,.inr ⟨by simp,by simp,by simp [s7]⟩⟩,akq a⟩)
theorem art {r:Nat} (i:r<13) (f:ce r=[]) :
 a9 P0 13 [.ptr 1000000 0 0,int .i64 r] (d9 es c ns ce cc) (.nils 1 (.v (.int .u64 0))) (d9 es c ns ce cc):=by
 refine nz rfl (by simp [d9]) ?_;have g:decide ((r:Int)<0)=false:=by simp
 have h:decide ((r:Int)>=13)=false:=by simp; omega
 obtain ⟨M,e⟩:∃M,1000003+r=M:=⟨_,rfl⟩
 obtain ⟨C,d⟩:∃C,cc r=C:=⟨_,rfl⟩
 push_cast [y9,d9,g,h,zae,zad]
 rcases (show r=0\/r=1\/r=2\/r=3\/r=4\/r=5\/r=6\/r=7\/r=8\/r=9\/r=10\/r=11\/r=12 by omega) with rfl | rfl | rfl | rfl | rfl | rfl | rfl | rfl | rfl | rfl | rfl | rfl | rfl<;>(
  simp only [Nat.reduceAdd] at e
  push_cast [f,d,Int.toNat_zero,Int.reduceToNat]
  repeat refine sI ?_
  refine c7 [(5,false),(19,false)] (λ vs pos a=>vs=[.nils 1 (.v (.int .u64 0)),.ptr 2000000 0 0]/\pos=d9 es c ns ce cc/\a=[.iter (.mp M 0) C [] C])
   (λ _ _ _=>0) rfl ?_ ?_
  ·push_cast [d9,f,d,<- e]
  rintro vs pos a ⟨rfl,rfl,rfl⟩
  push_cast [d9,f,d,<- e]
  refine am3 (by simp) (zah _) (λ k=>?_) (λ j b=>?_)
  ·push_cast
   refine a7 avf rfl trivial ?_
   push_cast
  simp [ca] at b)
end

def dd:List Nat->List Nat
 | []=>[]
 | a::l=>if a∈dd l then dd l else a::dd l
theorem ajx {w:Nat}:∀{l:List Nat},w∈dd l↔w∈l
 | []=>by simp [dd]
 | a::l=>by
   rw [dd];split
   ·rename_i h;rw [ajx,zan];constructor
    ·exact .inr
    rintro (rfl | h2)
    ·exact ajx.1 h
    exact h2
   rw [zan,zan,ajx]
theorem tb:∀(l:List Nat),(dd l).Nodup
 | []=>by simp [dd]
 | a::l=>by
   rw [dd];split
   ·exact tb l
   rename_i h;exact List.nodup_cons.2 ⟨h,tb l⟩
theorem aup:∀(l:List Nat),(dd l).length<=l.length
 | []=>by simp [dd]
 | a::l=>by
   have:=aup l;rw [dd];split<;>simp<;>omega
def ua (L:List Pt) (r:Nat):List Nat:=dd (L.map (·.w r))
variable {r w:Nat}
theorem tz {L:List Pt}:w∈ua L r↔∃p∈L,p.w r=w:=by unfold ua; rw [ajx,zaf]
def asI (a:List Nat):List Int:=a.map λ n:Nat=>(n:Int)
def l6 (L:List Pt) (r:Nat):List Int:=xf (asI (ua L r))
theorem an6 {L:List Pt} {es:List MapEntry} {c:Nat} (h:CM (cnt L r) es c):(es.map kI).Perm (asI (ua L r)):=by
 obtain ⟨g,i,j,d⟩:=h.ex
 have e:es.map kI=asI (g.map (·.1)):=by
  have:=congrArg (List.map λ q:Value×Value=>match q.1 with | .int _ n=>n | _=>(0:Int)) i.kv;simp only [List.map_map,Function.comp_def,ent] at this;unfold asI;rw [List.map_map];exact this
 rw [e];refine List.Perm.map _ ((List.perm_ext_iff_of_nodup j (tb _)).2 λ w=>?_);rw [show dd (L.map (·.w r))=ua L r from rfl,tz,zaf];constructor
 ·rintro ⟨a,f,rfl⟩;have:=((d a.1 a.2).1 f).2;unfold cnt at this;rw [List.countP_pos_iff] at this;obtain ⟨p,b,e⟩:=this;exact ⟨p,b,by simpa using e⟩
 rintro ⟨p,b,rfl⟩;refine ⟨(p.w r,_),(d _ _).2 ⟨rfl,?_⟩,rfl⟩;unfold cnt;rw [List.countP_pos_iff];exact ⟨p,b,by simp⟩
theorem vh (L:List Pt) (r:Nat):(l6 L r).length<=L.length:=by
 unfold l6 asI;rw [ahy,zai];exact Nat.le_trans (aup _) (by simp)
theorem a33 {L:List Pt} {es:List MapEntry} {c:Nat} (h:CM (cnt L r) es c):es.length=(l6 L r).length:=by
 have:=(an6 h).length_eq;unfold l6;rw [ahy,<- this,zai]
section
variable {L:List Pt} {es:List MapEntry} {c:Nat} {ns:List (List Ky)} {ce:Nat->List MapEntry} {cc:Nat->Nat}
theorem an9 (h:StL L es c ns ce cc) (m:L.length<128) (r:Nat) (g:r<13) :
 a9 P0 13 [.ptr 1000000 0 0,int .i64 r] (d9 es c ns ce cc) (.own 1000016 0 0 (l6 L r).length) (d9 es c ns ce cc++[o5 (l6 L r)]):=by
 have e:=h.cm r g;have j:=a0y e;have b:=a33 e;have k:=vh L r;have f:xf ((ce r).map kI)=l6 L r:=ae8 (an6 e);have i:∀o∈d9 es c ns ce cc,imO (uz 16) o=o:=(SF L).shut ⟨es,c,ns,ce,cc,h,rfl⟩;by_cases d:ce r=[]
 ·have l:l6 L r=[]:=List.length_eq_zero_iff.1 (by rw [<- b,d]; rfl);rw [l];have a:=art (es:=es) (c:=c) (ns:=ns) (cc:=cc) g d;exact agt (os:=d9 es c ns ce cc) (by simp [d9]) i a
 have a:=ars (es:=es) (c:=c) (ns:=ns) g rfl rfl j (by omega) d;rw [f,b] at a
 have:=a4m (os:=d9 es c ns ce cc) (ys:=vu (l6 L r)) (z:=.v (.int .u64 0)) (asg _) (by simp [d9]) i (λ y hy=>by
  obtain ⟨n,_,rfl⟩:=zaf.1 hy
  rfl) a
 rw [asf] at this;exact this
end
theorem a02 (L:List Pt) (d:L.length<128) (r:Nat) (b:r<13):a9 P0 13 [.ptr 1000000 0 0,int .i64 r] [.abs (sT L)] (.own 1000001 0 0 (l6 L r).length) [.abs (sT L),o5 (l6 L r)]:=
 acb (F:=SF L) (F':=SF L) rfl (ex:=[o5 (l6 L r)]) (λ os h=>by
  obtain ⟨es,c,ns,ce,cc,h,rfl⟩:=h;exact ⟨_,⟨_,_,_,_,_,h,rfl⟩,an9 h d r b⟩) rfl (by
  intro o a;simp at a;subst a;intro x hx;obtain ⟨n,_,rfl⟩:=zaf.1 hx
  trivial) (by simp [u7])


theorem au3 {d:List Nat} (h:d.Nodup):(asI d).Nodup:=List.pairwise_map.2 (h.imp λ {a b} c e=>c (by omega))
theorem af9 (L:List Pt) (r:Nat):(l6 L r).Nodup:=(zap _ _).nodup_iff.2 (au3 (tb _))
theorem aap {L:List Pt} {n:Int}:n∈l6 L r↔∃p∈L,((p.w r:Nat):Int)=n:=by
 unfold l6 xf asI;rw [List.mem_mergeSort,zaf];constructor
 ·rintro ⟨w,b,rfl⟩;obtain ⟨p,a,e⟩:=tz.1 b;exact ⟨p,a,by rw [e]⟩
 rintro ⟨p,a,rfl⟩;exact ⟨p.w r,tz.2 ⟨p,a,rfl⟩,rfl⟩
theorem az6 {L:List Pt} (b:∀p∈L,p.ok) (c:r<13) (f:∃p∈L,p.w r=w):mem L w=L.filter λ p=>((p.w r:Nat):Int) == (w:Int):=by
 obtain ⟨q,g,e⟩:=f;have a:=(Pt.w_res (b q g) c).2.1;rw [e] at a;unfold mem;apply List.filter_congr;intro p d;rw [ad5 (b p d) c a];rw [Bool.eq_iff_iff];simp;omega

abbrev Wt:=Int×Int
def lsW (a b:Wt):Bool:=if a.2≠b.2 then decide (a.2>b.2) else decide (a.1<b.1)
theorem at5 (a b:Wt):lsW a b=true↔(b.2<a.2\/(a.2=b.2/\a.1<b.1)):=by
 unfold lsW;split<;>rw [decide_eq_true_iff]<;>omega
theorem ad1 (a b:Wt):lsW a b=false↔(a.2<b.2\/(a.2=b.2/\b.1<=a.1)):=by
 rw [<- Bool.not_eq_true,at5];omega
theorem ad0 {a b c:Wt} (d:lsW b a=false) (e:lsW c b=false):lsW c a=false:=by
 rw [ad1] at *;omega
theorem agw {a b:Wt} (h:lsW a b=true):lsW b a=false:=by
 rw [ad1]; rw [at5] at h;omega
theorem a25 {a b c:Wt} (d:lsW a b=true) (e:lsW c b=false):lsW c a=false:=ad0 (agw d) e
def gW (l:List Wt) (i:Nat):Wt:=l.getD i (0,0)
def swW (l:List Wt) (i j:Nat):List Wt:=(l.set i (gW l j)).set j (gW l i)
variable {l:List Wt}
theorem nr (h:i<l.length):gW l i=l[i]:=by
 unfold gW;rw [zag,List.getElem?_eq_getElem h]
 rfl
theorem ag (l:List Wt) (i j:Nat):(swW l i j).length=l.length:=by simp [swW]
theorem abq (c:i<l.length) (d:j<l.length) (k:Nat):gW (swW l i j) k=if k=j then gW l i else if k=i then gW l j else gW l k:=by
 unfold gW swW;rw [zag,List.getElem?_set,List.getElem?_set,List.length_set];by_cases a:j=k
 ·subst a;rw [if_pos rfl,if_pos d,if_pos rfl]
  rfl
 rw [if_neg a,if_neg (Ne.symm a)];by_cases b:i=k
 ·subst b;rw [if_pos rfl,if_pos c,if_pos rfl]
  rfl
 rw [if_neg b,if_neg (Ne.symm b),zag]
theorem ahw (a:i<l.length) (b:j<l.length):(swW l i j).Perm l:=by
 have h:=Array.swap_perm (xs:=l.toArray) (i:=i) (j:=j) (by simpa using a) (by simpa using b);rw [Array.perm_iff_toList_perm] at h
 have e:(l.toArray.swap i j (by simpa using a) (by simpa using b)).toList=swW l i j:=by
  rw [Array.toList_swap];simp [swW,nr a,nr b]
 rw [e] at h;exact h
def Hp (l:List Wt) (n:Nat):Prop:=∀j,0<j->j<n->lsW (gW l j) (gW l ((j-1)/2))=false
variable {n:Nat}
theorem Hp.least (h:Hp l n):∀j,j<n->lsW (gW l j) (gW l 0)=false:=λ j=>by
 induction j using Nat.strongRecOn with
 | _ j ih=>
   intro a;by_cases b:j=0
   ·subst b;rw [ad1];omega
   exact ad0 (ih ((j-1)/2) (by omega) (by omega)) (h j (by omega) a)
def HpU (l:List Wt) (n j:Nat):Prop:=(∀k,0<k->k<n->k≠j->lsW (gW l k) (gW l ((k-1)/2))=false)/\∀c,0<c->c<n->(c-1)/2=j->0<j->lsW (gW l c) (gW l ((j-1)/2))=false
theorem HpU.done (h:HpU l n j) (a:j=0\/lsW (gW l j) (gW l ((j-1)/2))=false):Hp l n:=λ k c d=>by
 by_cases b:k=j
 ·subst b;rcases a with a | a
  ·omega
  exact a
 exact h.1 k c d b
theorem HpU.next (h:HpU l n j) (x:j<n) (y:n<=l.length) (u:0<j) (m:lsW (gW l j) (gW l ((j-1)/2))=true):HpU (swW l ((j-1)/2) j) n ((j-1)/2):=by
 obtain ⟨i,g⟩:∃i,(j-1)/2=i:=⟨_,rfl⟩
 rw [g] at m |-;have t:i<j:=by omega
 have e:=abq (l:=l) (i:=i) (j:=j) (by omega) (by omega);refine ⟨λ k p q w=>?_,λ c r v hc s=>?_⟩
 ·rw [e k,e ((k-1)/2)];by_cases b:k=j
  ·subst b;rw [if_pos rfl,g,if_neg (by omega),if_pos rfl];exact agw m
  rw [if_neg b,if_neg w];by_cases o:(k-1)/2=j
  ·rw [if_pos o,<- g];exact h.2 k p q o u
  rw [if_neg o];have a:=h.1 k p q b;by_cases f:(k-1)/2=i
  ·rw [if_pos f];rw [f] at a;exact a25 m a
  rw [if_neg f];exact a
 have d:=h.1 i s (by omega) (by omega);rw [e c,e ((i-1)/2),if_neg (show ¬(i-1)/2=j by omega),if_neg (show ¬(i-1)/2=i by omega)];by_cases b:c=j
 ·rw [if_pos b];exact d
 rw [if_neg b,if_neg (by omega)];have:=h.1 c r v b;rw [hc] at this;exact ad0 d this
def HpD (l:List Wt) (n i:Nat):Prop:=(∀k,0<k->k<n->(k-1)/2≠i->lsW (gW l k) (gW l ((k-1)/2))=false)/\∀c,0<c->c<n->(c-1)/2=i->0<i->lsW (gW l c) (gW l ((i-1)/2))=false
def chW (l:List Wt) (n i:Nat):Nat:=if 2*i+2<n/\lsW (gW l (2*i+2)) (gW l (2*i+1))=true then 2*i+2 else 2*i+1
theorem HpD.done (h:HpD l n i) (a:n<=2*i+1\/lsW (gW l (chW l n i)) (gW l i)=false):Hp l n:=λ k c d=>by
 by_cases b:(k-1)/2=i
 ·rcases a with a | a
  ·omega
  rw [b];unfold chW at a;rcases (show k=2*i+1\/k=2*i+2 by omega) with e | e
  ·split at a
   ·rename_i hc;rw [e];exact ad0 a (agw hc.2)
   rw [e]; exact a
  split at a
  ·rw [e]; exact a
  rename_i hc;rw [not_and,Bool.not_eq_true] at hc;rw [e];exact ad0 a (hc (by omega))
 exact h.1 k c d b
theorem rz (h:2*i+1<n):(chW l n i-1)/2=i/\i<chW l n i/\chW l n i<n/\∀k,0<k->k<n->(k-1)/2=i->lsW (gW l k) (gW l (chW l n i))=false:=by
 unfold chW;split
 ·rename_i hc;refine ⟨by omega,by omega,by omega,λ k a b c=>?_⟩;rcases (show k=2*i+1\/k=2*i+2 by omega) with e | e
  ·rw [e]; exact agw hc.2
  rw [e,ad1]; omega
 rename_i hc;rw [not_and,Bool.not_eq_true] at hc;refine ⟨by omega,by omega,by omega,λ k a b c=>?_⟩;rcases (show k=2*i+1\/k=2*i+2 by omega) with e | e
 ·rw [e,ad1]; omega
 rw [e]; exact hc (by omega)
theorem HpD.next (h:HpD l n i) (w:n<=l.length) (p:2*i+1<n) (q:lsW (gW l (chW l n i)) (gW l i)=true):HpD (swW l i (chW l n i)) n (chW l n i):=by
 obtain ⟨d,c2,s,r⟩:=rz (l:=l) p;generalize chW l n i=j at *;have b:=abq (l:=l) (i:=i) (j:=j) (by omega) (by omega);refine ⟨λ k e m u=>?_,λ c o t hc v=>?_⟩
 ·rw [b k,b ((k-1)/2)];by_cases g:k=j
  ·subst g;rw [if_pos rfl,d,if_neg (by omega),if_pos rfl];exact agw q
  rw [if_neg g,if_neg u];by_cases a:(k-1)/2=i
  ·rw [if_pos a,if_neg (by omega)];exact r k e m a
  rw [if_neg a];by_cases f:k=i
  ·subst f;rw [if_pos rfl];exact h.2 j (by omega) s d e
  rw [if_neg f];exact h.1 k e m a
 rw [b c,b ((j-1)/2),d,if_neg (by omega),if_neg (by omega),if_neg (show ¬i=j by omega),if_pos rfl];have:=h.1 c o t (by omega);rw [hc] at this;exact this

def upW (l:List Wt) (j:Nat):List Wt:=
 if h:j=0\/lsW (gW l j) (gW l ((j-1)/2))=false then l else upW (swW l ((j-1)/2) j) ((j-1)/2)
termination_by j
decreasing_by omega
def dnW (l:List Wt) (n i:Nat):List Wt:=
 if h:n<=2*i+1\/lsW (gW l (chW l n i)) (gW l i)=false then l else dnW (swW l i (chW l n i)) n (chW l n i)
termination_by n-i
decreasing_by
 have:=(rz (l:=l) (show 2*i+1<n by omega)).2.1;omega
theorem ao1 (l:List Wt) (j:Nat):(upW l j).length=l.length:=by
 induction l,j using upW.induct with
 | case1 l j h=>rw [upW,dif_pos h]
 | case2 l j h ih=>rw [upW,dif_neg h,ih,ag]
theorem adc (l:List Wt) (n i:Nat):(dnW l n i).length=l.length:=by
 induction l,i using dnW.induct (n:=n) with
 | case1 l i h=>rw [dnW,dif_pos h]
 | case2 l i h ih=>rw [dnW,dif_neg h,ih,ag]
theorem a1s:∀{n:Nat},j<n->n<=l.length->HpU l n j->Hp (upW l j) n/\(upW l j).Perm l:=by
 induction l,j using upW.induct with
 | case1 l j h=>
   intro n c a b;rw [upW,dif_pos h];exact ⟨b.done h,List.Perm.refl _⟩
 | case2 l j h ih=>
   intro n c a b;rw [upW,dif_neg h];rw [not_or,Bool.not_eq_false] at h;obtain ⟨d,e⟩:=ih (n:=n) (by omega) (by rw [ag]; exact a) (b.next c a (by omega) h.2);exact ⟨d,e.trans (ahw (by omega) (by omega))⟩
theorem a3r:n<=l.length->HpD l n i->Hp (dnW l n i) n/\(dnW l n i).Perm l:=by
 induction l,i using dnW.induct (n:=n) with
 | case1 l i h=>
   intro a b;rw [dnW,dif_pos h];exact ⟨b.done h,List.Perm.refl _⟩
 | case2 l i h ih=>
   intro a b;rw [dnW,dif_neg h];rw [not_or,Bool.not_eq_false] at h;obtain ⟨_,c2,e,_⟩:=rz (l:=l) (show 2*i+1<n by omega);obtain ⟨c,d⟩:=ih (by rw [ag]; exact a) (b.next a (by omega) h.2);exact ⟨c,d.trans (ahw (by omega) (by omega))⟩
variable {k:Nat}
theorem auk:n<=l.length->n<=k->gW (dnW l n i) k=gW l k:=by
 induction l,i using dnW.induct (n:=n) with
 | case1 l i h=>
   intro b a;rw [dnW,dif_pos h]
 | case2 l i h ih=>
   intro b a;rw [dnW,dif_neg h];rw [not_or] at h;obtain ⟨_,c2,c,_⟩:=rz (l:=l) (show 2*i+1<n by omega);rw [ih (by rw [ag]; exact b) a,abq (by omega) (by omega),if_neg (by omega),if_neg (by omega)]
variable {t:List Wt}
theorem jc (h:i<l.length):gW (l++t) i=gW l i:=by
 unfold gW;rw [zag,zag,List.getElem?_append_left h]
theorem ao6 (a:i<l.length) (b:j<l.length):swW (l++t) i j=swW l i j++t:=by
 unfold swW;rw [jc a,jc b,List.set_append_left _ _ a,List.set_append_left _ _ (by rw [List.length_set]; exact b)]
theorem aqk (a:n<=l.length) (h:2*i+1<n):chW (l++t) n i=chW l n i:=by
 unfold chW;by_cases b:2*i+2<n
 ·rw [jc (by omega),jc (by omega)]
 rw [if_neg (by omega),if_neg (by omega)]
theorem amu (h:Hp l l.length) (x:Wt):Hp (upW (l++[x]) l.length) (l.length+1)/\(upW (l++[x]) l.length).Perm (l++[x]):=by
 refine a1s (by omega) (by simp) ⟨λ k a e b=>?_,λ c g d hc f=>by omega⟩;rw [jc (by omega),jc (by omega)];exact h k a (by omega)
theorem av5 (q:l.length=n+1) (h:Hp l (n+1)):Hp (dnW (swW l 0 n) n 0) n/\(dnW (swW l 0 n) n 0).Perm l/\gW (dnW (swW l 0 n) n 0) n=gW l 0:=by
 have a:=abq (l:=l) (i:=0) (j:=n) (by omega) (by omega)
 obtain ⟨d,e⟩:=a3r (l:=swW l 0 n) (n:=n) (i:=0) (by rw [ag]; omega) ⟨λ k b m f=>by
  rw [a k,a ((k-1)/2),if_neg (by omega),if_neg (by omega),if_neg (by omega),if_neg (by omega)]
  exact h k b (by omega),λ c p g hc o=>by omega⟩
 refine ⟨d,e.trans (ahw (by omega) (by omega)),?_⟩;rw [auk (by rw [ag]; omega) (zah _),a,if_pos rfl]
theorem Hp.take (h:Hp l n) (d:n<=l.length):Hp (l.take n) n:=λ j c a=>by
 have e:∀i,i<n->gW (l.take n) i=gW l i:=λ i b=>by
  unfold gW;rw [zag,zag,List.getElem?_take,if_pos b]
 rw [e j a,e _ (by omega)];exact h j c a
def ki (l:List Wt):List Wt:=(dnW (swW l 0 (l.length-1)) (l.length-1) 0).take (l.length-1)
theorem apm (m:l≠[]) (h:Hp l l.length):Hp (ki l) (l.length-1)/\(ki l).length=l.length-1/\l.Perm (gW l 0::ki l)/\∀x∈ki l,lsW x (gW l 0)=false:=by
 have p:1<=l.length:=by cases l with
  | nil=>exact absurd rfl m
  | cons a r=>simp
 obtain ⟨f,o,k⟩:=av5 (l:=l) (n:=l.length-1) (by omega) (by rw [show l.length-1+1=l.length by omega]; exact h);have q:(dnW (swW l 0 (l.length-1)) (l.length-1) 0).length=l.length:=by rw [adc,ag]
 have c:l.Perm (gW l 0::ki l):=by
  refine o.symm.trans ?_;unfold ki;generalize dnW (swW l 0 (l.length-1)) (l.length-1) 0=d at *
  have e:d=d.take (l.length-1)++[gW l 0]:=by
   have g:d.drop (l.length-1)=[gW l 0]:=by
    rw [List.drop_eq_getElem_cons (show l.length-1<d.length by omega),List.drop_of_length_le (show d.length<=l.length-1+1 by omega),<- nr (by omega),k]
   rw [<- g,List.take_append_drop]
  rw [e];refine (List.perm_append_comm).trans ?_;rw [<- e];exact List.Perm.refl _
 refine ⟨f.take (by omega),by rw [ki,List.length_take]; omega,c,λ x hx=>?_⟩;have j:x∈l:=c.symm.subset (List.mem_cons_of_mem _ hx);obtain ⟨i,b,rfl⟩:=List.getElem_of_mem j;rw [<- nr b];exact h.least i b

def z8:Nat->List Wt->List Wt
 | 0,_=>[]
 | k+1,l=>if l=[] then [] else gW l 0::z8 k (ki l)
def ek:Nat->List Wt->List Wt
 | 0,l=>l
 | k+1,l=>if l=[] then [] else ek k (ki l)
theorem aka:∀(k:Nat) (l:List Wt),Hp l l.length->(z8 k l).length=min k l.length/\l.Perm (z8 k l++ek k l)/\(z8 k l).Pairwise (λ x y=>lsW y x=false)/\∀x∈z8 k l,∀y∈ek k l,lsW y x=false
 | 0,l,_=>⟨by simp [z8],by simp [z8,ek],by simp [z8],by simp [z8]⟩
 | k+1,l,h=>by
   by_cases b:l=[]
   ·subst b;simp [z8,ek]
   obtain ⟨e,p2,f,d⟩:=apm b h
   have m:1<=l.length:=by cases l with
    | nil=>exact absurd rfl b
    | cons a r=>simp
   obtain ⟨g,c,j,i⟩:=aka k (ki l) (by rw [p2]; exact e);rw [z8,ek,if_neg b,if_neg b];refine ⟨by rw [zae,g,p2]; omega,?_,List.pairwise_cons.2 ⟨λ y hy=>d y (c.symm.subset (zaq _ hy)),j⟩,λ x hx y hy=>?_⟩
   ·rw [List.cons_append];exact f.trans (c.cons _)
   rcases zan.1 hx with rfl | hx
   ·exact d y (c.symm.subset (List.mem_append_right _ hy))
   exact i x hx y hy

def kb (es:List MapEntry):List (Value×Nat):=es.map λ e=>(e.key,e.born)
variable {es':List MapEntry}
theorem agx {es:List MapEntry} (h:kb es=kb es'):es.map kI=es'.map kI:=by
 have e:∀l:List MapEntry,l.map kI=(kb l).map λ p=>match p.1 with | .int _ n=>n | _=>0:=λ l=>by
  unfold kb;rw [List.map_map];exact List.map_congr_left λ e _=>rfl
 rw [e,e,h]
theorem arl {es:List MapEntry} {c:Nat} (h:kb es'=kb es) (m:gt es c):gt es' c:=by
 obtain ⟨j,n,l⟩:=m
 have k:es'.map (·.born)=es.map (·.born):=by
  have:=congrArg (List.map Prod.snd) h;simpa [kb,Function.comp_def] using this
 have i:∀e∈es',∃f∈es,f.key=e.key/\f.born=e.born:=λ e d=>by
  have:(e.key,e.born)∈kb es:=by rw [<- h]; exact zaf.2 ⟨e,d,rfl⟩
  obtain ⟨f,b,a⟩:=zaf.1 this;simp only [Prod.mk.injEq] at a;exact ⟨f,b,a.1,a.2⟩
 refine ⟨λ e d=>?_,by rw [k]; exact n,λ e d=>?_⟩
 ·obtain ⟨f,b,a,_⟩:=i e d;have:=j f b;rw [a] at this;rw [this];have g:kI e=kI f:=by unfold kI; rw [a]
  rw [g]
 obtain ⟨f,b,_,g⟩:=i e d;rw [<- g];exact l f b
theorem adx {k:Int}:∀{es:List MapEntry} (i:Nat),(∀e∈es,e.key=.int .u64 (kI e))->k∈es.map kI->∃j v e,be (.int .u64 k) es i=some (some (i+j,v))/\es[j]?=some e/\e.key=.int .u64 k/\e.val=v
 | [],i,_,hk=>by simp at hk
 | e::es,i,h,hk=>by
   have c:=h e (by simp);have l:ni (.int .u64 k) e.key=some (k == kI e):=by rw [c]; simp [ni]
   rw [be,l];by_cases a:k=kI e
   ·refine ⟨0,e.val,e,?_,rfl,by rw [a]; exact c,rfl⟩;rw [beq_iff_eq.2 a]
    rfl
   rw [beq_eq_false_iff_ne.2 a];have b:k∈es.map kI:=(zan.1 hk).resolve_left a;obtain ⟨j,v,f,d,n,m,g⟩:=adx (i+1) (λ x hx=>h x (by simp [hx])) b;refine ⟨j+1,v,f,?_,by simpa using n,m,g⟩;show be (.int .u64 k) es (i+1) = _;rw [d,Nat.add_assoc,Nat.add_comm 1 j]
theorem to {k:Int}:∀{es:List MapEntry} (i:Nat),(∀e∈es,e.key=.int .u64 (kI e))->k∉es.map kI->be (.int .u64 k) es i=some none
 | [],i,_,_=>rfl
 | e::es,i,h,hk=>by
   have b:=h e (by simp);have a:k≠kI e:=λ q=>hk (by simp [q]);have c:ni (.int .u64 k) e.key=some false:=by rw [b]; simp [ni,a]
   rw [be,c];exact to (i+1) (λ x hx=>h x (by simp [hx])) λ q=>hk (by rw [List.map_cons]; exact List.mem_cons_of_mem _ q)
def af1 (es:List MapEntry) (c:Nat) (k:Int) (n:Int):List MapEntry:=ajg (aak es c (.int .u64 k) (.int .i64 0)) (aaj es c (.int .u64 k)) (.int .i64 n)
theorem ag3 {es:List MapEntry} {c:Nat} (h:gt es c) {k:Int} (p:k∈es.map kI) (n:Int) :
 kb (af1 es c k n)=kb es/\okK es (.int .u64 k)=true/\arj (aak es c (.int .u64 k) (.int .i64 0)) (aaj es c (.int .u64 k))=true/\ah es c (.int .u64 k)=c:=by
 obtain ⟨j,v,e,d,f,l,r⟩:=adx 0 h.1 p;rw [zaa] at d;have s:=(List.getElem?_eq_some_iff.1 f).1
 have i:aak es c (.int .u64 k) (.int .i64 0)=es:=by
  simp only [aak,d];refine List.ext_getElem? λ q=>?_;rw [List.getElem?_modify];by_cases b:j=q
  ·subst b;simp only [if_true,Option.map_eq_map,f,Option.map_some];rw [<- l]
  simp only [if_neg b,Option.map_eq_map];cases es[q]? <;> rfl
 have g:aaj es c (.int .u64 k)=e.born:=by
  simp only [aaj,d,f]
  rfl
 have m:∃q,es.findIdx? (λ x=>(x.born:Int) == (e.born:Int))=some q:=by
  cases b:es.findIdx? (λ x=>(x.born:Int) == (e.born:Int)) with
  | some q=>exact ⟨q,rfl⟩
  | none=>
    have:=List.findIdx?_eq_none_iff.1 b e (List.mem_of_getElem? f);simp at this
 obtain ⟨q,b⟩:=m;refine ⟨?_,by simp [okK,d],by rw [i,g]; simp [arj,b],by simp [ah,d]⟩;unfold af1;rw [i,g];simp only [ajg,b];unfold kb;refine List.ext_getElem? λ z=>?_;rw [List.getElem?_map,List.getElem?_map,List.getElem?_modify];cases es[z]? with
 | none=>rfl
 | some a=>by_cases o:q=z<;>simp [o]

def zh:Mk P0 f178:={ x:=_ }
def zt:Mk P0 f174:={ x:=_ }
theorem acv:ng 174 3 zt:=fg func174
def zr:Mk P0 f177:={ x:=_ }
theorem acu:ng 177 3 zr:=fg func177
def aa3:Mk P0 f173:={ x:=_ }
theorem adt:ng 173 1 aa3:=fg func173
def re:Mk P0 f176:={ x:=_ }
theorem ti:ng 176 2 re:=fg func176
def aa2:Mk P0 f175:={ x:=_ }
theorem ads:ng 175 1 aa2:=fg func175
def wR (a:Wt):RV:=.agg [.v (.int .u64 a.1),.v (.int .i64 a.2)]
def zW:RV:=.agg [.v (.int .u64 0),.v (.int .i64 0)]
def g8 (l:List Wt):Ob:=.row 2 zW true true (l.map wR)
def qO (l:List Wt) (n:Nat) (es:List MapEntry) (c:Nat):List Ob:=[.box [.own 1000001 0 0 n,.mp 1000002 0],g8 l,.map es c]
theorem ud (h:i<l.length) (z:RV):(l.map wR).getD i z=.agg [.v (.int .u64 (gW l i).1),.v (.int .i64 (gW l i).2)]:=by
 rw [zag,List.getElem?_map,List.getElem?_eq_getElem h,nr h]
 rfl
theorem azq (a b:Wt):a9 P0 178 [.r (wR a),.r (wR b)] [] (bl (lsW a b)) []:=by
 refine zh.t func178 ?_;by_cases h:a.2=b.2
 ·have e:(a.2 != b.2)=false:=by simp [h]
  have c:lsW a b=decide (a.1<b.1):=by unfold lsW; rw [if_neg (by simp [h])]
  rw [c]
  push_cast [zh,wR,e,zad]
 have e:(a.2 != b.2)=true:=by simp [h]
 have c:lsW a b=decide (a.2>b.2):=by unfold lsW; rw [if_pos h]
 rw [c]
 push_cast [zh,wR,e,zad]
theorem akg (l:List Wt) (n:Nat) (d:n<=l.length) (es:List MapEntry) (c i k:Nat) (e:i<n) (f:k<n) :
 a9 P0 174 [.ptr 1000000 0 0,int .i64 i,int .i64 k] (qO l n es c) (bl (lsW (gW l i) (gW l k))) (qO l n es c):=by
 refine acv rfl (by simp [qO]) ?_;have b:=λ z=>ud (l:=l) (i:=i) (by omega) z;have a:=λ z=>ud (l:=l) (i:=k) (by omega) z
 push_cast [zt,qO,g8,zW,b,a,zai,zae,zad,zab,zac,zaa]
 refine And.intro ⟨by omega,by omega⟩ (And.intro ⟨by omega,by omega⟩ ?_);refine n9 (as':=[.r (wR (gW l i)),.r (wR (gW l k))]) rfl ?_;refine g9 (azq _ _) rfl trivial ?_
 push_cast
 kernel_rfl
theorem amp (l:List Wt) (n:Nat) (es:List MapEntry) (c:Nat):a9 P0 173 [.ptr 1000000 0 0] (qO l n es c) (int .i64 n) (qO l n es c):=by
 refine adt rfl (by simp [qO]) ?_
 push_cast [aa3,qO,g8,zW,zae,zad]
def swE (l:List Wt) (es:List MapEntry) (c i k:Nat):List MapEntry:=af1 (af1 es c (gW (swW l i k) i).1 i) c (gW (swW l i k) k).1 k
theorem akc (l:List Wt) (n:Nat) (K:n<=l.length) (es:List MapEntry) (c i k:Nat) (w:i<n) (G:k<n) (x:gt es c) (b:∀j,j<n->(gW l j).1∈es.map kI) :
 a9 P0 177 [.ptr 1000000 0 0,int .i64 i,int .i64 k] (qO l n es c) (.tup []) (qO (swW l i k) n (swE l es c i k) c):=by
 refine acu rfl (by simp [qO]) ?_;have o:=λ z=>ud (l:=l) (i:=i) (by omega) z;have m:=λ z=>ud (l:=l) (i:=k) (by omega) z
 have s:(l.map wR).set i (.agg [.v (.int .u64 (gW l k).1),.v (.int .i64 (gW l k).2)])=(l.set i (gW l k)).map wR:=by
  rw [List.map_set]
  rfl
 have r:=λ z=>ud (l:=l.set i (gW l k)) (i:=k) (by rw [List.length_set]; omega) z
 have p:((l.set i (gW l k)).map wR).set k (.agg [.v (.int .u64 (gW l i).1),.v (.int .i64 (gW l i).2)])=(swW l i k).map wR:=by
  unfold swW;rw [List.map_set (l:=l.set i (gW l k))]
  rfl
 have I:(swW l i k).length=l.length:=ag l i k;have g:=λ z=>ud (l:=swW l i k) (i:=i) (by omega) z;have f:=λ z=>ud (l:=swW l i k) (i:=k) (by omega) z
 have q:(gW (swW l i k) i).1∈es.map kI:=by
  rw [abq (by omega) (by omega)];split
  ·exact b i w
  rw [if_pos rfl]; exact b k G
 have e:(gW (swW l i k) k).1∈es.map kI:=by
  rw [abq (by omega) (by omega),if_pos rfl];exact b i w
 obtain ⟨y,C,E,F⟩:=ag3 x q i;have h:=arl y x;rw [<- agx y] at e;obtain ⟨H,t,u,A⟩:=ag3 h e k;have a:af1 (af1 es c (gW (swW l i k) i).1 i) c (gW (swW l i k) k).1 k=swE l es c i k:=rfl;generalize swE l es c i k=J at *;obtain ⟨B,d⟩:∃B,af1 es c (gW (swW l i k) i).1 i=B:=⟨_,rfl⟩
 rw [d] at t u A a;unfold af1 at d a;have D:∀n,de false (.int .u64 n)=true:=λ _=>rfl
 push_cast [zr,qO,g8,zW,o,m,s,r,p,g,f,C,E,F,t,u,A,d,a,D,ady,ajh,agv,aly,zai,zae,zad,List.drop_succ_cons,List.drop_zero,List.take_succ_cons,List.take_zero,List.cons_append,List.nil_append,zab,zac,zaa]
 refine And.intro ⟨by omega,by omega⟩ (And.intro ⟨by omega,by omega⟩ (And.intro ⟨by omega,by omega⟩ (And.intro ⟨by omega,by omega⟩ (And.intro (by kernel_rfl) ?_))))
 repeat refine And.intro (by first | omega | exact ⟨by omega,by omega⟩ | kernel_rfl) ?_
 kernel_rfl

def ifW (a:Wt):AV:=.ifc 82 (.agg [int .u64 a.1,int .i64 a.2])
def puE (es:List MapEntry) (c:Nat) (k n:Int):List MapEntry:=ao es c (.int .u64 k) (.int .i64 n)
theorem afe {es:List MapEntry} {c:Nat} (h:gt es c) {k:Int} (p:k∉es.map kI) (n:Int):okK es (.int .u64 k)=true/\ah es c (.int .u64 k)=c+1/\puE es c k n=es++[⟨.int .u64 k,.int .i64 n,c⟩]/\gt (puE es c k n) (c+1)/\(puE es c k n).map kI=es.map kI++[k]:=by
 have d:=to 0 h.1 p;have e:puE es c k n=es++[⟨.int .u64 k,.int .i64 n,c⟩]:=by simp [puE,ao,d]
 refine ⟨by simp [okK,d],by simp [ah,d],e,?_,by rw [e]; simp [kI]⟩;rw [e];obtain ⟨j,o,g⟩:=h;refine ⟨λ x hx=>?_,?_,λ x hx=>?_⟩
 ·rcases zaj.1 hx with hx | hx
  ·exact j x hx
  obtain rfl:=List.mem_singleton.1 hx
  rfl
 ·rw [List.map_append,List.nodup_append];refine ⟨o,by simp,λ a m b i=>?_⟩;obtain ⟨f,l,rfl⟩:=zaf.1 m;simp at i;subst i;have:=g f l;omega
 rcases zaj.1 hx with hx | hx
 ·have:=g x hx;omega
 obtain rfl:=List.mem_singleton.1 hx;simp
theorem avp (es:List MapEntry) (c:Nat) (x:Wt) (a:gt es c) (hx:x.1∉es.map kI) :
 a9 P0 176 [.ptr 1000000 0 0,ifW x] [.box [.nils 2 zW,.mp 1000001 0],.map es c] (.tup []) [.box [.own 1000002 0 0 1,.mp 1000001 0],.map (puE es c x.1 0) (c+1),g8 [x]]:=by
 refine ti rfl (by simp) ?_;obtain ⟨b,d,_⟩:=afe a hx 0;have e:∀n,de false (.int .u64 n)=true:=λ _=>rfl
 push_cast [re,qO,g8,zW,ifW,wR,b,d,e,zae,zad,zab,zac,zaa]
 repeat refine And.intro (by first | exact Or.inl trivial | omega | exact ⟨by omega,by omega⟩ | exact ⟨by omega,by omega,by omega⟩ | kernel_rfl | (simp; done) | (have:=o9; omega) | exact ⟨by omega,by have:=o9; omega⟩) ?_
 rfl
theorem azf (l:List Wt) (g:l.length<=1000000) (f:l≠[]) (es:List MapEntry) (c:Nat) (x:Wt) (a:gt es c) (hx:x.1∉es.map kI) :
 a9 P0 176 [.ptr 1000000 0 0,ifW x] (qO l l.length es c) (.tup []) (qO (l++[x]) (l.length+1) (puE es c x.1 l.length) (c+1)):=by
 refine ti rfl (by simp [qO]) ?_;obtain ⟨b,d,_⟩:=afe a hx l.length;have e:∀n,de false (.int .u64 n)=true:=λ _=>rfl
 push_cast [re,qO,g8,zW,ifW,wR,b,d,e,zai,zae,zad,zab,zac,zaa]
 repeat refine And.intro (by first | exact Or.inl trivial | omega | exact ⟨by omega,by omega⟩ | exact ⟨by omega,by omega,by omega⟩ | kernel_rfl | (simp; done) | (have:=o9; omega) | exact ⟨by omega,by have:=o9; omega⟩) ?_
 simp [puE,wR]
theorem a2c (l:List Wt) (n:Nat) (m:n+1<=l.length) (o:l.length<=1000000) (es:List MapEntry) (c:Nat) (a:gt es c) :
 a9 P0 175 [.ptr 1000000 0 0] (qO l (n+1) es c) (ifW (gW l n)) (qO l n (aq es (.int .u64 (gW l n).1)) c):=by
 refine ads rfl (by simp [qO]) ?_;have k:∀n,de false (.int .u64 n)=true:=λ _=>rfl
 have g:okK es (.int .u64 (gW l n).1)=true:=by
  unfold okK;by_cases h:(gW l n).1∈es.map kI
  ·obtain ⟨j,v,e,d,_⟩:=adx 0 a.1 h;rw [d]; rfl
  rw [to 0 a.1 h]; rfl
 have b:IntKind.i64.wrap ((n:Int)+1-1)=n:=by rw [a6 (by omega)]; omega
 have f:=λ z=>ud (l:=l) (i:=n) (by omega) z
 push_cast [aa2,qO,g8,zW,ifW,wR,k,g,b,f,Int.natCast_add,Int.natCast_one,zai,zae,zad,zab,zac,zaa]
 repeat refine And.intro (by first | exact Or.inl trivial | omega | exact ⟨by omega,by omega⟩ | exact ⟨by omega,by omega,by omega⟩ | kernel_rfl | (simp; done) | (have:=o9; omega) | exact ⟨by omega,by have:=o9; omega⟩) ?_
 simp

def ajn:PC:=
 (.block 0 (.loop (.block 1 (.seq (.reg [p_m 5 1,p_s 6 (.bin .sub (.t 5) (o_i 1)),p_s 7 (.bin .quo (.t 6) (o_i 2)),p_m 4 7])
 (.seq (.seq (.reg [p_m 8 4,p_m 9 1,p_s 10 (.bin .eql (.t 8) (.t 9)),p_m 11 10,p_g 12 11 false (.mov (.t 0)),p_g 13 11 false (.mov (.t 1)),p_g 14 11 false (.mov (.t 4)),⟨(some 15),(some (11,false)),1,.inv [(114,174)] (.t 12) [(.t 13),(.t 14)]⟩,
 p_g 16 11 false (.un .not (.t 15)),p_s 17 (.pick (.t 11) (.c (.r (.v (.bool true)))) (.t 16))])
 (.cond (.t 17)
 (.exit 0)
 .skip))
 (.seq (.reg [p_m 18 0,p_m 19 4,p_m 20 1,⟨(some 21),none,2,.inv [(114,177)] (.t 18) [(.t 19),(.t 20)]⟩])
 (.reg [p_m 22 4,p_m 1 22])))))))
theorem akt:Fun P0 94 2 [] ajn:=rr func94 rfl (by decide) (by kernel_rfl) (by decide) rfl (by kernel_rfl) (by kernel_rfl) (by decide)
def afu:PC:=
 (.seq (.reg [p_s 6 (.mov (.c (.r (.v (.bool false)))))])
 (.seq (.reg [p_m 11 1,p_m 7 11])
 (.seq (.block 0 (.loop (.block 1 (.seq (.reg [p_m 12 7,p_s 13 (.bin .mul (o_i 2) (.t 12)),p_s 14 (.bin .add (.t 13) (o_i 1)),p_m 8 14])
 (.seq (.seq (.reg [p_m 15 8,p_m 16 2,p_s 17 (.bin .geq (.t 15) (.t 16)),p_m 18 17,p_g 19 18 false (.mov (.t 8)),p_g 20 18 false (.bin .lss (.t 19) (o_i 0)),p_s 21 (.pick (.t 18) (.c (.r (.v (.bool true)))) (.t 20))])
 (.cond (.t 21)
 (.exit 0)
 .skip))
 (.seq (.reg [p_m 22 8,p_m 9 22])
 (.seq (.seq (.reg [p_m 23 8,p_s 24 (.bin .add (.t 23) (o_i 1)),p_m 10 24])
 (.seq (.reg [p_m 25 10,p_m 26 2,p_s 27 (.bin .lss (.t 25) (.t 26)),p_m 28 27,p_g 29 28 true (.mov (.t 0)),p_g 30 28 true (.mov (.t 10)),p_g 31 28 true (.mov (.t 8)),⟨(some 32),(some (28,true)),1,.inv [(114,174)] (.t 29) [(.t 30),(.t 31)]⟩,
 p_s 33 (.pick (.t 28) (.t 32) (.c (.r (.v (.bool false)))))])
 (.cond (.t 33)
 (.reg [p_m 34 10,p_m 9 34])
 .skip)))
 (.seq (.seq (.reg [p_m 35 0,p_m 36 9,p_m 37 7,⟨(some 38),none,2,.inv [(114,174)] (.t 35) [(.t 36),(.t 37)]⟩,p_s 39 (.un .not (.t 38))])
 (.cond (.t 39)
 (.exit 0)
 .skip))
 (.seq (.reg [p_m 40 0,p_m 41 7,p_m 42 9,⟨(some 43),none,3,.inv [(114,177)] (.t 40) [(.t 41),(.t 42)]⟩])
 (.reg [p_m 44 9,p_m 7 44]))))))))))
 (.seq (.reg [p_m 45 7,p_m 46 1,p_s 47 (.bin .gtr (.t 45) (.t 46)),p_m 6 47])
 .ret))))
theorem aii:Fun P0 95 3 [(6,false,none)] afu:=rr func95 rfl (by decide) (by kernel_rfl) (by decide) rfl (by kernel_rfl) (by kernel_rfl) (by decide)
def abe:PC:=
 (.seq (.reg [p_m 4 0,p_m 5 1,⟨(some 6),none,1,.inv [(78,36),(114,176)] (.t 4) [(.t 5)]⟩])
 (.reg [p_m 7 0,p_m 8 0,⟨(some 9),none,2,.inv [(26,18),(59,170),(78,171),(114,173)] (.t 8) []⟩,p_s 10 (.bin .sub (.t 9) (o_i 1)),p_c 11 3 94 [.t 7,.t 10]]))
theorem abd:Fun P0 60 2 [] abe:=rr func60 rfl (by decide) (by kernel_rfl) (by decide) rfl (by kernel_rfl) (by kernel_rfl) (by decide)
def ahj:PC:=
 (.seq (.reg [p_s 2 (.mov (.c (.r (.v .nilIface))))])
 (.seq (.reg [p_m 4 0,⟨(some 5),none,1,.inv [(26,18),(59,170),(78,171),(114,173)] (.t 4) []⟩,p_s 6 (.bin .sub (.t 5) (o_i 1)),p_m 3 6])
 (.seq (.reg [p_m 7 0,p_m 8 3,⟨(some 9),none,2,.inv [(114,177)] (.t 7) [(o_i 0),(.t 8)]⟩])
 (.seq (.reg [p_m 10 0,p_m 11 3,p_c 12 3 95 [(.t 10),(o_i 0),(.t 11)]])
 (.seq (.reg [p_m 13 0,⟨(some 14),none,4,.inv [(78,37),(114,175)] (.t 13) []⟩,p_m 2 14])
 .ret)))))
theorem ajo:Fun P0 62 1 [(2,false,none)] ahj:=rr func62 rfl (by decide) (by kernel_rfl) (by decide) rfl (by kernel_rfl) (by kernel_rfl) (by decide)
def qI:AV:=.ifc 114 (.ptr 1000000 0 0)
def upE (l:List Wt) (es:List MapEntry) (c j:Nat):List MapEntry:=
 if h:j=0\/lsW (gW l j) (gW l ((j-1)/2))=false then es else upE (swW l ((j-1)/2) j) (swE l es c ((j-1)/2) j) c ((j-1)/2)
termination_by j
decreasing_by omega
def dnE (l:List Wt) (es:List MapEntry) (c n i:Nat):List MapEntry:=
 if h:n<=2*i+1\/lsW (gW l (chW l n i)) (gW l i)=false then es else dnE (swW l i (chW l n i)) (swE l es c i (chW l n i)) c n (chW l n i)
termination_by n-i
decreasing_by
 have:=(rz (l:=l) (show 2*i+1<n by omega)).2.1;omega
def dnI (l:List Wt) (n i:Nat):Nat:=
 if h:n<=2*i+1\/lsW (gW l (chW l n i)) (gW l i)=false then i else dnI (swW l i (chW l n i)) n (chW l n i)
termination_by n-i
decreasing_by
 have:=(rz (l:=l) (show 2*i+1<n by omega)).2.1;omega
def Nam (l:List Wt) (n:Nat) (es:List MapEntry) (c:Nat):Prop:=gt es c/\n<=l.length/\∀j,j<n->(gW l j).1∈es.map kI
theorem Nam.sx {es:List MapEntry} {c:Nat} (h:Nam l n es c) (o:i<n) (p:k<n):Nam (swW l i k) n (swE l es c i k) c/\kb (swE l es c i k)=kb es:=by
 obtain ⟨b,s,g⟩:=h;have q:=abq (l:=l) (i:=i) (j:=k) (by omega) (by omega)
 have d:∀j,j<n->(gW (swW l i k) j).1∈es.map kI:=λ j f=>by
  rw [q j];split
  ·exact g i o
  split
  ·exact g k p
  exact g j f
 obtain ⟨m,_⟩:=ag3 b (d i o) i;have a:=arl m b;obtain ⟨r,_⟩:=ag3 a (k:=(gW (swW l i k) k).1) (by rw [agx m]; exact d k p) k;have e:kb (swE l es c i k)=kb es:=r.trans m;exact ⟨⟨arl e b,by rw [ag]; exact s,λ j f=>by rw [agx e]; exact d j f⟩,e⟩
theorem a1r (d:List Wt) (n:Nat) (J:d.length<=1000000) (b:List MapEntry) (c e:Nat) (B:e<n) (I:Nam d n b c) :
 a9 P0 94 [qI,int .i64 e] (qO d n b c) (.tup []) (qO (upW d e) n (upE d b c e) c):=by
 refine akt rfl (by simp [qO]) ?_
 push_cast [ajn,qI,qO,zae,zad]
 refine c7 [(1,false),(0,false)] (λ vs pos m=>∃(j:Nat) (l:List Wt) (es:List MapEntry),l.length<=1000000/\j<n/\Nam l n es c/\upW d e=upW l j/\upE d b c e=upE l es c j/\vs=[int .i64 j,qI]/\pos=qO l n es c/\m=[])
  (λ vs _ _=>match vs with | .r (.v (.int _ a))::_=>a.toNat | _=>0) rfl ?_ ?_
 ·push_cast [qI,qO,g8,zW]
  exact ⟨e,d,b,J,B,I,rfl,rfl,rfl,rfl⟩
 rintro vs pos m ⟨j,l,es,A,C,s,F,E,rfl,rfl,rfl⟩;obtain ⟨i,u⟩:∃i,(j-1)/2=i:=⟨_,rfl⟩
 have p:=s.2.1;have t:IntKind.i64.wrap ((j:Int)-1)=j-1:=a6 (by omega)
 have x:((j:Int)-1).tdiv 2=i:=by
  by_cases h:j=0
  ·subst h;rw [<- u]
   rfl
  rw [zak (by omega)];omega
 have w:IntKind.i64.wrap (i:Int)=i:=a6 (by omega)
 have f:j=0\/lsW (gW l j) (gW l i)=false->upW d e=l/\upE d b c e=es:=λ q=>by
  rw [F,E,upW,upE,u,dif_pos q,dif_pos q];exact ⟨rfl,rfl⟩
 by_cases G:j=0
 ·have o:((i:Int) == (j:Int))=true:=by simp; omega
  obtain ⟨D,z⟩:=f (.inl G);rw [D,z]
  push_cast [qI,qO,g8,zW,t,x,w,o]
 have o:((i:Int) == (j:Int))=false:=by simp; omega
 push_cast [qI,qO,g8,zW,t,x,w,o]
 refine b7 (as':=[.ptr 1000000 0 0,int .i64 j,int .i64 i]) rfl ?_;refine a7 (akg l n p es c j i C (by omega)) rfl (by simp [qO,g8,k7]) ?_;cases hs:lsW (gW l j) (gW l i) with
 | false=>
   obtain ⟨D,z⟩:=f (.inr hs);rw [D,z]
   push_cast [qI,qO,g8,zW,t,x,w,o]
 | true=>
   obtain ⟨H,K⟩:=s.sx (i:=i) (k:=j) (by omega) C;have y:=akc l n p es c i j (by omega) C s.1 s.2.2
   push_cast [qI,qO,g8,zW,t,x,w,o]
   refine b7 (as':=[.ptr 1000000 0 0,int .i64 i,int .i64 j]) rfl ?_;refine a7 y rfl (by simp [qO,g8,k7]) ?_
   push_cast [qI,qO,g8,zW]
   have g:¬(j=0\/lsW (gW l j) (gW l i)=false):=λ q=>q.elim G (λ q=>by rw [hs] at q; cases q);exact ⟨⟨i,swW l i j,swE l es c i j,by rw [ag]; exact A,by omega,H,by rw [F,upW,u,dif_neg g],by rw [E,upE,u,dif_neg g],rfl,rfl⟩,by omega⟩
theorem a5z (e:List Wt) (m n:Nat) (R:n<=m) (V:e.length<=1000000) (d:List MapEntry) (c b:Nat) (G:b<=n) (U:Nam e m d c) :
 a9 P0 95 [qI,int .i64 b,int .i64 n] (qO e m d c) (bl (decide ((dnI e n b:Int)>b))) (qO (dnW e n b) m (dnE e d c n b) c):=by
 refine aii rfl (by simp [qO]) ?_
 push_cast [afu,qI,qO,zae,zad]
 refine c7 [(7,false),(0,false),(1,false),(2,false)] (λ vs pos s=>∃(i:Nat) (l:List Wt) (es:List MapEntry),l.length<=1000000/\i<=n/\Nam l m es c/\dnW e n b=dnW l n i/\dnE e d c n b=dnE l es c n i/\dnI e n b=dnI l n i/\vs=[int .i64 i,qI,int .i64 b,int .i64 n]/\pos=qO l m es c/\s=[])
  (λ vs _ _=>match vs with | .r (.v (.int _ a))::_=>(n-a).toNat | _=>0) rfl ?_ ?_
 ·push_cast [qI,qO,g8,zW]
  exact ⟨b,e,d,V,G,U,rfl,rfl,rfl,rfl,rfl⟩
 rintro vs pos s ⟨i,l,es,D,W,w,N,M,P,rfl,rfl,rfl⟩;have o:=w.2.1;have B:IntKind.i64.wrap (2*(i:Int))=2*i:=a6 (by omega);have F:IntKind.i64.wrap (2*(i:Int)+1)=2*i+1:=a6 (by omega);have L:IntKind.i64.wrap (2*(i:Int)+1+1)=2*i+2:=by rw [a6 (by omega)]; omega
 have H:decide (2*(i:Int)+1<0)=false:=decide_eq_false (by omega)
 have g:n<=2*i+1\/lsW (gW l (chW l n i)) (gW l i)=false->dnW e n b=l/\dnE e d c n b=es/\dnI e n b=i:=λ q=>by
  rw [N,M,P,dnW,dnE,dnI,dif_pos q,dif_pos q,dif_pos q];exact ⟨rfl,rfl,rfl⟩
 by_cases O:n<=2*i+1
 ·have x:decide (2*(i:Int)+1>=n)=true:=decide_eq_true (by omega);obtain ⟨I,A,K⟩:=g (.inl O);rw [I,A,K]
  push_cast [qI,qO,g8,zW,B,F,L,H,x]
 have x:decide (2*(i:Int)+1>=n)=false:=decide_eq_false (by omega);obtain ⟨Q,c2,T,X⟩:=rz (l:=l) (show 2*i+1<n by omega);obtain ⟨J,f⟩:∃J,chW l n i=J:=⟨_,rfl⟩
 have hc:(2*i+2<n/\lsW (gW l (2*i+2)) (gW l (2*i+1))=true/\J=2*i+2)\/(2*i+2<n/\lsW (gW l (2*i+2)) (gW l (2*i+1))=false/\J=2*i+1)\/(¬2*i+2<n/\lsW (gW l 0) (gW l 0)=false/\J=2*i+1):=by
  unfold chW at f;by_cases h:2*i+2<n
  ·cases p:lsW (gW l (2*i+2)) (gW l (2*i+1)) with
   | true=>rw [if_pos ⟨h,p⟩] at f; exact .inl ⟨h,rfl,f.symm⟩
   | false=>rw [if_neg (λ q=>by rw [p] at q; exact absurd q.2 (by decide))] at f; exact .inr (.inl ⟨h,rfl,f.symm⟩)
  rw [if_neg (λ q=>h q.1)] at f;exact .inr (.inr ⟨h,by rw [ad1]; omega,f.symm⟩)
 rw [f] at Q c2 T g;obtain ⟨S,Y⟩:=w.sx (i:=i) (k:=J) (by omega) (by omega);have z:=akg l m o es c J i (by omega) (by omega);have y:=akc l m o es c i J (by omega) (by omega) w.1 w.2.2;have u:=akg l m o es c (2*i+2)
 rcases hc with ⟨h,p,t⟩ | ⟨h,p,t⟩ | ⟨h,p,t⟩<;>(
  first
  | (have C:decide (2*(i:Int)+2<n)=true:=decide_eq_true (by omega)
     have E:=u (2*i+1) (by omega) (by omega)
     push_cast [qI,qO,g8,zW,B,F,L,H,x,C]
     refine b7 (as':=[.ptr 1000000 0 0,int .i64 (2*i+2:Nat),int .i64 (2*i+1:Nat)]) (by simp) ?_;refine a7 E rfl (by simp [qO,g8,k7]) ?_
     push_cast [qI,qO,g8,zW,p])
  | (have C:decide (2*(i:Int)+2<n)=false:=decide_eq_false (by omega)
     push_cast [qI,qO,g8,zW,B,F,L,H,x,C])
  first
  | rw [show 2*(i:Int)+2=(J:Int) by omega]
  | rw [show 2*(i:Int)+1=(J:Int) by omega]
  refine b7 (as':=[.ptr 1000000 0 0,int .i64 J,int .i64 i]) rfl ?_;refine a7 z rfl (by simp [qO,g8,k7]) ?_;cases hs:lsW (gW l J) (gW l i) with
  | false=>
    obtain ⟨I,A,K⟩:=g (.inr hs);rw [I,A,K]
    push_cast [qI,qO,g8,zW]
  | true=>
    push_cast [qI,qO,g8,zW]
    refine b7 (as':=[.ptr 1000000 0 0,int .i64 i,int .i64 J]) rfl ?_;refine a7 y rfl (by simp [qO,g8,k7]) ?_
    push_cast [qI,qO,g8,zW]
    have j:¬(n<=2*i+1\/lsW (gW l J) (gW l i)=false):=λ q=>q.elim O (λ q=>by rw [hs] at q; cases q)
    exact ⟨⟨J,swW l i J,swE l es c i J,by rw [ag]; exact D,by omega,S,by rw [N,dnW,f,dif_neg j],by rw [M,dnE,f,dif_neg j],by rw [P,dnI,f,dif_neg j],rfl,rfl⟩,by omega⟩)

theorem awq (es:List MapEntry) (c:Nat) (x:Wt) (e:gt es c) (hx:x.1∉es.map kI) :
 a9 P0 60 [qI,ifW x] [.box [.nils 2 zW,.mp 1000001 0],.map es c] (.tup []) [.box [.own 1000002 0 0 1,.mp 1000001 0],.map (puE es c x.1 0) (c+1),g8 [x]]:=by
 refine abd rfl (by simp) ?_;obtain ⟨l,m,n,k,h⟩:=afe e hx 0
 have g:Nam [x] 1 (puE es c x.1 0) (c+1):=⟨k,by simp,λ j o=>by
  obtain rfl:j=0:=by omega
  rw [h];show x.1∈_
  simp⟩
 have a:=a1r [x] 1 (by simp) (puE es c x.1 0) (c+1) 0 (by omega) g;have f:upW [x] 0=[x]:=by rw [upW,dif_pos (.inl rfl)]
 have i:upE [x] (puE es c x.1 0) (c+1) 0=puE es c x.1 0:=by rw [upE,dif_pos (.inl rfl)]
 rw [f,i] at a;have b:=avp es c x e hx;have d:=amp [x] 1 (puE es c x.1 0) (c+1)
 push_cast [abe,qI,ifW,zW,zae,zad]
 refine b7 (as':=[.ptr 1000000 0 0,ifW x]) rfl ?_;refine a7 b rfl (by simp [k7]) ?_
 push_cast [qI,qO,g8,zW]
 refine b7 (as':=[.ptr 1000000 0 0]) rfl ?_;refine a7 d rfl (by simp [qO,g8,k7]) ?_
 push_cast [qI,qO,g8,zW]
 refine b7 (as':=[qI,int .i64 (0:Nat)]) rfl ?_;refine a7 a rfl (by simp [qO,g8,k7]) ?_
 push_cast [qI,qO,g8,zW]
theorem a0g (l:List Wt) (r:l.length<1000000) (k:l≠[]) (es:List MapEntry) (c:Nat) (x:Wt) (b:Nam l l.length es c) (hx:x.1∉es.map kI) :
 a9 P0 60 [qI,ifW x] (qO l l.length es c) (.tup []) (qO (upW (l++[x]) l.length) (l.length+1) (upE (l++[x]) (puE es c x.1 l.length) (c+1) l.length) (c+1)):=by
 refine abd rfl (by simp [qO]) ?_;obtain ⟨n,p,q,i,m⟩:=afe b.1 hx l.length
 have e:Nam (l++[x]) (l.length+1) (puE es c x.1 l.length) (c+1):=⟨i,by simp,λ j o=>by
  rw [m];by_cases h:j<l.length
  ·rw [jc h];exact zaq _ (b.2.2 j h)
  obtain rfl:j=l.length:=by omega
  rw [nr (by simp)]
  simp⟩
 have f:=a1r (l++[x]) (l.length+1) (by simp; omega) (puE es c x.1 l.length) (c+1) l.length (by omega) e;have a:=azf l (by omega) k es c x b.1 hx;have d:=amp (l++[x]) (l.length+1) (puE es c x.1 l.length) (c+1);have g:IntKind.i64.wrap ((l.length:Int)+1-1)=l.length:=by rw [a6 (by omega)]; omega
 push_cast [abe,qI,qO,g8,ifW,zW,zae,zad]
 refine b7 (as':=[.ptr 1000000 0 0,ifW x]) rfl ?_;refine a7 a rfl (by simp [qO,g8,k7]) ?_
 push_cast [qI,qO,g8,zW]
 refine b7 (as':=[.ptr 1000000 0 0]) rfl ?_;refine a7 d rfl (by simp [qO,g8,k7]) ?_
 push_cast [qI,qO,g8,zW,Int.natCast_add,Int.natCast_one,g]
 refine b7 (as':=[qI,int .i64 l.length]) rfl ?_;refine a7 f rfl (by simp [qO,g8,k7]) ?_
 push_cast [qI,qO,g8,zW]
def poL (l:List Wt) (n:Nat):List Wt:=dnW (swW l 0 n) n 0
def poE (l:List Wt) (es:List MapEntry) (c n:Nat):List MapEntry:=aq (dnE (swW l 0 n) (swE l es c 0 n) c n 0) (.int .u64 (gW (poL l n) n).1)
theorem aul:∀{es:List MapEntry} {c m:Nat},n<=m->Nam l m es c->Nam (dnW l n i) m (dnE l es c n i) c/\kb (dnE l es c n i)=kb es:=by
 induction l,i using dnW.induct (n:=n) with
 | case1 l i h=>
   intro es c m b a;rw [dnW,dnE,dif_pos h,dif_pos h];exact ⟨a,rfl⟩
 | case2 l i h ih=>
   intro es c m b a;rw [dnW,dnE,dif_neg h,dif_neg h];rw [not_or] at h;obtain ⟨_,c2,j,_⟩:=rz (l:=l) (show 2*i+1<n by omega);obtain ⟨d,f⟩:=a.sx (i:=i) (k:=chW l n i) (by omega) (by omega);obtain ⟨g,e⟩:=ih b d;exact ⟨g,e.trans f⟩
theorem a1t:∀{es:List MapEntry} {c m:Nat},j<m->Nam l m es c->Nam (upW l j) m (upE l es c j) c/\kb (upE l es c j)=kb es:=by
 induction l,j using upW.induct with
 | case1 l j h=>
   intro es c m b a;rw [upW,upE,dif_pos h,dif_pos h];exact ⟨a,rfl⟩
 | case2 l j h ih=>
   intro es c m b a;rw [upW,upE,dif_neg h,dif_neg h];obtain ⟨d,g⟩:=a.sx (i:=(j-1)/2) (k:=j) (by omega) b;obtain ⟨f,e⟩:=ih (by omega) d;exact ⟨f,e.trans g⟩
theorem a3j (l:List Wt) (n:Nat) (j:l.length<=1000000) (es:List MapEntry) (c:Nat) (a:Nam l (n+1) es c) :
 a9 P0 62 [qI] (qO l (n+1) es c) (ifW (gW (poL l n) n)) (qO (poL l n) n (poE l es c n) c):=by
 refine ajo rfl (by simp [qO]) ?_;have h:=a.2.1;have f:=amp l (n+1) es c;have d:=akc l (n+1) h es c 0 n (by omega) (by omega) a.1 a.2.2;obtain ⟨g,q⟩:=a.sx (i:=0) (k:=n) (by omega) (by omega);have e:=a5z (swW l 0 n) (n+1) n (by omega) (by rw [ag]; exact j) (swE l es c 0 n) c 0 (by omega) g;obtain ⟨o,p⟩:=aul (i:=0) (n:=n) (by omega) g;have b:=a2c (poL l n) n (by unfold poL; rw [adc,ag]; exact h) (by unfold poL; rw [adc,ag]; exact j) (dnE (swW l 0 n) (swE l es c 0 n) c n 0) c o.1;have m:IntKind.i64.wrap ((n:Int)+1-1)=n:=by rw [a6 (by omega)]; omega
 push_cast [ahj,qI,qO,g8,zW,zae,zad]
 refine b7 (as':=[.ptr 1000000 0 0]) rfl ?_;refine a7 f rfl (by simp [qO,g8,k7]) ?_
 push_cast [qI,qO,g8,zW,Int.natCast_add,Int.natCast_one,m]
 refine b7 (as':=[.ptr 1000000 0 0,int .i64 (0:Nat),int .i64 n]) rfl ?_;refine a7 d rfl (by simp [qO,g8,k7]) ?_
 push_cast [qI,qO,g8,zW]
 refine b7 (as':=[qI,int .i64 (0:Nat),int .i64 n]) rfl ?_;refine a7 e rfl (by simp [qO,g8,k7]) ?_
 push_cast [qI,qO,g8,zW]
 refine b7 (as':=[.ptr 1000000 0 0]) rfl ?_;refine a7 b rfl (by simp [qO,g8,k7]) ?_
 push_cast [qI,qO,g8,zW,ifW]
 rfl

def afd:Mk P0 f35:={ x:=_ }
def my:Mk P0 f36:={ x:=_ }
theorem qy:ng 36 2 my:=fg func36
def oe:Mk P0 f59:={ x:=_ }
theorem rn:ng 59 3 oe:=fg func59
def iv:Mk P0 f37:={ x:=_ }
theorem jr:ng 37 1 iv:=fg func37
def gn:Mk P0 f61:={ x:=_ }
theorem qz:ng 61 1 gn:=fg func61
def qN (es:List MapEntry) (c:Nat):List Ob:=[.box [.ptr 1000001 0 0],.box [.nils 2 zW,.mp 1000002 0],.map es c]
def qS (l:List Wt) (n:Nat) (es:List MapEntry) (c:Nat):List Ob:=[.box [.ptr 1000001 0 0],.box [.own 1000002 0 0 n,.mp 1000003 0],g8 l,.map es c]
theorem atk:a9 P0 35 [] [] (.ptr 1000000 0 0) (qN [] 0):=by
 refine afd.t func35 ?_
 push_cast [afd,qN,zW,zad]
theorem azo (es:List MapEntry) (c:Nat) (k w:Int) (b:gt es c) (hx:k∉es.map kI) :
 a9 P0 59 [.ptr 1000000 0 0,int .u64 k,int .i64 w] (qN es c) (bl false) (qN es c):=by
 refine rn rfl (by simp [qN]) ?_;have a:=to 0 b.1 hx;have f:∀n,de false (.int .u64 n)=true:=λ _=>rfl;have d:okK es (.int .u64 k)=true:=by simp [okK,a]
 have e:lkB es (.int .u64 k)=false:=by simp [lkB,a]
 push_cast [oe,qN,zW,f,d,e,zae,zad]
theorem a2g (l:List Wt) (n:Nat) (es:List MapEntry) (c:Nat) (k w:Int) (b:gt es c) (hx:k∉es.map kI) :
 a9 P0 59 [.ptr 1000000 0 0,int .u64 k,int .i64 w] (qS l n es c) (bl false) (qS l n es c):=by
 refine rn rfl (by simp [qS]) ?_;have a:=to 0 b.1 hx;have f:∀n,de false (.int .u64 n)=true:=λ _=>rfl;have d:okK es (.int .u64 k)=true:=by simp [okK,a]
 have e:lkB es (.int .u64 k)=false:=by simp [lkB,a]
 push_cast [oe,qS,g8,zW,f,d,e,zae,zad]
theorem avw (es:List MapEntry) (c:Nat):a9 P0 61 [.ptr 1000000 0 0] (qN es c) (.tup [.r zW,bl false]) (qN es c):=by
 refine qz rfl (by simp [qN]) ?_
 push_cast [gn,qN,zW,zae,zad]
theorem aph (l:List Wt) (n:Nat) (b:n<=l.length) (es:List MapEntry) (c:Nat):a9 P0 61 [.ptr 1000000 0 0] (qS l n es c) (if n=0 then .tup [.r zW,bl false] else .tup [.r (wR (gW l 0)),bl true]) (qS l n es c):=by
 refine qz rfl (by simp [qS]) ?_;by_cases h:n=0
 ·have e:((n:Int) == 0)=true:=by simp [h]
  rw [if_pos h]
  push_cast [gn,qS,g8,zW,e,zae,zad]
 have e:((n:Int) == 0)=false:=by simp [h]
 have a:=λ z=>ud (l:=l) (i:=0) (by omega) z;rw [if_neg h]
 push_cast [gn,qS,g8,zW,wR,e,a,Int.toNat_zero,zaa,zai,zae,zad,zab,zac,zaa]
 omega
theorem avv (es:List MapEntry) (c:Nat) (x:Wt) (d:gt es c) (hx:x.1∉es.map kI) :
 a9 P0 36 [.ptr 1000000 0 0,.r (wR x)] (qN es c) (.tup []) [.box [.ptr 1000001 0 0],.box [.own 1000003 0 0 1,.mp 1000002 0],.map (puE es c x.1 0) (c+1),g8 [x]]:=by
 refine qy rfl (by simp [qN]) ?_;have b:=azo es c x.1 x.2 d hx;have a:=awq es c x d hx
 push_cast [my,qN,wR,zW,zae,zad]
 refine b7 (as':=[.ptr 1000000 0 0,int .u64 x.1,int .i64 x.2]) rfl ?_;refine a7 b rfl (by simp [qN,k7]) ?_
 push_cast [qN,g8,zW]
 refine n9 (as':=[qI,ifW x]) rfl ?_;refine g9 a rfl (by simp [k7]) ?_
 push_cast [qI,g8,zW]
 kernel_rfl
theorem azp (l:List Wt) (f:l.length<1000000) (e:l≠[]) (es:List MapEntry) (c:Nat) (x:Wt) (d:Nam l l.length es c) (hx:x.1∉es.map kI) :
 a9 P0 36 [.ptr 1000000 0 0,.r (wR x)] (qS l l.length es c) (.tup []) (qS (upW (l++[x]) l.length) (l.length+1) (upE (l++[x]) (puE es c x.1 l.length) (c+1) l.length) (c+1)):=by
 refine qy rfl (by simp [qS]) ?_;have b:=a2g l l.length es c x.1 x.2 d.1 hx;have a:=a0g l f e es c x d hx
 push_cast [my,qS,g8,wR,zW,zae,zad]
 refine b7 (as':=[.ptr 1000000 0 0,int .u64 x.1,int .i64 x.2]) rfl ?_;refine a7 b rfl (by simp [qS,g8,k7]) ?_
 push_cast [qS,g8,zW]
 refine n9 (as':=[qI,ifW x]) rfl ?_;refine g9 a rfl (by simp [qO,g8,k7]) ?_
 push_cast [qI,qO,qS,g8,zW]
 kernel_rfl
theorem apg (es:List MapEntry) (c:Nat):a9 P0 37 [.ptr 1000000 0 0] (qN es c) (.tup [.r zW,bl false]) (qN es c):=by
 refine jr rfl (by simp [qN]) ?_;have a:=avw es c
 push_cast [iv,qN,zW,zae,zad]
 refine b7 (as':=[.ptr 1000000 0 0]) rfl ?_;refine a7 a rfl (by simp [qN,k7]) ?_
 push_cast [qN,zW]
theorem apf (l:List Wt) (es:List MapEntry) (c:Nat):a9 P0 37 [.ptr 1000000 0 0] (qS l 0 es c) (.tup [.r zW,bl false]) (qS l 0 es c):=by
 refine jr rfl (by simp [qS]) ?_;have a:=aph l 0 (by omega) es c;rw [if_pos rfl] at a
 push_cast [iv,qS,g8,zW,zae,zad]
 refine b7 (as':=[.ptr 1000000 0 0]) rfl ?_;refine a7 a rfl (by simp [qS,g8,k7]) ?_
 push_cast [qS,g8,zW]
theorem a2h (l:List Wt) (n:Nat) (e:l.length<=1000000) (es:List MapEntry) (c:Nat) (b:Nam l (n+1) es c) :
 a9 P0 37 [.ptr 1000000 0 0] (qS l (n+1) es c) (.tup [.r (wR (gW l 0)),bl true]) (qS (poL l n) n (poE l es c n) c):=by
 refine jr rfl (by simp [qS]) ?_;have d:=aph l (n+1) b.2.1 es c;rw [if_neg (by omega)] at d;have a:=a3j l n e es c b
 push_cast [iv,qS,g8,zW,zae,zad]
 refine b7 (as':=[.ptr 1000000 0 0]) rfl ?_;refine a7 d rfl (by simp [qS,g8,k7]) ?_
 push_cast [qS,g8,zW,wR]
 refine b7 (as':=[qI]) rfl ?_;refine a7 a rfl (by simp [qO,g8,k7]) ?_
 push_cast [qO,qS,g8,zW,ifW,wR]

structure QI (l:List Wt) (es:List MapEntry) (c:Nat):Prop where
 hp:Hp l l.length
 nm:Nam l l.length es c
 pm:(es.map kI).Perm (l.map (·.1))
theorem QI.nil:QI [] [] 0:=⟨λ j c a=>by simp at a,⟨⟨by simp,by simp,by simp⟩,by simp,λ j b=>by simp at b⟩,by simp⟩
def puW (l:List Wt) (x:Wt):List Wt:=upW (l++[x]) l.length
def puS (l:List Wt) (es:List MapEntry) (c:Nat) (x:Wt):List MapEntry:=upE (l++[x]) (puE es c x.1 l.length) (c+1) l.length
theorem QI.put {es:List MapEntry} {c:Nat} (h:QI l es c) {x:Wt} (hx:x.1∉l.map (·.1)):QI (puW l x) (puS l es c x) (c+1)/\(puW l x).Perm (l++[x])/\(puW l x).length=l.length+1/\x.1∉es.map kI:=by
 have a:x.1∉es.map kI:=λ q=>hx (h.pm.subset q);obtain ⟨m,o,p,g,e⟩:=afe h.nm.1 a l.length;obtain ⟨f,p2⟩:=amu h.hp x;have d:(puW l x).length=l.length+1:=by unfold puW; rw [ao1]; simp
 have b:Nam (l++[x]) (l.length+1) (puE es c x.1 l.length) (c+1):=⟨g,by simp,λ j n=>by
  rw [e];by_cases q:j<l.length
  ·rw [jc q];exact zaq _ (h.nm.2.2 j q)
  obtain rfl:j=l.length:=by omega
  rw [nr (by simp)]
  simp⟩
 obtain ⟨i,k⟩:=a1t (j:=l.length) (by omega) b;refine ⟨⟨by rw [d]; exact f,by rw [d]; exact i,?_⟩,p2,d,a⟩;show ((upE (l++[x]) (puE es c x.1 l.length) (c+1) l.length).map kI).Perm _;rw [agx k,e];refine (h.pm.append_right _).trans ?_;have:=(p2.map (·.1)).symm;rw [List.map_append] at this;exact this
theorem az8 {es:List MapEntry} {c:Nat} (h:gt es c) (k:Int):gt (aq es (.int .u64 k)) c/\∀x∈es.map kI,x≠k->x∈(aq es (.int .u64 k)).map kI:=by
 by_cases l:k∈es.map kI
 ·obtain ⟨j,v,e,g,n,m,o⟩:=adx 0 h.1 l;rw [zaa] at g;have a:aq es (.int .u64 k)=es.eraseIdx j:=by simp [aq,g]
  rw [a];have f:(es.eraseIdx j).Sublist es:=List.eraseIdx_sublist es j;refine ⟨⟨λ y hy=>h.1 y (f.subset hy),h.2.1.sublist (f.map _),λ y hy=>h.2.2 y (f.subset hy)⟩,λ x hx b=>?_⟩;obtain ⟨y,hy,rfl⟩:=zaf.1 hx;refine zaf.2 ⟨y,?_,rfl⟩;obtain ⟨i,d⟩:=zam hy;refine List.mem_eraseIdx_iff_getElem?.2 ⟨i,λ q=>?_,d⟩;subst q;rw [n] at d;cases d;apply b;have:=h.1 e hy;rw [m] at this
  injection this with _ q
  exact q.symm
 have a:aq es (.int .u64 k)=es:=by simp [aq,to 0 h.1 l]
 rw [a];exact ⟨h,λ x hx _=>hx⟩
structure QP (xs:List Wt) (n:Nat) (es:List MapEntry) (c:Nat):Prop where
 hp:Hp xs n
 nm:Nam xs n es c
 nd:((xs.take n).map (·.1)).Nodup
theorem a0q:∀{l:List Wt},n<=l.length->dnW (l++t) n i=dnW l n i++t:=by
 intro l
 induction l,i using dnW.induct (n:=n) with
 | case1 l i h=>
   intro c
   have e:n<=2*i+1\/lsW (gW (l++t) (chW (l++t) n i)) (gW (l++t) i)=false:=by
    rcases h with h | h
    ·exact .inl h
    by_cases q:n<=2*i+1
    ·exact .inl q
    obtain ⟨_,c2,f,_⟩:=rz (l:=l) (show 2*i+1<n by omega);rw [aqk c (by omega),jc (by omega),jc (by omega)];exact .inr h
   have a:dnW (l++t) n i=l++t:=by rw [dnW,dif_pos e]
   have b:dnW l n i=l:=by rw [dnW,dif_pos h]
   rw [a,b]
 | case2 l i h ih=>
   intro c;have d:=h;rw [not_or] at h;obtain ⟨_,c2,f,_⟩:=rz (l:=l) (show 2*i+1<n by omega);have hc:=aqk (t:=t) c (show 2*i+1<n by omega)
   have e:¬(n<=2*i+1\/lsW (gW (l++t) (chW (l++t) n i)) (gW (l++t) i)=false):=by
    rw [hc,jc (by omega),jc (by omega)];exact d
   have a:dnW (l++t) n i=dnW (swW (l++t) i (chW (l++t) n i)) n (chW (l++t) n i):=by rw [dnW,dif_neg e]
   have b:dnW l n i=dnW (swW l i (chW l n i)) n (chW l n i):=by rw [dnW,dif_neg d]
   rw [a,b,hc,ao6 (by omega) (by omega),ih (by rw [ag]; exact c)]
theorem QP.pop {xs:List Wt} {es:List MapEntry} {c:Nat} (h:QP xs (n+1) es c) :
 QP (poL xs n) n (poE xs es c n) c/\(poL xs n).take n=ki (xs.take (n+1))/\gW xs 0=gW (xs.take (n+1)) 0/\(poL xs n).length=xs.length:=by
 obtain ⟨B,u,y⟩:=h;have E:=u.2.1;have b:(xs.take (n+1)).length=n+1:=by rw [List.length_take]; omega
 have e:xs=xs.take (n+1)++xs.drop (n+1):=(List.take_append_drop _ _).symm
 have p:poL xs n=poL (xs.take (n+1)) n++xs.drop (n+1):=by
  unfold poL
  conv=>lhs; rw [e]
  rw [ao6 (by omega) (by omega),a0q (by rw [ag]; omega)]
 have x:(poL (xs.take (n+1)) n).length=n+1:=by unfold poL; rw [adc,ag,b]
 have o:Hp (xs.take (n+1)) (xs.take (n+1)).length:=by rw [b]; exact B.take E
 have m:ki (xs.take (n+1))=(poL (xs.take (n+1)) n).take n:=by unfold ki poL; rw [b,zao]
 have d:(poL xs n).take n=ki (xs.take (n+1)):=by
  rw [p,m,List.take_append_of_le_length (by omega)]
 have a:(poL xs n).length=xs.length:=by unfold poL; rw [adc,ag]
 obtain ⟨w,p2,A,F⟩:=apm (l:=xs.take (n+1)) (λ q=>by rw [q] at b; simp at b) o;obtain ⟨z,H⟩:=u.sx (i:=0) (k:=n) (by omega) (by omega);obtain ⟨t,G⟩:=aul (i:=0) (n:=n) (by omega) z;obtain ⟨D,m2⟩:=az8 t.1 (gW (poL xs n) n).1
 have g:gW (poL xs n) n=gW (xs.take (n+1)) 0:=by
  unfold poL;rw [auk (by rw [ag]; omega) (zah _),abq (by omega) (by omega),if_pos rfl]
  conv=>lhs; rw [e]
  rw [jc (by omega)]
 have s:∀j,j<n->gW (poL xs n) j=gW (ki (xs.take (n+1))) j:=λ j r=>by
  rw [<- d];unfold gW;rw [zag,zag,List.getElem?_take,if_pos r]
 have f:((gW (xs.take (n+1)) 0::ki (xs.take (n+1))).map (·.1)).Nodup:=(A.map (·.1)).nodup_iff.1 y;rw [List.map_cons,List.nodup_cons] at f;refine ⟨⟨?_,⟨D,by rw [a]; omega,λ j r=>m2 _ ?_ ?_⟩,by rw [d]; exact f.2⟩,d,?_,a⟩
 ·intro j C v;rw [s j v,s _ (by omega)];have:=w;rw [b,zao] at this;exact this j C v
 ·have:=t.2.2 j (by omega);exact this
 ·rw [s j r,g];intro q;refine f.1 (zaf.2 ⟨gW (ki (xs.take (n+1))) j,?_,q⟩);rw [nr (by rw [p2,b]; omega)];exact List.getElem_mem _
 conv=>lhs; rw [e]
 rw [jc (by omega)]

end
end Go.Ev

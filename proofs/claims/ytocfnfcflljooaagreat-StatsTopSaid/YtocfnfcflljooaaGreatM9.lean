import Derived.Sort.AssemblyPlain
import Derived.Test.YtocfnfcflljooaaGreatM8
open Nat renaming reduceBEq → zB, reduceEqDiff → zE, reduceAdd → zA, reduceSub → zS, reduceLT → zL, reduceLeDiff → zD, reduceMul → zM
open Go.Proofs.Tryz renaming prog → P0
open Go.Proofs.Tryz
open Nat renaming zero_add → zaa, le_refl → zai, add_sub_cancel → zap
open Int renaming toNat_natCast → zab, toNat_natCast_add_one → zac, tdiv_eq_ediv_of_nonneg → zak
open List renaming length_nil → zad, length_cons → zae, mem_map → zaf, length_map → zag, getD_eq_getElem?_getD → zah, mem_append → zaj, getElem?_of_mem → zam, mem_cons → zan, getElem?_map → zao, nodup_append → zaq, length_eq_zero_iff → zar, map_append → zas, getElem?_eq_getElem → zat, cons_append → zau, mergeSort_perm → zav, take_of_length_le → zaw, mem_append_left → zax
open BitVec renaming ofInt → zal
namespace Go.Ev
set_option maxHeartbeats 8000000
set_option maxRecDepth 100000
noncomputable section
open Go
set_option linter.unusedSectionVars false
set_option linter.unnecessarySimpa false
open Go.Sort (swp insInner insOuter insertionSort ltInt)
set_option linter.unusedSimpArgs false
set_option linter.unusedVariables false
def th:Mk P0 f126:={ x:=_ }
def vd:Mk P0 f87:={ x:=_ }
def bv:Mk P0 f85:={ x:=_ }
def p6:Mk P0 f81:={ x:=_ }
def bu (d:Array Int):List AV:=d.toList.map λ n=>AV.r (.v (.int .u64 n))
def bc (d:Array Int) (m:Nat):List AV:=bu d++List.replicate m .undef
def bO (d:Array Int) (m:Nat):Ob:=.box (bc d m)
theorem ac7:∀(xs:List AV),(∀x∈xs,t5 x=[])->l5 xs=[]
 | [],_=>rfl
 | x::xs,h=>by rw [l5,h x (by simp),ac7 xs λ y hy=>h y (by simp [hy])]; rfl
theorem a5 (d:Array Int) (m:Nat):l5 (bc d m)=[]:=ac7 _ λ x hx=>by
 rcases zaj.1 hx with hx | hx
 ·obtain ⟨n,_,rfl⟩:=zaf.1 hx
  rfl
 rw [(List.mem_replicate.1 hx).2]; rfl
theorem a8 (F:Ren) (d:Array Int) (m:Nat):imL F (bc d m)=bc d m:=ly F _ (a5 d m)
theorem adp (d:Array Int):(bu d).length=d.size:=by simp [bu]
theorem b5 (d:Array Int) (m:Nat):(bc d m).length=d.size+m:=by simp [bc,adp]
variable {d:Array Int} {m i:Nat}
theorem b6 (h:i<d.size) (z:AV):(bc d m).getD i z=.r (.v (.int .u64 d[i]!)):=by
 unfold bc;rw [zah,List.getElem?_append_left (by rw [adp]; exact h)];simp [bu,h]
theorem o4 (h:i<d.size) (x:Int):List.take i (bc d m)++[AV.r (.v (.int .u64 x))]++List.drop (i+1) (bc d m)=bc (d.setIfInBounds i x) m:=by
 unfold bc;have e:bu (d.setIfInBounds i x)=(bu d).set i (.r (.v (.int .u64 x))):=by simp [bu,List.map_set]
 rw [e,List.take_append_of_le_length (by rw [adp]; omega),List.drop_append_of_le_length (by rw [adp]; omega),List.set_eq_take_append_cons_drop,if_pos (by rw [adp]; exact h)];simp
theorem s7 (d:Array Int) (i j:Nat):(swp d i j).size=d.size:=by simp [swp]
theorem azu (x:Int):a9 P0 126 [int .u64 x] [] (bl false) []:=by
 refine th.t func126 ?_;have h:(x != x)=false:=by simp
 push_cast [th,h,zad]
theorem rz (x y:Int):a9 P0 87 [int .u64 x,int .u64 y] [] (bl (ltInt x y)) []:=by
 refine vd.t func87 ?_
 push_cast [vd,zad]
 refine a6 (azu x) rfl trivial ?_
 push_cast
 rfl
theorem az8 (d:Array Int) (a b:Nat) (D:a<=b) (I:b<=d.size) (H:d.size<=100000) (m:Nat):a9 P0 81 [.own 1000000 0 0 d.size,int .i64 a,int .i64 b] [bO d m] (.tup []) [bO (insertionSort ltInt d a b) m]:=by
 refine p6.t func81 ?_;have A:IntKind.i64.wrap ((a:Int)+1)=(a:Int)+1:=a7 (by omega)
 push_cast [p6,bO,b5,a5,a8,A,zae,zad]
 generalize B:d.size=n at *
 refine d3 [(6,false),(0,false),(1,false),(2,false)] (λ vs pos c=>∃(i:Nat) (e:Array Int),a+1<=i/\i<=100002/\e.size=n/\insertionSort ltInt d a b=insOuter ltInt a b i e/\vs=[int .i64 i,.own 1000000 0 0 n,int .i64 a,int .i64 b]/\pos=[bO e m]/\c=[])
  (λ vs _ _=>match vs with | .r (.v (.int _ j))::_=>(b-j).toNat | _=>0) rfl ?_ ?_
 ·push_cast [bO,b5,a5,a8]
  exact ⟨a+1,d,by omega,by omega,B,rfl,rfl,rfl⟩
 rintro vs pos c ⟨i,e,G,z,E,w,rfl,rfl,rfl⟩
 push_cast [bO,b5,a5,a8]
 refine c7 (λ h=>?_) (λ h=>?_)
 ·have p:i<b:=by
   simp at h;omega
  have x:IntKind.i64.wrap ((i:Int)+1)=(i:Int)+1:=a7 (by omega)
  push_cast
  refine d3 [(6,false),(7,false),(0,false),(1,false),(2,false)] (λ vs pos c=>∃(j:Nat) (f:Array Int),j<=i/\f.size=n/\insInner ltInt a i e=insInner ltInt a j f/\vs=[int .i64 i,int .i64 j,.own 1000000 0 0 n,int .i64 a,int .i64 b]/\pos=[bO f m]/\c=[])
   (λ vs _ _=>match vs with | _ :: .r (.v (.int _ j))::_=>j.toNat | _=>0) rfl ?_ ?_
  ·push_cast [bO,b5,a5,a8]
   exact ⟨i,e,by omega,E,rfl,rfl,rfl⟩
  rintro vs pos c ⟨j,f,F,s,u,rfl,rfl,rfl⟩;by_cases C:j<=a
  ·have g:decide ((j:Int)>a)=false:=by simp; omega
   push_cast [bO,b5,a5,a8,g,x]
   repeat refine sI ?_
   refine ⟨⟨i+1,f,by omega,by omega,s,?_,(by first | rfl | exact ⟨rfl,rfl⟩ | exact ⟨rfl,rfl,rfl⟩)⟩,by omega⟩;rw [w,insOuter,if_pos p,u];congr 1;cases j with
   | zero=>rfl
   | succ k=>rw [insInner,if_neg (by simp; omega)]
  obtain ⟨k,rfl⟩:∃k,j=k+1:=⟨j-1,by omega⟩
  have g:decide ((k:Int)+1>a)=true:=by simp; omega
  have q:IntKind.i64.wrap ((k:Int)+1-1)=(k:Int):=by rw [a7 (by omega)]; omega
  have o:k<f.size:=by omega
  have l:k+1<f.size:=by omega
  push_cast [bO,b5,a5,a8,g,q,b6 (m:=m) o,b6 (m:=m) l,zab,zac,zaa]
  repeat refine sI ?_
  refine g7 (rz f[k+1]! f[k]!) rfl trivial ?_
  push_cast [bO,b5,a5,a8,g,q,b6 (m:=m) o,b6 (m:=m) l,zab,zac,zaa]
  refine ⟨by kernel_rfl,?_⟩;refine c7 (λ hc=>?_) (λ hc=>?_)
  ·have y:k<(f.setIfInBounds (k+1) f[k]!).size:=by simpa using o
   push_cast [bO,b5,a5,a8,g,q,b6 (m:=m) o,b6 (m:=m) l,b6 (m:=m) y,o4 (m:=m) l,o4 (m:=m) y,zab,zac,zaa]
   repeat refine sI ?_
   refine ⟨⟨k,swp f (k+1) k,by omega,by rw [s7]; exact s,?_,(by first | rfl | exact ⟨rfl,rfl⟩ | exact ⟨rfl,rfl,rfl⟩)⟩,by omega⟩;rw [u,insInner,if_pos];simp [hc];omega
  push_cast [bO,b5,a5,a8,g,q,x,b6 (m:=m) o,b6 (m:=m) l,zab,zac,zaa]
  refine ⟨⟨i+1,f,by omega,by omega,s,?_,(by first | rfl | exact ⟨rfl,rfl⟩ | exact ⟨rfl,rfl,rfl⟩)⟩,by omega⟩;rw [w,insOuter,if_pos p,u,insInner,if_neg];simp [hc]
 have p:¬i<b:=by
  simp at h;omega
 push_cast [a5,a8]
 rw [w,insOuter,if_neg p]

open Go.Sort (swp ltInt reverseLoop reverseRange siftDown heapSort heapBuild heapPop)
def dq:Mk P0 f121:={ x:=_ }
def dr:Mk P0 f82:={ x:=_ }
theorem azj (d:Array Int) (a b:Nat) (y:a<=b) (B:1<=b) (F:b<=d.size) (E:d.size<=100000) (m:Nat):a9 P0 85 [.own 1000000 0 0 d.size,int .i64 a,int .i64 b] [bO d m] (.tup []) [bO (reverseRange d a b) m]:=by
 refine bv.t func85 ?_;have q:IntKind.i64.wrap ((b:Int)-1)=((b-1:Nat):Int):=by rw [a7 (by omega)]; omega
 obtain ⟨l,c⟩:∃l,b-1=l:=⟨_,rfl⟩
 rw [c] at q
 push_cast [bv,bO,b5,a5,a8,q,zae,zad]
 generalize x:d.size=n at *
 refine d3 [(6,false),(7,false),(0,false)] (λ vs pos f=>∃(i j:Nat) (e:Array Int),j<n/\i<=j+1/\e.size=n/\reverseRange d a b=reverseLoop i j e/\vs=[int .i64 i,int .i64 j,.own 1000000 0 0 n]/\pos=[bO e m]/\f=[])
  (λ vs _ _=>match vs with | .r (.v (.int _ i)) :: .r (.v (.int _ j))::_=>(j-i).toNat | _=>0) rfl ?_ ?_
 ·push_cast [bO,b5,a5,a8]
  exact ⟨a,l,d,by omega,by omega,x,by rw [reverseRange,c],(by first | rfl | exact ⟨rfl,rfl⟩ | exact ⟨rfl,rfl,rfl⟩)⟩
 rintro vs pos f ⟨i,j,e,C,D,A,s,rfl,rfl,rfl⟩
 push_cast [bO,b5,a5,a8]
 refine c7 (λ h=>?_) (λ h=>?_)
 ·have g:i<j:=by
   simp at h;omega
  obtain ⟨k,rfl⟩:∃k,j=k+1:=⟨j-1,by omega⟩
  have w:IntKind.i64.wrap ((i:Int)+1)=(i:Int)+1:=a7 (by omega);have z:IntKind.i64.wrap ((k:Int)+1-1)=(k:Int):=by rw [a7 (by omega)]; omega
  have u:i<e.size:=by omega
  have o:k+1<e.size:=by omega
  have p:k+1<(e.setIfInBounds i e[k+1]!).size:=by simpa using o
  push_cast [bO,b5,a5,a8,w,z,b6 (m:=m) u,b6 (m:=m) o,b6 (m:=m) p,o4 (m:=m) u,o4 (m:=m) p,zab,zac,zaa]
  repeat refine sI ?_
  refine ⟨⟨i+1,k,swp e i (k+1),by omega,by omega,by rw [s7]; exact A,?_,(by first | rfl | exact ⟨rfl,rfl⟩ | exact ⟨rfl,rfl,rfl⟩)⟩,by omega⟩;rw [s,reverseLoop,if_pos g]
  rfl
 have g:¬i<j:=by
  simp at h;omega
 push_cast [a5,a8,b5]
 rw [s,reverseLoop,if_neg g]
theorem jt (b first:Nat):∀(k a:Nat) (d:Array Int),b-a<=k->(siftDown ltInt b first a d).size=d.size:=by
 intro k
 induction k with
 | zero=>
   intro a d c;rw [siftDown];rw [dif_pos (by omega)]
 | succ k ih=>
   intro a d c;rw [siftDown];split
   ·rfl
   split
   ·split
    ·rfl
    split
    ·rw [ih _ _ (by omega),s7]
    rfl
   split
   ·rfl
   rw [ih _ _ (by omega),s7]
theorem aom (d:Array Int) (D a first:Nat) (L:first+a<=d.size) (B:D<=100000) (J:d.size<=100000) (m:Nat):a9 P0 121 [.own 1000000 0 0 d.size,int .i64 D,int .i64 a,int .i64 first] [bO d m] (.tup []) [bO (siftDown ltInt a first D d) m]:=by
 refine dq.t func121 ?_
 push_cast [dq,bO,b5,a5,a8,zae,zad]
 generalize I:d.size=n at *
 refine d3 [(8,false),(0,false),(2,false),(3,false)] (λ vs pos E=>∃(r:Nat) (e:Array Int),r<=100000/\e.size=n/\siftDown ltInt a first D d=siftDown ltInt a first r e/\vs=[int .i64 r,.own 1000000 0 0 n,int .i64 a,int .i64 first]/\pos=[bO e m]/\E=[])
  (λ vs _ _=>match vs with | .r (.v (.int _ i))::_=>(a-i).toNat | _=>0) rfl ?_ ?_
 ·push_cast [bO,b5,a5,a8]
  exact ⟨D,d,B,I,rfl,(by first | rfl | exact ⟨rfl,rfl⟩ | exact ⟨rfl,rfl,rfl⟩)⟩
 rintro vs pos E ⟨r,e,K,G,C,rfl,rfl,rfl⟩;obtain ⟨c,hc⟩:∃c,2*r+1=c:=⟨_,rfl⟩
 have k:IntKind.i64.wrap (2*(r:Int))=2*(r:Int):=a7 (by omega);have l:IntKind.i64.wrap (2*(r:Int)+1)=(c:Int):=by rw [a7 (by omega)]; omega
 push_cast [bO,b5,a5,a8,k,l]
 refine c7 (λ h=>?_) (λ h=>?_)
 ·have H:c>=a:=by
   simp at h;omega
  push_cast [a5,a8,b5]
  rw [C,siftDown,dif_pos (by omega)]
 have H:¬c>=a:=by
  simp at h;omega
 have s:IntKind.i64.wrap ((c:Int)+1)=(c:Int)+1:=a7 (by omega);obtain ⟨x,hx⟩:∃x,first+c=x:=⟨_,rfl⟩
 obtain ⟨y,hy⟩:∃y,first+r=y:=⟨_,rfl⟩
 have p:IntKind.i64.wrap ((first:Int)+c)=(x:Int):=by rw [a7 (by omega)]; omega
 have u:IntKind.i64.wrap ((first:Int)+r)=(y:Int):=by rw [a7 (by omega)]; omega
 have w:IntKind.i64.wrap ((x:Int)+1)=(x:Int)+1:=a7 (by omega);have kx:x<e.size:=by omega
 have ky:y<e.size:=by omega
 have g:∀q,siftDown ltInt a first r e=q↔(if c+1<a&&ltInt e[x]! e[x+1]! then
  if !ltInt e[y]! e[x+1]! then e else siftDown ltInt a first (c+1) (swp e y (x+1)) else
  if !ltInt e[y]! e[x]! then e else siftDown ltInt a first c (swp e y x))=q:=λ q=>by
  rw [siftDown,dif_neg (by omega),hc,hx,hy,show 2*r+2=c+1 by omega,show first+(c+1)=x+1 by omega];by_cases j:(c+1<a&&ltInt e[x]! e[x+1]!)=true
  ·have:c+1<a:=by simp at j; exact j.1
   rw [if_pos j,if_pos j,dif_pos this]
  rw [if_neg j,if_neg j]
 by_cases A:c+1<a
 ·have o:decide ((c:Int)+1<a)=true:=by simp; omega
  have f:x+1<e.size:=by omega
  push_cast [bO,b5,a5,a8,k,l,s,p,u,w,o,b6 (m:=m) kx,b6 (m:=m) ky,b6 (m:=m) f,zab,zac,zaa]
  repeat refine sI ?_
  refine g7 (rz e[x]! e[x+1]!) rfl trivial ?_
  push_cast [bO,b5,a5,a8,k,l,s,p,u,w,o,b6 (m:=m) kx,b6 (m:=m) ky,b6 (m:=m) f,zab,zac,zaa]
  repeat refine sI ?_
  refine c7 (λ B=>?_) (λ B=>?_)
  ·have F:IntKind.i64.wrap ((first:Int)+(c+1))=(x:Int)+1:=by rw [a7 (by omega)]; omega
   push_cast [bO,b5,a5,a8,k,l,s,p,u,w,F,o,b6 (m:=m) kx,b6 (m:=m) ky,b6 (m:=m) f,zab,zac,zaa]
   repeat refine sI ?_
   refine g7 (rz e[y]! e[x+1]!) rfl trivial ?_
   push_cast [bO,b5,a5,a8,k,l,s,p,u,w,F,o,b6 (m:=m) kx,b6 (m:=m) ky,b6 (m:=m) f,zab,zac,zaa]
   repeat refine sI ?_
   refine c7 (λ z=>?_) (λ z=>?_)
   ·push_cast [bO,b5,a5,a8]
    rw [C,(g _).2 rfl,if_pos (by simp [A,B]),if_pos z]
   have b:x+1<(e.setIfInBounds y e[x+1]!).size:=by simpa using f
   push_cast [bO,b5,a5,a8,k,l,s,p,u,w,F,o,b6 (m:=m) kx,b6 (m:=m) ky,b6 (m:=m) f,b6 (m:=m) b,o4 (m:=m) ky,o4 (m:=m) b,zab,zac,zaa]
   repeat refine sI ?_
   refine ⟨⟨c+1,swp e y (x+1),by omega,by rw [s7]; exact G,?_,(by first | rfl | exact ⟨rfl,rfl⟩ | exact ⟨rfl,rfl,rfl⟩)⟩,by omega⟩;rw [C,(g _).2 rfl,if_pos (by simp [A,B]),if_neg (by simp [z])]
  push_cast [bO,b5,a5,a8,k,l,s,p,u,w,o,b6 (m:=m) kx,b6 (m:=m) ky,b6 (m:=m) f,zab,zac,zaa]
  repeat refine sI ?_
  refine g7 (rz e[y]! e[x]!) rfl trivial ?_
  push_cast [bO,b5,a5,a8,k,l,s,p,u,w,o,b6 (m:=m) kx,b6 (m:=m) ky,zab,zac,zaa]
  repeat refine sI ?_
  refine c7 (λ z=>?_) (λ z=>?_)
  ·push_cast [bO,b5,a5,a8]
   rw [C,(g _).2 rfl,if_neg (by simp [B]),if_pos z]
  have b:x<(e.setIfInBounds y e[x]!).size:=by simpa using kx
  push_cast [bO,b5,a5,a8,k,l,s,p,u,w,o,b6 (m:=m) kx,b6 (m:=m) ky,b6 (m:=m) b,o4 (m:=m) ky,o4 (m:=m) b,zab,zac,zaa]
  repeat refine sI ?_
  refine ⟨⟨c,swp e y x,by omega,by rw [s7]; exact G,?_,(by first | rfl | exact ⟨rfl,rfl⟩ | exact ⟨rfl,rfl,rfl⟩)⟩,by omega⟩;rw [C,(g _).2 rfl,if_neg (by simp [B]),if_neg (by simp [z])]
 have o:decide ((c:Int)+1<a)=false:=by simp; omega
 push_cast [bO,b5,a5,a8,k,l,s,p,u,w,o,b6 (m:=m) kx,b6 (m:=m) ky,zab,zac,zaa]
 repeat refine sI ?_
 refine g7 (rz e[y]! e[x]!) rfl trivial ?_
 push_cast [bO,b5,a5,a8,k,l,s,p,u,w,o,b6 (m:=m) kx,b6 (m:=m) ky,zab,zac,zaa]
 repeat refine sI ?_
 refine c7 (λ z=>?_) (λ z=>?_)
 ·push_cast [bO,b5,a5,a8]
  rw [C,(g _).2 rfl,if_neg (by simp [A]),if_pos z]
 have b:x<(e.setIfInBounds y e[x]!).size:=by simpa using kx
 push_cast [bO,b5,a5,a8,k,l,s,p,u,w,o,b6 (m:=m) kx,b6 (m:=m) ky,b6 (m:=m) b,o4 (m:=m) ky,o4 (m:=m) b,zab,zac,zaa]
 repeat refine sI ?_
 refine ⟨⟨c,swp e y x,by omega,by rw [s7]; exact G,?_,(by first | rfl | exact ⟨rfl,rfl⟩ | exact ⟨rfl,rfl,rfl⟩)⟩,by omega⟩;rw [C,(g _).2 rfl,if_neg (by simp [A]),if_neg (by simp [z])]
theorem aas (a first:Nat):∀(k:Nat) (d:Array Int),(heapBuild ltInt a first k d).size=d.size
 | 0,d=>rfl
 | k+1,d=>by rw [heapBuild,aas a first k,jt a first (a-k) k d (zai _)]
theorem aya (d:Array Int) (a b:Nat) (N:a<b) (Q:b<=d.size) (P:d.size<=100000) (m:Nat):a9 P0 82 [.own 1000000 0 0 d.size,int .i64 a,int .i64 b] [bO d m] (.tup []) [bO (heapSort ltInt d a b) m]:=by
 refine dr.t func82 ?_;obtain ⟨c,A⟩:∃c,b-a=c:=⟨_,rfl⟩
 have G:IntKind.i64.wrap ((b:Int)-a)=(c:Int):=by rw [a7 (by omega)]; omega
 obtain ⟨g,z⟩:∃k,(c-1)/2=k:=⟨_,rfl⟩
 have y:IntKind.i64.wrap ((c:Int)-1)=((c-1:Nat):Int):=by rw [a7 (by omega)]; omega
 obtain ⟨w,C⟩:∃w,c-1=w:=⟨_,rfl⟩
 rw [C] at y;have K:(w:Int).tdiv 2=(g:Int):=by rw [zak (by omega)]; omega
 have D:IntKind.i64.wrap (g:Int)=(g:Int):=a7 (by omega);generalize I:d.size=n at *
 push_cast [dr,bO,b5,a5,a8,G,y,K,D,zae,zad]
 repeat refine sI ?_
 have F:heapSort ltInt d a b=heapPop ltInt a c (heapBuild ltInt c a (g+1) d):=by rw [heapSort,A,z]
 have E:(heapBuild ltInt c a (g+1) d).size=n:=by rw [aas]; exact I
 generalize M:heapBuild ltInt c a (g+1) d=H at *
 refine d3 [(9,false),(0,false),(6,false),(7,false),(8,false)] (λ vs pos f=>∃(k:Nat) (e:Array Int),k<=g+1/\e.size=n/\H=heapBuild ltInt c a k e/\vs=[int .i64 ((k:Int)-1),.own 1000000 0 0 n,int .i64 a,int .i64 0,int .i64 c]/\pos=[bO e m]/\f=[])
  (λ vs _ _=>match vs with | .r (.v (.int _ i))::_=>(i+1).toNat | _=>0) rfl ?_ ?_
 ·push_cast [bO,b5,a5,a8]
  refine ⟨g+1,d,by omega,I,M.symm,?_⟩;have:((g+1:Nat):Int)-1=g:=by omega
  rw [this]
  first | rfl | exact ⟨rfl,rfl⟩ | exact ⟨rfl,rfl,rfl⟩
 rintro vs pos f ⟨k,e,L,u,s,rfl,rfl,rfl⟩
 push_cast [bO,b5,a5,a8]
 refine c7 (λ h=>?_) (λ h=>?_)
 ·obtain ⟨q,rfl⟩:∃q,k=q+1:=⟨k-1,by simp at h; omega⟩
  have l:((q:Int)+1-1)=(q:Int):=by omega
  have j:IntKind.i64.wrap ((q:Int)-1)=(q:Int)-1:=a7 (by omega)
  push_cast [bO,b5,a5,a8,l]
  have p:=aom e q c a (by omega) (by omega) (by omega) m;rw [u] at p;refine a6 p rfl ⟨by simp [b5,s7,jt _ _ _ _ _ (zai _)],trivial⟩ ?_
  push_cast [bO,b5,a5,a8,l,j]
  refine ⟨⟨q,siftDown ltInt c a q e,by omega,by rw [jt _ _ _ _ _ (zai _)]; exact u,s,(by first | rfl | exact ⟨rfl,rfl⟩ | exact ⟨rfl,rfl,rfl⟩)⟩,by omega⟩
 obtain rfl:k=0:=by simp at h; omega
 have B:H=e:=s;subst B
 push_cast [bO,b5,a5,a8,G,y]
 refine d3 [(10,false),(0,false),(6,false),(7,false)] (λ vs pos f=>∃(k:Nat) (e:Array Int),k<=c/\e.size=n/\heapPop ltInt a c H=heapPop ltInt a k e/\vs=[int .i64 ((k:Int)-1),.own 1000000 0 0 n,int .i64 a,int .i64 0]/\pos=[bO e m]/\f=[])
  (λ vs _ _=>match vs with | .r (.v (.int _ i))::_=>(i+1).toNat | _=>0) rfl ?_ ?_
 ·push_cast [bO,b5,a5,a8]
  refine ⟨c,H,by omega,E,rfl,?_⟩;have:((c:Nat):Int)-1=w:=by omega
  rw [this]
  first | rfl | exact ⟨rfl,rfl⟩ | exact ⟨rfl,rfl,rfl⟩
 rintro vs pos f ⟨k,e,L,u,s,rfl,rfl,rfl⟩
 push_cast [bO,b5,a5,a8]
 refine c7 (λ h=>?_) (λ h=>?_)
 ·obtain ⟨q,rfl⟩:∃q,k=q+1:=⟨k-1,by simp at h; omega⟩
  have l:((q:Int)+1-1)=(q:Int):=by omega
  have j:IntKind.i64.wrap ((q:Int)-1)=(q:Int)-1:=a7 (by omega);obtain ⟨x,hx⟩:∃x,a+q=x:=⟨_,rfl⟩
  have O:IntKind.i64.wrap ((a:Int)+q)=(x:Int):=by rw [a7 (by omega)]; omega
  have J:a<e.size:=by omega
  have kx:x<e.size:=by omega
  have o:x<(e.setIfInBounds a e[x]!).size:=by simpa using kx
  push_cast [bO,b5,a5,a8,l,O,b6 (m:=m) J,b6 (m:=m) kx,b6 (m:=m) o,o4 (m:=m) J,o4 (m:=m) o,zab,zac,zaa]
  repeat refine sI ?_
  have p:=aom (swp e a x) 0 q a (by rw [s7]; omega) (by omega) (by rw [s7]; omega) m;rw [s7,u] at p;refine a6 p rfl ⟨by simp [b5,s7,jt _ _ _ _ _ (zai _)],trivial⟩ ?_
  push_cast [bO,b5,a5,a8,l,j]
  refine ⟨⟨q,siftDown ltInt q a 0 (swp e a x),by omega,by rw [jt _ _ _ _ _ (zai _),s7]; exact u,?_,(by first | rfl | exact ⟨rfl,rfl⟩ | exact ⟨rfl,rfl,rfl⟩)⟩,by omega⟩;rw [s,heapPop,hx]
 obtain rfl:k=0:=by simp at h; omega
 push_cast [bO,b5,a5,a8]
 rw [F,s]
 rfl

open Go.Sort (swp ltInt order2 median medianAdjacent choosePivot Hint)
def em:Mk P0 f147:={ x:=_ }
def ep:Mk P0 f125:={ x:=_ }
def bi:Mk P0 f124:={ x:=_ }
def bz:Mk P0 f84:={ x:=_ }
theorem ae3 (d:Array Int) (a b sw:Nat) (f:a<d.size) (e:b<d.size) (g:d.size<=100000) (i:sw<=1000) (m:Nat) :
 a9 P0 147 [.own 1000000 0 0 d.size,int .i64 a,int .i64 b,.ptr 1000001 0 0] [bO d m,.box [int .i64 sw]]
  (.tup [int .i64 (order2 ltInt d a b sw).1,int .i64 (order2 ltInt d a b sw).2.1]) [bO d m,.box [int .i64 (order2 ltInt d a b sw).2.2]]:=by
 refine em.t func147 ?_;have c:IntKind.i64.wrap ((sw:Int)+1)=(sw:Int)+1:=a7 (by omega)
 push_cast [em,bO,b5,a5,a8,c,b6 (m:=m) f,b6 (m:=m) e,zae,zad,zab,zac,zaa]
 repeat refine sI ?_
 refine g7 (rz d[b]! d[a]!) rfl trivial ?_
 push_cast [bO,b5,a5,a8,c,b6 (m:=m) f,b6 (m:=m) e,zab,zac,zaa]
 repeat refine sI ?_
 refine c7 (λ h=>?_) (λ h=>?_)
 ·push_cast [bO,b5,a5,a8,order2,h,c,if_true]
 push_cast [bO,b5,a5,a8,order2,h,c,Bool.false_eq_true,if_false]
variable {sw:Nat}
theorem qp {a b:Nat}:(order2 ltInt d a b sw).2.2<=sw+1/\((order2 ltInt d a b sw).1=a/\(order2 ltInt d a b sw).2.1=b\/(order2 ltInt d a b sw).1=b/\(order2 ltInt d a b sw).2.1=a):=by
 unfold order2;split<;>simp
theorem ae9 (d:Array Int) (a b c sw:Nat) (x:a<d.size) (B:b<d.size) (hc:c<d.size) (f:d.size<=100000) (F:sw<=100) (m:Nat) :
 a9 P0 125 [.own 1000000 0 0 d.size,int .i64 a,int .i64 b,int .i64 c,.ptr 1000001 0 0] [bO d m,.box [int .i64 sw]]
  (int .i64 (median ltInt d a b c sw).1) [bO d m,.box [int .i64 (median ltInt d a b c sw).2]]:=by
 refine ep.t func125 ?_;have e:=qp (d:=d) (a:=a) (b:=b) (sw:=sw);have u:=ae3 d a b sw x B f (by omega) m;unfold median;generalize order2 ltInt d a b sw=w at *;obtain ⟨l,n,o⟩:=w;simp only at e u |-;have p:=qp (d:=d) (a:=n) (b:=c) (sw:=o);have s:=ae3 d n c o (by rcases e.2 with h | h<;>omega) hc f (by omega) m;generalize order2 ltInt d n c o=A at *;obtain ⟨g,D,i⟩:=A;simp only at p s |-;have z:=qp (d:=d) (a:=l) (b:=g) (sw:=i);have r:=ae3 d l g i (by rcases e.2 with h | h<;>omega) (by rcases e.2 with h | h<;>rcases p.2 with v | v<;>omega) f (by omega) m;generalize order2 ltInt d l g i=y at *;obtain ⟨E,G,C⟩:=y;simp only at z r |-
 have j:∀k q:Nat,d7 [bO d m,.box [int .i64 k]] [bO d m,.box [int .i64 q]]:=λ k q=>⟨rfl,rfl,trivial⟩
 push_cast [ep,bO,b5,a5,a8,zae,zad]
 refine a6 u rfl (j _ _) ?_
 push_cast [bO,b5,a5,a8]
 refine a6 s rfl (j _ _) ?_
 push_cast [bO,b5,a5,a8]
 refine a6 r rfl (j _ _) ?_
 push_cast [bO,b5,a5,a8]
theorem apy {a b c:Nat}:(median ltInt d a b c sw).2<=sw+3/\((median ltInt d a b c sw).1=a\/(median ltInt d a b c sw).1=b\/(median ltInt d a b c sw).1=c):=by
 have m:=qp (d:=d) (a:=a) (b:=b) (sw:=sw);unfold median;generalize order2 ltInt d a b sw=o at *;obtain ⟨f,g,e⟩:=o;simp only at m |-;have k:=qp (d:=d) (a:=g) (b:=c) (sw:=e);generalize order2 ltInt d g c e=j at *;obtain ⟨h,q,i⟩:=j;simp only at k |-;have n:=qp (d:=d) (a:=f) (b:=h) (sw:=i);generalize order2 ltInt d f h i=l at *;obtain ⟨s,r,p⟩:=l;simp only at n |-;omega
theorem afa (d:Array Int) (a sw:Nat) (e:1<=a) (j:a+1<d.size) (g:d.size<=100000) (h:sw<=100) (m:Nat) :
 a9 P0 124 [.own 1000000 0 0 d.size,int .i64 a,.ptr 1000001 0 0] [bO d m,.box [int .i64 sw]]
  (int .i64 (medianAdjacent ltInt d a sw).1) [bO d m,.box [int .i64 (medianAdjacent ltInt d a sw).2]]:=by
 refine bi.t func124 ?_;obtain ⟨q,rfl⟩:∃q,a=q+1:=⟨a-1,by omega⟩
 have c:IntKind.i64.wrap ((q:Int)+1-1)=(q:Int):=by rw [a7 (by omega)]; omega
 have f:IntKind.i64.wrap ((q:Int)+1+1)=(q:Int)+1+1:=a7 (by omega);have t:=ae9 d q (q+1) (q+1+1) sw (by omega) (by omega) (by omega) g h m;have i:∀k b:Nat,d7 [bO d m,.box [int .i64 k]] [bO d m,.box [int .i64 b]]:=λ k b=>⟨rfl,rfl,trivial⟩
 push_cast [bi,medianAdjacent,zap,bO,b5,a5,a8,c,f,zae,zad]
 refine b9 (as':=[.own 1000000 0 0 d.size,int .i64 q,int .i64 (q+1:Nat),int .i64 (q+1+1:Nat),.ptr 1000001 0 0]) rfl ?_;refine a6 t rfl (i _ _) ?_
 push_cast [bO,b5,a5,a8]

open Go.Sort (swp ltInt order2 median medianAdjacent choosePivot Hint)
def ad3:Hint->Int
 | .unknown=>0
 | .increasing=>1
 | .decreasing=>2
theorem ac3 {a:Nat}:(medianAdjacent ltInt d a sw).2<=sw+3/\((medianAdjacent ltInt d a sw).1=a-1\/(medianAdjacent ltInt d a sw).1=a\/(medianAdjacent ltInt d a sw).1=a+1):=by
 unfold medianAdjacent;exact apy
theorem auz (d:Array Int) (a b:Nat) (hl:12<b-a) (hb:b<=d.size) (o:d.size<=100000) (m:Nat) :
 a9 P0 84 [.own 1000000 0 0 d.size,int .i64 a,int .i64 b] [bO d m]
  (.tup [int .i64 (choosePivot ltInt d a b).1,int .i64 (ad3 (choosePivot ltInt d a b).2)]) [bO d m]:=by
 refine bz.t func84 ?_;have u:∀k P:Nat,d7 [bO d m,.box [int .i64 k]] [bO d m,.box [int .i64 P]]:=λ k P=>⟨rfl,rfl,trivial⟩
 unfold choosePivot;obtain ⟨l,F⟩:∃l,b-a=l:=⟨_,rfl⟩
 obtain ⟨q,Z⟩:∃q,l/4=q:=⟨_,rfl⟩
 obtain ⟨i,S⟩:∃i,a+q*1=i:=⟨_,rfl⟩
 obtain ⟨j,Q⟩:∃j,a+q*2=j:=⟨_,rfl⟩
 obtain ⟨k,hk⟩:∃k,a+q*3=k:=⟨_,rfl⟩
 have w0:IntKind.i64.wrap ((b:Int)-a)=(l:Int):=by rw [a7 (by omega)]; omega
 have R:(l:Int).tdiv 4=(q:Int):=by rw [zak (by omega)]; omega
 have C:IntKind.i64.wrap (q:Int)=(q:Int):=a7 (by omega);have V:IntKind.i64.wrap ((q:Int)*1)=(q:Int)*1:=a7 (by omega);have w3:IntKind.i64.wrap ((q:Int)*2)=(q:Int)*2:=a7 (by omega);have Y:IntKind.i64.wrap ((q:Int)*3)=(q:Int)*3:=a7 (by omega);have w5:IntKind.i64.wrap ((a:Int)+(q:Int)*1)=(i:Int):=by rw [a7 (by omega)]; omega
 have w6:IntKind.i64.wrap ((a:Int)+(q:Int)*2)=(j:Int):=by rw [a7 (by omega)]; omega
 have w7:IntKind.i64.wrap ((a:Int)+(q:Int)*3)=(k:Int):=by rw [a7 (by omega)]; omega
 have c1:decide ((l:Int)>=8)=true:=by simp; omega
 simp only [F,Z,S,Q,hk];rw [if_pos (show l>=8 by omega)]
 have v:∀(p s:Nat),int .i64 (ad3 (if s=0 then Hint.increasing else if s=12 then Hint.decreasing else Hint.unknown))=int .i64 (if s=0 then 1 else if s=12 then 2 else 0):=λ p s=>by
  split
  ·rfl
  split<;>rfl
 push_cast [bz,bO,b5,a5,a8,w0,R,C,V,w3,Y,w5,w6,w7,c1,zae,zad]
 repeat refine sI ?_
 by_cases x:l>=50
 ·have c2:decide ((l:Int)>=50)=true:=by simp; omega
  rw [if_pos x]
  push_cast [c2,a5,a8]
  have O:=afa d i 0 (by omega) (by omega) o (by omega) m;have z:=ac3 (d:=d) (a:=i) (sw:=0);generalize medianAdjacent ltInt d i 0=X at *;obtain ⟨E,y⟩:=X;simp only at O z |-
  have J:E<d.size:=by
   have e:i+1<d.size:=by omega
   obtain ⟨_,h | h | h⟩:=z<;>rw [h]<;>omega
  have W:y<=0+3:=z.1;clear z;refine a6 O rfl (u 0 _) ?_
  push_cast [bO,b5,a5,a8]
  have N:=afa d j y (by omega) (by omega) o (by omega) m;have A:=ac3 (d:=d) (a:=j) (sw:=y);generalize medianAdjacent ltInt d j y=r2 at *;obtain ⟨p2,r⟩:=r2;simp only at N A |-
  have D:p2<d.size:=by
   have e:j+1<d.size:=by omega
   obtain ⟨_,h | h | h⟩:=A<;>rw [h]<;>omega
  have U:r<=y+3:=A.1;clear A;refine a6 N rfl (u _ _) ?_
  push_cast [bO,b5,a5,a8]
  have M:=afa d k r (by omega) (by omega) o (by omega) m;have B:=ac3 (d:=d) (a:=k) (sw:=r);generalize medianAdjacent ltInt d k r=r3 at *;obtain ⟨I,G⟩:=r3;simp only at M B |-
  have H:I<d.size:=by
   have e:k+1<d.size:=by omega
   obtain ⟨_,h | h | h⟩:=B<;>rw [h]<;>omega
  have T:G<=r+3:=B.1;clear B;refine a6 M rfl (u _ _) ?_
  push_cast [bO,b5,a5,a8]
  have w:=ae9 d E p2 I G J D H o (by omega) m;generalize median ltInt d E p2 I G=K at *;obtain ⟨L,c⟩:=K;simp only at w |-;refine a6 w rfl (u _ _) ?_
  push_cast [bO,b5,a5,a8]
  rw [v L c];by_cases n:c=0
  ·have f:((c:Int) == 0)=true:=by simp [n]
   push_cast [f,if_pos n,a5,a8]
  have f:((c:Int) == 0)=false:=by simp; omega
  rw [if_neg n];by_cases e:c=12
  ·have g:((c:Int) == 12)=true:=by simp [e]
   push_cast [f,g,if_pos e,a5,a8]
  have g:((c:Int) == 12)=false:=by simp; omega
  push_cast [f,g,if_neg e,a5,a8]
 have c2:decide ((l:Int)>=50)=false:=by simp; omega
 rw [if_neg x]
 push_cast [c2,a5,a8]
 have w:=ae9 d i j k 0 (by omega) (by omega) (by omega) o (by omega) m;generalize median ltInt d i j k 0=K at *;obtain ⟨L,c⟩:=K;simp only at w |-;refine a6 w rfl (u 0 _) ?_
 push_cast [bO,b5,a5,a8]
 rw [v L c];by_cases n:c=0
 ·have f:((c:Int) == 0)=true:=by simp [n]
  push_cast [f,if_pos n,a5,a8]
 have f:((c:Int) == 0)=false:=by simp; omega
 rw [if_neg n];by_cases e:c=12
 ·have g:((c:Int) == 12)=true:=by simp [e]
  push_cast [f,g,if_pos e,a5,a8]
 have g:((c:Int) == 12)=false:=by simp; omega
 push_cast [f,g,if_neg e,a5,a8]

open Go.Sort (swp ltInt scanUp scanDown partEqLoop partitionEqual partLoop partition)
def bh:Mk P0 f88:={ x:=_ }
def dm:Mk P0 f89:={ x:=_ }
variable {j i2 j2:Nat}
theorem acy {a:Nat} {e:Array Int} (c:scanUp (λ x=>!ltInt e[a]! x) e j i=i2) (b:scanDown (λ x=>ltInt e[a]! x) e i2 j=j2) (f:i<=i2) (d:j2<=j) (g:1<=i) :
 partEqLoop ltInt a i j e=if i2>j2 then (i2,e) else partEqLoop ltInt a (i2+1) (j2-1) (swp e i2 j2):=by
 rw [partEqLoop];simp only [c,b];split
 ·rfl
 rw [dif_pos (by omega)]
theorem arr (d:Array Int) (a b f:Nat) (W:a<b) (hb:b<=d.size) (P:f<d.size) (hn:d.size<=100000) (m:Nat) :
 a9 P0 88 [.own 1000000 0 0 d.size,int .i64 a,int .i64 b,int .i64 f] [bO d m] (int .i64 (partitionEqual ltInt d a b f).1) [bO (partitionEqual ltInt d a b f).2 m]:=by
 refine bh.t func88 ?_;have O:a<d.size:=by omega
 have z:f<(d.setIfInBounds a d[f]!).size:=by simpa using P
 have S:IntKind.i64.wrap ((a:Int)+1)=(a:Int)+1:=a7 (by omega);obtain ⟨y,M⟩:∃y,b-1=y:=⟨_,rfl⟩
 have T:IntKind.i64.wrap ((b:Int)-1)=(y:Int):=by rw [a7 (by omega)]; omega
 push_cast [bh,bO,b5,a5,a8,S,T,b6 (m:=m) O,b6 (m:=m) P,b6 (m:=m) z,o4 (m:=m) O,o4 (m:=m) z,zae,zad,zab,zac,zaa]
 repeat refine sI ?_
 rw [show (d.setIfInBounds a d[f]!).setIfInBounds f d[a]! = swp d a f from rfl];have X:partitionEqual ltInt d a b f=partEqLoop ltInt a (a+1) y (swp d a f):=by rw [partitionEqual,M]
 rw [X];have N:=s7 d a f;generalize hN:d.size=n at *;generalize V:partEqLoop ltInt a (a+1) y (swp d a f)=R
 refine d3 [(9,false),(10,false),(0,false),(1,false)] (λ vs pos c=>∃(i j:Nat) (e:Array Int),1<=i/\i<=j+2/\j<n/\e.size=n/\R=partEqLoop ltInt a i j e/\vs=[int .i64 i,int .i64 j,.own 1000000 0 0 n,int .i64 a]/\pos=[bO e m]/\c=[])
  (λ vs _ _=>match vs with | .r (.v (.int _ i)) :: .r (.v (.int _ j))::_=>(j+1-i).toNat | _=>0) rfl ?_ ?_
 ·push_cast [bO,a5,a8]
  exact ⟨a+1,y,swp d a f,by omega,by omega,by omega,N,V.symm,(by first | rfl | exact ⟨rfl,rfl⟩ | exact ⟨rfl,rfl,rfl⟩)⟩
 rintro vs pos c ⟨i,j,e,w,Q,Z,Y,L,rfl,rfl,rfl⟩;have p:a<e.size:=by omega
 push_cast [bO,a5,a8,b5]
 refine d3 [(9,false),(10,false),(0,false),(1,false)] (λ vs pos c=>∃E:Nat,i<=E/\E<=j+2/\scanUp (λ x=>!ltInt e[a]! x) e j i=scanUp (λ x=>!ltInt e[a]! x) e j E/\vs=[int .i64 E,int .i64 j,.own 1000000 0 0 n,int .i64 a]/\pos=[bO e m]/\c=[])
  (λ vs _ _=>match vs with | .r (.v (.int _ i))::_=>(j+1-i).toNat | _=>0) rfl ?_ ?_
 ·push_cast [bO,a5,a8]
  exact ⟨i,by omega,by omega,rfl,(by first | rfl | exact ⟨rfl,rfl⟩ | exact ⟨rfl,rfl,rfl⟩)⟩
 rintro vs pos c ⟨i2,K,h2,J,rfl,rfl,rfl⟩;have F:IntKind.i64.wrap ((i2:Int)+1)=(i2:Int)+1:=a7 (by omega);by_cases C:i2<=j
 ·have g:decide ((i2:Int)<=j)=true:=by simp; omega
  have h:i2<e.size:=by omega
  push_cast [bO,b5,a5,a8,g,F,b6 (m:=m) p,b6 (m:=m) h,zab,zac,zaa]
  repeat refine sI ?_
  refine g7 (rz e[a]! e[i2]!) rfl trivial ?_
  push_cast [bO,b5,a5,a8,g,F,b6 (m:=m) p,b6 (m:=m) h,zab,zac,zaa]
  repeat refine sI ?_
  refine c7 (λ hc=>?_) (λ hc=>?_)
  ·push_cast [bO,b5,a5,a8,g,F]
   refine ⟨⟨i2+1,by omega,by omega,?_,(by first | rfl | exact ⟨rfl,rfl⟩ | exact ⟨rfl,rfl,rfl⟩)⟩,by omega⟩;rw [J,scanUp,if_pos (by simp [C]; simpa using hc)]
  have q:scanUp (λ x=>!ltInt e[a]! x) e j i=i2:=by rw [J,scanUp,if_neg (by simp; intro _; simpa using hc)]
  push_cast [bO,b5,a5,a8]
  refine d3 [(9,false),(10,false),(0,false),(1,false)] (λ vs pos c=>∃s:Nat,s<=j/\i2<=s+2/\scanDown (λ x=>ltInt e[a]! x) e i2 j=scanDown (λ x=>ltInt e[a]! x) e i2 s/\vs=[int .i64 i2,int .i64 s,.own 1000000 0 0 n,int .i64 a]/\pos=[bO e m]/\c=[])
   (λ vs _ _=>match vs with | _ :: .r (.v (.int _ j))::_=>j.toNat | _=>0) rfl ?_ ?_
  ·push_cast [bO,a5,a8]
   exact ⟨j,by omega,by omega,rfl,(by first | rfl | exact ⟨rfl,rfl⟩ | exact ⟨rfl,rfl,rfl⟩)⟩
  rintro vs pos c ⟨j2,H,U,B,rfl,rfl,rfl⟩;by_cases l:i2<=j2
  ·obtain ⟨k,rfl⟩:∃k,j2=k+1:=⟨j2-1,by omega⟩
   have g:decide ((i2:Int)<=(k:Int)+1)=true:=by simp; omega
   have A:decide ((i2:Int)>(k:Int)+1)=false:=by simp; omega
   have I:IntKind.i64.wrap ((k:Int)+1-1)=(k:Int):=by rw [a7 (by omega)]; omega
   have G:k+1<e.size:=by omega
   have h:i2<e.size:=by omega
   push_cast [bO,b5,a5,a8,g,I,b6 (m:=m) p,b6 (m:=m) G,zab,zac,zaa]
   repeat refine sI ?_
   refine g7 (rz e[a]! e[k+1]!) rfl trivial ?_
   push_cast [bO,b5,a5,a8,g,I,b6 (m:=m) p,b6 (m:=m) G,zab,zac,zaa]
   repeat refine sI ?_
   refine c7 (λ hc=>?_) (λ hc=>?_)
   ·push_cast [bO,b5,a5,a8,g,I]
    refine ⟨⟨k,by omega,by omega,?_,(by first | rfl | exact ⟨rfl,rfl⟩ | exact ⟨rfl,rfl,rfl⟩)⟩,by omega⟩;rw [B,scanDown,if_pos (by simp [l,hc])]
   have o:scanDown (λ x=>ltInt e[a]! x) e i2 j=k+1:=by rw [B,scanDown,if_neg (by simp [hc])]
   have u:=acy q o K H w;rw [if_neg (by omega)] at u;have D:k+1<(e.setIfInBounds i2 e[k+1]!).size:=by simpa using G
   push_cast [bO,b5,a5,a8,A,I,F,b6 (m:=m) h,b6 (m:=m) G,b6 (m:=m) D,o4 (m:=m) h,o4 (m:=m) D,zab,zac,zaa]
   repeat refine sI ?_
   refine ⟨⟨i2+1,k,swp e i2 (k+1),by omega,by omega,by omega,by rw [s7]; exact Y,by rw [L,u]; rfl,(by first | rfl | exact ⟨rfl,rfl⟩ | exact ⟨rfl,rfl,rfl⟩)⟩,by omega⟩
  have g:decide ((i2:Int)<=j2)=false:=by simp; omega
  have A:decide ((i2:Int)>j2)=true:=by simp; omega
  have o:scanDown (λ x=>ltInt e[a]! x) e i2 j=j2:=by
   rw [B];cases j2 with
   | zero=>rfl
   | succ k=>rw [scanDown,if_neg (by simp; omega)]
  have u:=acy q o K H w;rw [if_pos (by omega)] at u
  push_cast [bO,b5,a5,a8,g]
  repeat refine sI ?_
  try push_cast [bO,b5,a5,a8,A]
  rw [L,u]
  first | rfl | exact ⟨rfl,rfl⟩
 have g:decide ((i2:Int)<=j)=false:=by simp; omega
 have q:scanUp (λ x=>!ltInt e[a]! x) e j i=i2:=by rw [J,scanUp,if_neg (by simp; omega)]
 push_cast [bO,b5,a5,a8,g]
 repeat refine sI ?_
 refine d3 [(9,false),(10,false),(0,false),(1,false)] (λ vs pos c=>∃s:Nat,s<=j/\i2<=s+2/\scanDown (λ x=>ltInt e[a]! x) e i2 j=scanDown (λ x=>ltInt e[a]! x) e i2 s/\vs=[int .i64 i2,int .i64 s,.own 1000000 0 0 n,int .i64 a]/\pos=[bO e m]/\c=[])
  (λ vs _ _=>match vs with | _ :: .r (.v (.int _ j))::_=>j.toNat | _=>0) rfl ?_ ?_
 ·push_cast [bO,a5,a8]
  exact ⟨j,by omega,by omega,rfl,(by first | rfl | exact ⟨rfl,rfl⟩ | exact ⟨rfl,rfl,rfl⟩)⟩
 rintro vs pos c ⟨j2,H,U,B,rfl,rfl,rfl⟩;by_cases l:i2<=j2
 ·exact absurd l (by omega)
 have g:decide ((i2:Int)<=j2)=false:=by simp; omega
 have A:decide ((i2:Int)>j2)=true:=by simp; omega
 have o:scanDown (λ x=>ltInt e[a]! x) e i2 j=j2:=by
  rw [B];cases j2 with
  | zero=>rfl
  | succ k=>rw [scanDown,if_neg (by simp; omega)]
 have u:=acy q o K H w;rw [if_pos (by omega)] at u
 push_cast [bO,b5,a5,a8,g]
 repeat refine sI ?_
 try push_cast [bO,b5,a5,a8,A]
 rw [L,u]
 first | rfl | exact ⟨rfl,rfl⟩

open Go.Sort (swp ltInt scanUp scanDown partLoop partition)
theorem ahf {a:Nat} {e:Array Int} (c:scanUp (λ x=>ltInt x e[a]!) e j i=i2) (b:scanDown (λ x=>!ltInt x e[a]!) e i2 j=j2) (f:i<=i2) (d:j2<=j) (g:1<=i) :
 partLoop ltInt a i j e=if i2>j2 then (j2,e) else partLoop ltInt a (i2+1) (j2-1) (swp e i2 j2):=by
 rw [partLoop];simp only [c,b];split
 ·rfl
 rw [dif_pos (by omega)]
theorem apj (d:Array Int) (a b z:Nat) (h0:a+1<b) (hb:b<=d.size) (Y:z<d.size) (hn:d.size<=100000) (m:Nat) :
 a9 P0 89 [.own 1000000 0 0 d.size,int .i64 a,int .i64 b,int .i64 z] [bO d m] (.tup [int .i64 (partition ltInt d a b z).1,bl (partition ltInt d a b z).2.1]) [bO (partition ltInt d a b z).2.2 m]:=by
 refine dm.t func89 ?_;have W:a<d.size:=by omega
 have M:z<(d.setIfInBounds a d[z]!).size:=by simpa using Y
 have w1:IntKind.i64.wrap ((a:Int)+1)=(a:Int)+1:=a7 (by omega);obtain ⟨q,U⟩:∃q,b-1=q:=⟨_,rfl⟩
 have w2:IntKind.i64.wrap ((b:Int)-1)=(q:Int):=by rw [a7 (by omega)]; omega
 push_cast [dm,bO,b5,a5,a8,w1,w2,b6 (m:=m) W,b6 (m:=m) Y,b6 (m:=m) M,o4 (m:=m) W,o4 (m:=m) M,zae,zad,zab,zac,zaa]
 repeat refine sI ?_
 rw [show (d.setIfInBounds a d[z]!).setIfInBounds z d[a]! = swp d a z from rfl];have V:=s7 d a z;unfold partition;simp only [U];generalize hN:d.size=n at *;generalize swp d a z=c at *;have g:a<c.size:=by omega
 refine d3 [(10,false),(11,false),(0,false),(1,false)] (λ vs pos f=>∃H:Nat,a+1<=H/\H<=q+2/\scanUp (λ x=>ltInt x c[a]!) c q (a+1)=scanUp (λ x=>ltInt x c[a]!) c q H/\vs=[int .i64 H,int .i64 q,.own 1000000 0 0 n,int .i64 a]/\pos=[bO c m]/\f=[])
  (λ vs _ _=>match vs with | .r (.v (.int _ i))::_=>((q:Int)+1-i).toNat | _=>0) rfl ?_ ?_
 ·push_cast [bO,a5,a8]
  exact ⟨a+1,by omega,by omega,rfl,(by first | rfl | exact ⟨rfl,rfl⟩ | exact ⟨rfl,rfl,rfl⟩)⟩
 rintro vs pos f ⟨i2,P,X,J,rfl,rfl,rfl⟩;have E:IntKind.i64.wrap ((i2:Int)+1)=(i2:Int)+1:=a7 (by omega);by_cases w:i2<=q
 ·have h:decide ((i2:Int)<=q)=true:=by simp; omega
  have o:i2<c.size:=by omega
  push_cast [bO,b5,a5,a8,h,E,b6 (m:=m) g,b6 (m:=m) o,zab,zac,zaa]
  repeat refine sI ?_
  refine g7 (rz c[i2]! c[a]!) rfl trivial ?_
  push_cast [bO,b5,a5,a8,h,E,b6 (m:=m) g,b6 (m:=m) o,zab,zac,zaa]
  repeat refine sI ?_
  refine c7 (λ hc=>?_) (λ hc=>?_)
  ·push_cast [bO,b5,a5,a8,h,E]
   refine ⟨⟨i2+1,by omega,by omega,?_,(by first | rfl | exact ⟨rfl,rfl⟩ | exact ⟨rfl,rfl,rfl⟩)⟩,by omega⟩;rw [J,scanUp,if_pos (by simp [w]; simpa using hc)]
  have s:scanUp (λ x=>ltInt x c[a]!) c q (a+1)=i2:=by rw [J,scanUp,if_neg (by simp; intro _; simpa using hc)]
  push_cast [bO,b5,a5,a8]
  refine d3 [(10,false),(11,false),(0,false),(1,false)] (λ vs pos f=>∃u:Nat,u<=q/\i2<=u+2/\scanDown (λ x=>!ltInt x c[a]!) c i2 q=scanDown (λ x=>!ltInt x c[a]!) c i2 u/\vs=[int .i64 i2,int .i64 u,.own 1000000 0 0 n,int .i64 a]/\pos=[bO c m]/\f=[])
   (λ vs _ _=>match vs with | _ :: .r (.v (.int _ j))::_=>j.toNat | _=>0) rfl ?_ ?_
  ·push_cast [bO,a5,a8]
   exact ⟨q,by omega,by omega,rfl,(by first | rfl | exact ⟨rfl,rfl⟩ | exact ⟨rfl,rfl,rfl⟩)⟩
  rintro vs pos f ⟨j2,L,R,B,rfl,rfl,rfl⟩;by_cases l:i2<=j2
  ·obtain ⟨k,rfl⟩:∃k,j2=k+1:=⟨j2-1,by omega⟩
   have h:decide ((i2:Int)<=(k:Int)+1)=true:=by simp; omega
   have A:decide ((i2:Int)>(k:Int)+1)=false:=by simp; omega
   have G:IntKind.i64.wrap ((k:Int)+1-1)=(k:Int):=by rw [a7 (by omega)]; omega
   have F:k+1<c.size:=by omega
   have o:i2<c.size:=by omega
   push_cast [bO,b5,a5,a8,h,G,b6 (m:=m) g,b6 (m:=m) F,zab,zac,zaa]
   repeat refine sI ?_
   refine g7 (rz c[k+1]! c[a]!) rfl trivial ?_
   push_cast [bO,b5,a5,a8,h,G,b6 (m:=m) g,b6 (m:=m) F,zab,zac,zaa]
   repeat refine sI ?_
   refine c7 (λ hc=>?_) (λ hc=>?_)
   ·push_cast [bO,b5,a5,a8,h,G]
    refine ⟨⟨k,by omega,by omega,?_,(by first | rfl | exact ⟨rfl,rfl⟩ | exact ⟨rfl,rfl,rfl⟩)⟩,by omega⟩;rw [B,scanDown,if_pos (by simp [l]; simpa using hc)]
   have p:scanDown (λ x=>!ltInt x c[a]!) c i2 q=k+1:=by rw [B,scanDown,if_neg (by simp; intro _; simpa using hc)]
   have y:k+1<(c.setIfInBounds i2 c[k+1]!).size:=by simpa using F
   have S:¬i2>k+1:=by omega
   simp only [s,p,S,if_false,zap]
   push_cast [bO,b5,a5,a8,A,G,E,b6 (m:=m) o,b6 (m:=m) F,b6 (m:=m) y,o4 (m:=m) o,o4 (m:=m) y,zab,zac,zaa]
   repeat refine sI ?_
   rw [show (c.setIfInBounds i2 c[k+1]!).setIfInBounds (k+1) c[i2]! = swp c i2 (k+1) from rfl];obtain ⟨O,N⟩:∃O,partLoop ltInt a (i2+1) k (swp c i2 (k+1))=O:=⟨_,rfl⟩
   rw [N]
   refine d3 [(10,false),(11,false),(0,false),(1,false)] (λ vs pos f=>∃(i j:Nat) (e:Array Int),1<=i/\i<=j+2/\j<n/\e.size=n/\O=partLoop ltInt a i j e/\vs=[int .i64 i,int .i64 j,.own 1000000 0 0 n,int .i64 a]/\pos=[bO e m]/\f=[])
    (λ vs _ _=>match vs with | .r (.v (.int _ i)) :: .r (.v (.int _ j))::_=>(j+1-i).toNat | _=>0) rfl ?_ ?_
   ·push_cast [bO,a5,a8]
    exact ⟨i2+1,k,swp c i2 (k+1),by omega,by omega,by omega,by rw [s7]; exact V,N.symm,(by first | rfl | exact ⟨rfl,rfl⟩ | exact ⟨rfl,rfl,rfl⟩)⟩
   clear w l s p P X J h L R A B hc F y o E G;rintro vs pos f ⟨i,j,e,K,Z,hj,he,Q,rfl,rfl,rfl⟩;have g:a<e.size:=by omega
   push_cast [bO,a5,a8,b5]
   refine d3 [(10,false),(11,false),(0,false),(1,false)] (λ vs pos f=>∃H:Nat,i<=H/\H<=j+2/\scanUp (λ x=>ltInt x e[a]!) e j (i)=scanUp (λ x=>ltInt x e[a]!) e j H/\vs=[int .i64 H,int .i64 j,.own 1000000 0 0 n,int .i64 a]/\pos=[bO e m]/\f=[])
    (λ vs _ _=>match vs with | .r (.v (.int _ i))::_=>((j:Int)+1-i).toNat | _=>0) rfl ?_ ?_
   ·push_cast [bO,a5,a8]
    exact ⟨i,by omega,by omega,rfl,(by first | rfl | exact ⟨rfl,rfl⟩ | exact ⟨rfl,rfl,rfl⟩)⟩
   rintro vs pos f ⟨i2,P,X,J,rfl,rfl,rfl⟩;have E:IntKind.i64.wrap ((i2:Int)+1)=(i2:Int)+1:=a7 (by omega);by_cases w:i2<=j
   ·have h:decide ((i2:Int)<=j)=true:=by simp; omega
    have o:i2<e.size:=by omega
    push_cast [bO,b5,a5,a8,h,E,b6 (m:=m) g,b6 (m:=m) o,zab,zac,zaa]
    repeat refine sI ?_
    refine g7 (rz e[i2]! e[a]!) rfl trivial ?_
    push_cast [bO,b5,a5,a8,h,E,b6 (m:=m) g,b6 (m:=m) o,zab,zac,zaa]
    repeat refine sI ?_
    refine c7 (λ hc=>?_) (λ hc=>?_)
    ·push_cast [bO,b5,a5,a8,h,E]
     refine ⟨⟨i2+1,by omega,by omega,?_,(by first | rfl | exact ⟨rfl,rfl⟩ | exact ⟨rfl,rfl,rfl⟩)⟩,by omega⟩;rw [J,scanUp,if_pos (by simp [w]; simpa using hc)]
    have s:scanUp (λ x=>ltInt x e[a]!) e j (i)=i2:=by rw [J,scanUp,if_neg (by simp; intro _; simpa using hc)]
    push_cast [bO,b5,a5,a8]
    refine d3 [(10,false),(11,false),(0,false),(1,false)] (λ vs pos f=>∃u:Nat,u<=j/\i2<=u+2/\scanDown (λ x=>!ltInt x e[a]!) e i2 j=scanDown (λ x=>!ltInt x e[a]!) e i2 u/\vs=[int .i64 i2,int .i64 u,.own 1000000 0 0 n,int .i64 a]/\pos=[bO e m]/\f=[])
     (λ vs _ _=>match vs with | _ :: .r (.v (.int _ j))::_=>j.toNat | _=>0) rfl ?_ ?_
    ·push_cast [bO,a5,a8]
     exact ⟨j,by omega,by omega,rfl,(by first | rfl | exact ⟨rfl,rfl⟩ | exact ⟨rfl,rfl,rfl⟩)⟩
    rintro vs pos f ⟨j2,L,R,B,rfl,rfl,rfl⟩;by_cases l:i2<=j2
    ·obtain ⟨k,rfl⟩:∃k,j2=k+1:=⟨j2-1,by omega⟩
     have h:decide ((i2:Int)<=(k:Int)+1)=true:=by simp; omega
     have A:decide ((i2:Int)>(k:Int)+1)=false:=by simp; omega
     have G:IntKind.i64.wrap ((k:Int)+1-1)=(k:Int):=by rw [a7 (by omega)]; omega
     have F:k+1<e.size:=by omega
     have o:i2<e.size:=by omega
     push_cast [bO,b5,a5,a8,h,G,b6 (m:=m) g,b6 (m:=m) F,zab,zac,zaa]
     repeat refine sI ?_
     refine g7 (rz e[k+1]! e[a]!) rfl trivial ?_
     push_cast [bO,b5,a5,a8,h,G,b6 (m:=m) g,b6 (m:=m) F,zab,zac,zaa]
     repeat refine sI ?_
     refine c7 (λ hc=>?_) (λ hc=>?_)
     ·push_cast [bO,b5,a5,a8,h,G]
      refine ⟨⟨k,by omega,by omega,?_,(by first | rfl | exact ⟨rfl,rfl⟩ | exact ⟨rfl,rfl,rfl⟩)⟩,by omega⟩;rw [B,scanDown,if_pos (by simp [l]; simpa using hc)]
     have p:scanDown (λ x=>!ltInt x e[a]!) e i2 j=k+1:=by rw [B,scanDown,if_neg (by simp; intro _; simpa using hc)]
     have y:k+1<(e.setIfInBounds i2 e[k+1]!).size:=by simpa using F
     have I:=ahf s p P L K;rw [if_neg (by omega)] at I
     push_cast [bO,b5,a5,a8,A,G,E,b6 (m:=m) o,b6 (m:=m) F,b6 (m:=m) y,o4 (m:=m) o,o4 (m:=m) y,zab,zac,zaa]
     repeat refine sI ?_
     refine ⟨⟨i2+1,k,swp e i2 (k+1),by omega,by omega,by omega,by rw [s7]; exact he,by rw [Q,I]; rfl,(by first | rfl | exact ⟨rfl,rfl⟩ | exact ⟨rfl,rfl,rfl⟩)⟩,by omega⟩
    have h:decide ((i2:Int)<=j2)=false:=by simp; omega
    have A:decide ((i2:Int)>j2)=true:=by simp; omega
    have p:scanDown (λ x=>!ltInt x e[a]!) e i2 j=j2:=by
     rw [B];cases j2 with
     | zero=>rfl
     | succ k=>rw [scanDown,if_neg (by simp; omega)]
    push_cast [bO,b5,a5,a8,h]
    repeat refine sI ?_
    have I:=ahf s p P L K;rw [if_pos (by omega)] at I;have T:O=(j2,e):=by rw [Q,I]
    clear Q;subst T;have D:j2<e.size:=by omega
    have C:a<(e.setIfInBounds j2 e[a]!).size:=by simpa using g
    push_cast [bO,b5,a5,a8,A,b6 (m:=m) D,b6 (m:=m) g,b6 (m:=m) C,o4 (m:=m) D,o4 (m:=m) C,zab,zac,zaa]
    repeat refine sI ?_
    first | done | rfl | exact ⟨rfl,rfl⟩
   have h:decide ((i2:Int)<=j)=false:=by simp; omega
   have s:scanUp (λ x=>ltInt x e[a]!) e j (i)=i2:=by rw [J,scanUp,if_neg (by simp; omega)]
   push_cast [bO,b5,a5,a8,h]
   repeat refine sI ?_
   refine d3 [(10,false),(11,false),(0,false),(1,false)] (λ vs pos f=>∃u:Nat,u<=j/\i2<=u+2/\scanDown (λ x=>!ltInt x e[a]!) e i2 j=scanDown (λ x=>!ltInt x e[a]!) e i2 u/\vs=[int .i64 i2,int .i64 u,.own 1000000 0 0 n,int .i64 a]/\pos=[bO e m]/\f=[])
    (λ vs _ _=>match vs with | _ :: .r (.v (.int _ j))::_=>j.toNat | _=>0) rfl ?_ ?_
   ·push_cast [bO,a5,a8]
    exact ⟨j,by omega,by omega,rfl,(by first | rfl | exact ⟨rfl,rfl⟩ | exact ⟨rfl,rfl,rfl⟩)⟩
   rintro vs pos f ⟨j2,L,R,B,rfl,rfl,rfl⟩;by_cases l:i2<=j2
   ·exact absurd l (by omega)
   have h:decide ((i2:Int)<=j2)=false:=by simp; omega
   have A:decide ((i2:Int)>j2)=true:=by simp; omega
   have p:scanDown (λ x=>!ltInt x e[a]!) e i2 j=j2:=by
    rw [B];cases j2 with
    | zero=>rfl
    | succ k=>rw [scanDown,if_neg (by simp; omega)]
   push_cast [bO,b5,a5,a8,h]
   repeat refine sI ?_
   have I:=ahf s p P L K;rw [if_pos (by omega)] at I;have T:O=(j2,e):=by rw [Q,I]
   clear Q;subst T;have D:j2<e.size:=by omega
   have C:a<(e.setIfInBounds j2 e[a]!).size:=by simpa using g
   push_cast [bO,b5,a5,a8,A,b6 (m:=m) D,b6 (m:=m) g,b6 (m:=m) C,o4 (m:=m) D,o4 (m:=m) C,zab,zac,zaa]
   repeat refine sI ?_
   first | done | rfl | exact ⟨rfl,rfl⟩
  have h:decide ((i2:Int)<=j2)=false:=by simp; omega
  have A:decide ((i2:Int)>j2)=true:=by simp; omega
  have p:scanDown (λ x=>!ltInt x c[a]!) c i2 q=j2:=by
   rw [B];cases j2 with
   | zero=>rfl
   | succ k=>rw [scanDown,if_neg (by simp; omega)]
  push_cast [bO,b5,a5,a8,h]
  repeat refine sI ?_
  simp only [s,p,show i2>j2 from by omega,if_true];have D:j2<c.size:=by omega
  have C:a<(c.setIfInBounds j2 c[a]!).size:=by simpa using g
  push_cast [bO,b5,a5,a8,A,b6 (m:=m) D,b6 (m:=m) g,b6 (m:=m) C,o4 (m:=m) D,o4 (m:=m) C,zab,zac,zaa]
  repeat refine sI ?_
  first | done | rfl | exact ⟨rfl,rfl⟩
 have h:decide ((i2:Int)<=q)=false:=by simp; omega
 have s:scanUp (λ x=>ltInt x c[a]!) c q (a+1)=i2:=by rw [J,scanUp,if_neg (by simp; omega)]
 push_cast [bO,b5,a5,a8,h]
 repeat refine sI ?_
 refine d3 [(10,false),(11,false),(0,false),(1,false)] (λ vs pos f=>∃u:Nat,u<=q/\i2<=u+2/\scanDown (λ x=>!ltInt x c[a]!) c i2 q=scanDown (λ x=>!ltInt x c[a]!) c i2 u/\vs=[int .i64 i2,int .i64 u,.own 1000000 0 0 n,int .i64 a]/\pos=[bO c m]/\f=[])
  (λ vs _ _=>match vs with | _ :: .r (.v (.int _ j))::_=>j.toNat | _=>0) rfl ?_ ?_
 ·push_cast [bO,a5,a8]
  exact ⟨q,by omega,by omega,rfl,(by first | rfl | exact ⟨rfl,rfl⟩ | exact ⟨rfl,rfl,rfl⟩)⟩
 rintro vs pos f ⟨j2,L,R,B,rfl,rfl,rfl⟩;by_cases l:i2<=j2
 ·exact absurd l (by omega)
 have h:decide ((i2:Int)<=j2)=false:=by simp; omega
 have A:decide ((i2:Int)>j2)=true:=by simp; omega
 have p:scanDown (λ x=>!ltInt x c[a]!) c i2 q=j2:=by
  rw [B];cases j2 with
  | zero=>rfl
  | succ k=>rw [scanDown,if_neg (by simp; omega)]
 push_cast [bO,b5,a5,a8,h]
 repeat refine sI ?_
 simp only [s,p,show i2>j2 from by omega,if_true];have D:j2<c.size:=by omega
 have C:a<(c.setIfInBounds j2 c[a]!).size:=by simpa using g
 push_cast [bO,b5,a5,a8,A,b6 (m:=m) D,b6 (m:=m) g,b6 (m:=m) C,o4 (m:=m) D,o4 (m:=m) C,zab,zac,zaa]
 repeat refine sI ?_
 first | done | rfl | exact ⟨rfl,rfl⟩

open Go.Sort (swp ltInt scanSorted partialIns partialInsertionSort)
def y9:Mk P0 f86:={ x:=_ }
theorem alt {a b:Nat} (h:b-a<50):partialInsertionSort ltInt d a b=(d,decide (scanSorted ltInt d b (a+1)=b)):=by
 unfold partialInsertionSort;rw [partialIns];by_cases c:scanSorted ltInt d b (a+1)=b
 ·simp [c]
 simp [c,h]
theorem axi (d:Array Int) (a b:Nat) (y:a<b) (D:b<=d.size) (z:d.size<50) (m:Nat) :
 a9 P0 86 [.own 1000000 0 0 d.size,int .i64 a,int .i64 b] [bO d m] (bl (partialInsertionSort ltInt d a b).2) [bO d m]:=by
 refine y9.t func86 ?_;rw [alt (by omega)];have x:IntKind.i64.wrap ((a:Int)+1)=(a:Int)+1:=a7 (by omega);have s:IntKind.i64.wrap ((b:Int)-a)=(b:Int)-a:=a7 (by omega)
 push_cast [y9,bO,b5,a5,a8,x,zae,zad,zab,zac,zaa]
 repeat refine sI ?_
 generalize A:d.size=n at *
 refine d3 [(7,false),(8,false),(0,false),(1,false),(2,false)] (λ vs pos c=>vs=[int .i64 ((a:Int)+1),int .i64 0,.own 1000000 0 0 n,int .i64 a,int .i64 b]/\pos=[bO d m]/\c=[])
  (λ vs _ _=>0) rfl ?_ ?_
 ·push_cast [bO,a5,a8]
 rintro vs pos c ⟨rfl,rfl,rfl⟩;have q:decide ((0:Int)<5)=true:=by decide
 push_cast [bO,b5,a5,a8,q,zab,zac,zaa]
 refine d3 [(7,false),(8,false),(0,false),(1,false),(2,false)] (λ vs pos c=>∃i:Nat,a+1<=i/\i<=b/\scanSorted ltInt d b (a+1)=scanSorted ltInt d b i/\vs=[int .i64 i,int .i64 0,.own 1000000 0 0 n,int .i64 a,int .i64 b]/\pos=[bO d m]/\c=[])
  (λ vs _ _=>match vs with | .r (.v (.int _ i))::_=>(b-i).toNat | _=>0) rfl ?_ ?_
 ·push_cast [bO,a5,a8]
  exact ⟨a+1,by omega,by omega,rfl,(by first | rfl | exact ⟨rfl,rfl⟩ | exact ⟨rfl,rfl,rfl⟩)⟩
 rintro vs pos c ⟨i,C,B,o,rfl,rfl,rfl⟩;by_cases l:i<b
 ·obtain ⟨k,rfl⟩:∃k,i=k+1:=⟨i-1,by omega⟩
  have f:decide ((k:Int)+1<b)=true:=by simp; omega
  have p:decide ((k:Int)+1=b)=false:=by simp; omega
  have w:decide ((b:Int)-a<50)=true:=by simp; omega
  have j:IntKind.i64.wrap ((k:Int)+1+1)=(k:Int)+1+1:=a7 (by omega);have h:IntKind.i64.wrap ((k:Int)+1-1)=(k:Int):=by rw [a7 (by omega)]; omega
  have u:k<d.size:=by omega
  have g:k+1<d.size:=by omega
  push_cast [bO,b5,a5,a8,f,j,h,b6 (m:=m) u,b6 (m:=m) g,zab,zac,zaa]
  repeat refine sI ?_
  refine g7 (rz d[k+1]! d[k]!) rfl trivial ?_
  push_cast [bO,b5,a5,a8,f,j,h,b6 (m:=m) u,b6 (m:=m) g,zab,zac,zaa]
  repeat refine sI ?_
  refine c7 (λ hc=>?_) (λ hc=>?_)
  ·push_cast [bO,b5,a5,a8,f,j,h]
   refine ⟨⟨k+2,by omega,by omega,?_,(by first | rfl | exact ⟨rfl,rfl⟩ | exact ⟨rfl,rfl,rfl⟩)⟩,by omega⟩;rw [o,scanSorted,if_pos (by simp [l]; simpa using hc)]
  have e:scanSorted ltInt d b (a+1)=k+1:=by rw [o,scanSorted,if_neg (by simp; intro _; simpa using hc)]
  push_cast [bO,b5,a5,a8,f,p,w,s,j,h]
  refine c7 (λ hc=>?_) (λ hc=>?_)
  ·exfalso;simp at hc;omega
  push_cast [bO,b5,a5,a8,w,s]
  rw [e];simp;omega
 have f:decide ((i:Int)<b)=false:=by simp; omega
 have p:decide ((i:Int)=b)=true:=by simp; omega
 have e:scanSorted ltInt d b (a+1)=i:=by rw [o,scanSorted,if_neg (by simp; omega)]
 push_cast [bO,b5,a5,a8,f,p]
 repeat refine sI ?_
 refine c7 (λ hc=>?_) (λ hc=>?_)
 ·push_cast [bO,b5,a5,a8]
  rw [e];simp;omega
 exfalso;simp at hc;omega

open Go.Sort (swp ltInt bitsLen xorNext)
def ln:Mk P0 f122:={ x:=_ }
def ol:Mk P0 f123:={ x:=_ }
theorem aof (x:Int):IntKind.u64.wrap x=x%18446744073709551616:=by simp [IntKind.wrap,IntKind.bits,IntKind.signed]
theorem qj {x:Int} (h:0<=x/\x<18446744073709551616):IntKind.u64.wrap x=x:=by rw [aof]; omega
theorem as3 (a:UInt64) (k:Nat) (b:k<64):IntKind.u64.wrap ((a.toNat:Int)*2^k)=((a <<< (UInt64.ofNat k)).toNat:Int):=by
 have c:(UInt64.ofNat k).toNat=k:=by simp; omega
 rw [UInt64.toNat_shiftLeft,c,Nat.mod_eq_of_lt b,Nat.shiftLeft_eq,aof];simp
theorem azb (a:UInt64) (k:Nat) (c:k<64):(a.toNat:Int).fdiv (2^k)=((a >>> (UInt64.ofNat k)).toNat:Int):=by
 have b:(UInt64.ofNat k).toNat=k:=by simp; omega
 rw [UInt64.toNat_shiftRight,b,Nat.mod_eq_of_lt c,Nat.shiftRight_eq_div_pow];have e:=a.toNat_lt;have d:((2^k:Nat):Int)=(2:Int)^k:=by simp
 rw [<- d,Int.fdiv_eq_ediv_of_nonneg _ (Int.natCast_nonneg _),<- Int.natCast_ediv]
theorem awo (a:UInt64):zal IntKind.u64.bits (a.toNat:Int)=a.toBitVec:=by
 apply BitVec.eq_of_toNat_eq;rw [BitVec.toNat_ofInt];have:=a.toNat_lt;show ((a.toNat:Int)%((2^64:Nat):Int)).toNat=a.toNat;omega
theorem aza (a b:UInt64):IntKind.u64.wrap ((zal IntKind.u64.bits (a.toNat:Int) ^^^ zal IntKind.u64.bits (b.toNat:Int)).toNat:Int)=((a ^^^ b).toNat:Int):=by
 rw [awo,awo];have h:(a.toBitVec ^^^ b.toBitVec).toNat=(a ^^^ b).toNat:=rfl;have:=(a ^^^ b).toNat_lt;refine (congrArg IntKind.u64.wrap (congrArg Int.ofNat h)).trans ?_;exact qj ⟨Int.natCast_nonneg _,Int.ofNat_lt.2 this⟩
theorem ava (n:Nat) (d:n<64):a9 P0 91 [int .u64 n] [] (int .i64 (bitsLen n)) []:=by
 refine aea rfl (by decide) ?_;have a:decide ((n:Int)>=4294967296)=false:=by simp; omega
 have b:decide ((n:Int)>=65536)=false:=by simp; omega
 have c:decide ((n:Int)>=256)=false:=by simp; omega
 have w:IntKind.u8.wrap (n:Int)=n:=by simp [IntKind.wrap,IntKind.bits,IntKind.signed]; omega
 push_cast [acj,a,b,c,w,zab,zad]
 refine ⟨⟨by omega,(show (n:Int)<((256:Nat):Int) by omega)⟩,?_⟩;refine congrArg (λ z=>AV.r (.v (.int .i64 z))) ?_;clear a b c w
 revert n
 decide +kernel
theorem aki (n:Nat) (a:n<64):a9 P0 52 [int .u64 n] [] (int .i64 (bitsLen n)) []:=by
 refine aes.t func52 ?_;have w:IntKind.u64.wrap (n:Int)=n:=qj (by omega)
 push_cast [aes,w,zad]
 refine a6 (ava n a) rfl trivial ?_
 push_cast
theorem axn (n:Nat) (a:n<64):a9 P0 122 [int .i64 n] [] (int .u64 (1 <<< bitsLen n:Nat)) []:=by
 refine ln.t func122 ?_;have w:IntKind.u64.wrap (n:Int)=n:=qj (by omega)
 push_cast [ln,w,zad]
 refine a6 (aki n a) rfl trivial ?_
 push_cast
 refine ⟨by omega,?_⟩;refine congrArg (λ z=>AV.r (.v (.int .u64 z))) ?_;clear w
 revert n
 decide +kernel
theorem axo (r:UInt64):a9 P0 123 [.ptr 1000000 0 0] [.box [int .u64 r.toNat]] (int .u64 (xorNext r).toNat) [.box [int .u64 (xorNext r).toNat]]:=by
 refine ol.t func123 ?_;have b:(min (Int.toNat 13) IntKind.u64.bits)=13:=rfl;have i:(min (Int.toNat 7) IntKind.u64.bits)=7:=rfl;have h:(min (Int.toNat 17) IntKind.u64.bits)=17:=rfl;have f:∀a:UInt64,a <<< (UInt64.ofNat 13)=a <<< 13:=λ _=>rfl;have e:∀a:UInt64,a >>> (UInt64.ofNat 7)=a >>> 7:=λ _=>rfl;have c:∀a:UInt64,a <<< (UInt64.ofNat 17)=a <<< 17:=λ _=>rfl;have g:=λ a=>as3 a 13 (by decide);have j:=λ a=>azb a 7 (by decide);have d:=λ a=>as3 a 17 (by decide);simp only [ol,b,i,h,g,j,d,f,e,c,aza,push_cast,↓reduceIte,reduceCtorEq,zB,zE,zA,zS,zL,zD,zM]
 repeat refine sI ?_
 rfl

open Go.Sort (swp ltInt bitsLen xorNext breakStep breakPatterns)
def bk:Mk P0 f83:={ x:=_ }
def brk (a l b:Nat):Nat->Nat->UInt64×Array Int->Array Int
 | 0,_,st=>st.2
 | s+1,idx,st=>brk a l b s (idx+1) (breakStep a l b st idx)
theorem ayz {a b:Nat} (h:8<=b-a):breakPatterns d a b=brk a (b-a) (1 <<< bitsLen (b-a)) 3 (a+(b-a)/4*2-1) (UInt64.ofNat (b-a),d):=by
 unfold breakPatterns;simp only [show b-a>=8 from h,if_true]
 rfl
theorem an2 (x a:Nat) (k:Nat) (c:k<=62) (b:a=2^k) (hx:x<18446744073709551616):IntKind.u64.wrap ((zal IntKind.u64.bits (x:Int) &&& zal IntKind.u64.bits ((a:Int)-1)).toNat)=((x &&& (a-1):Nat):Int):=by
 rw [an1 x ((a:Int)-1) k (by omega) (by rw [b]; simp) (Int.natCast_nonneg _) (by omega),b,Nat.and_two_pow_sub_one_eq_mod];simp
theorem av2 (d:Array Int) (a b:Nat) (hl:8<=b-a) (hb:b<=d.size) (hn:d.size<50) (m:Nat) :
 a9 P0 83 [.own 1000000 0 0 d.size,int .i64 a,int .i64 b] [bO d m] (.tup []) [bO (breakPatterns d a b) m]:=by
 refine bk.t func83 ?_;rw [ayz hl];have x:=Go.Sort.lt_two_pow_bitsLen (b-a);have u:=Go.Sort.two_pow_bitsLen_le (n:=b-a) (by omega);obtain ⟨l,M⟩:∃l,b-a=l:=⟨_,rfl⟩
 obtain ⟨q,hq⟩:∃q,l/4=q:=⟨_,rfl⟩
 obtain ⟨B,N⟩:∃B,bitsLen l=B:=⟨_,rfl⟩
 obtain ⟨c,w⟩:∃c,1 <<< B=c:=⟨_,rfl⟩
 have g:c=2^B:=by rw [<- w,Nat.shiftLeft_eq,Nat.one_mul]
 rw [M] at x u |-;rw [N] at x u;rw [N,w,hq]
 have E:B<=62:=by
  rcases Nat.lt_or_ge 62 B with h | h
  ·have:=Nat.pow_le_pow_right (n:=2) (by decide) (show 7<=B by omega);omega
  exact h
 rw [<- g] at x u;obtain ⟨j,O⟩:∃j,a+q*2-1=j:=⟨_,rfl⟩
 have X:IntKind.i64.wrap ((b:Int)-a)=(l:Int):=by rw [a7 (by omega)]; omega
 have J:(l:Int).tdiv 4=(q:Int):=by rw [zak (by omega)]; omega
 have p:IntKind.i64.wrap (q:Int)=(q:Int):=a7 (by omega);have K:IntKind.i64.wrap ((q:Int)*2)=(q:Int)*2:=a7 (by omega);have L:IntKind.i64.wrap ((a:Int)+(q:Int)*2)=(a:Int)+(q:Int)*2:=a7 (by omega);have T:IntKind.i64.wrap ((a:Int)+(q:Int)*2-1)=(j:Int):=by rw [a7 (by omega)]; omega
 have w5:IntKind.i64.wrap ((a:Int)+(q:Int)*2+1)=(j:Int)+2:=by rw [a7 (by omega)]; omega
 have Y:IntKind.u64.wrap (l:Int)=(l:Int):=qj (by omega);have w7:IntKind.u64.wrap ((c:Int)-1)=(c:Int)-1:=qj (by omega);have U:decide ((l:Int)>=8)=true:=by simp; omega
 push_cast [bk,bO,b5,a5,a8,X,J,p,K,L,T,Y,U,zae,zad,zab,zac,zaa]
 repeat refine sI ?_
 refine a6 (axn l (by omega)) rfl trivial ?_;rw [N,w]
 push_cast [bO,b5,a5,a8,X,J,p,K,L,T,Y,U,zae,zad,zab,zac,zaa]
 repeat refine sI ?_
 generalize hN:d.size=n at *;obtain ⟨P,D⟩:∃P,brk a l c 3 j (UInt64.ofNat l,d)=P:=⟨_,rfl⟩
 rw [O,D]
 refine d3 [(9,false),(0,false),(1,false),(6,false),(7,false),(8,false)] (λ vs pos G=>∃(s idx:Nat) (r:UInt64) (e:Array Int),s+idx=j+3/\s<=3/\e.size=n/\P=brk a l c s idx (r,e)/\vs=[int .i64 idx,.own 1000000 0 0 n,int .i64 a,int .i64 l,.ptr 2000000 0 0,int .u64 c]/\pos=[bO e m]/\G=[.box [int .u64 r.toNat]])
  (λ vs _ _=>match vs with | .r (.v (.int _ i))::_=>((j:Int)+3-i).toNat | _=>0) rfl ?_ ?_
 ·push_cast [bO,a5,a8]
  refine ⟨3,j,UInt64.ofNat l,d,by omega,by omega,hN,D.symm,(by first | rfl | exact ⟨rfl,rfl⟩ | exact ⟨rfl,rfl,rfl⟩),?_⟩;have:(UInt64.ofNat l).toNat=l:=by simp; omega
  rw [this];exact ⟨rfl,rfl⟩
 rintro vs pos G ⟨s,idx,r,e,h1,h2,Z,S,rfl,rfl,rfl⟩
 push_cast [bO,b5,a5,a8,J,p,K,L,w5,zab,zac,zaa]
 repeat refine sI ?_
 refine c7 (λ hc=>?_) (λ hc=>?_)
 ·obtain ⟨s',rfl⟩:∃s',s=s'+1:=⟨s-1,by simp at hc; omega⟩
  push_cast [bO,b5,a5,a8,zab,zac,zaa]
  refine a6 (axo r) rfl ⟨rfl,trivial⟩ ?_;have hx:=(xorNext r).toNat_lt;have k:=an2 (xorNext r).toNat c B E g hx;obtain ⟨o,I⟩:∃o,(xorNext r).toNat &&& (c-1)=o:=⟨_,rfl⟩
  rw [I] at k;have h0:o<=c-1:=by rw [<- I]; exact Nat.and_le_right
  have wo:IntKind.i64.wrap (o:Int)=(o:Int):=a7 (by omega)
  push_cast [bO,b5,a5,a8,w7,k,wo,zab,zac,zaa]
  repeat refine sI ?_
  have f:idx<e.size:=by omega
  have W:IntKind.i64.wrap ((idx:Int)+1)=(idx:Int)+1:=a7 (by omega)
  have F:∀t:Nat,t<l->(breakStep a l c (r,e) idx)=(xorNext r,swp e idx (a+t))->brk a l c (s'+1) idx (r,e)=brk a l c s' (idx+1) (xorNext r,swp e idx (a+t)):=λ t V h=>by
   rw [brk,h]
  refine c7 (λ hc=>?_) (λ hc=>?_)
  ·have h4:l<=o:=by simp at hc; omega
   obtain ⟨t,rfl⟩:∃t,o=l+t:=⟨o-l,by omega⟩
   have V:t<l:=by omega
   have wt:IntKind.i64.wrap (((l+t:Nat):Int)-l)=(t:Int):=by rw [a7 (by omega)]; omega
   have y:IntKind.i64.wrap ((a:Int)+t)=((a+t:Nat):Int):=by rw [a7 (by omega)]; omega
   have H:a+t<e.size:=by omega
   have C:a+t<(e.setIfInBounds idx e[a+t]!).size:=by simpa using H
   have A:=F t V (by
    unfold breakStep;simp only [I];rw [if_pos (by omega)]
    simp)
   generalize Q:a+t=z at *;generalize h5:l+t=h3 at *
   push_cast [bO,b5,a5,a8,wt,y,W,b6 (m:=m) f,b6 (m:=m) H,b6 (m:=m) C,o4 (m:=m) f,o4 (m:=m) C,zab,zac,zaa]
   repeat refine sI ?_
   refine ⟨⟨s',idx+1,xorNext r,swp e idx z,by omega,by omega,by rw [s7]; exact Z,by rw [S,A],(by first | rfl | exact ⟨rfl,rfl⟩ | exact ⟨rfl,rfl,rfl⟩)⟩,by omega⟩
  have R:o<l:=by simp at hc; omega
  have y:IntKind.i64.wrap ((a:Int)+o)=((a+o:Nat):Int):=by rw [a7 (by omega)]; omega
  have H:a+o<e.size:=by omega
  have C:a+o<(e.setIfInBounds idx e[a+o]!).size:=by simpa using H
  have A:=F o R (by
   unfold breakStep;simp only [I]
   rw [if_neg (by omega)])
  generalize Q:a+o=z at *
  push_cast [bO,b5,a5,a8,y,W,b6 (m:=m) f,b6 (m:=m) H,b6 (m:=m) C,o4 (m:=m) f,o4 (m:=m) C,zab,zac,zaa]
  repeat refine sI ?_
  refine ⟨⟨s',idx+1,xorNext r,swp e idx z,by omega,by omega,by rw [s7]; exact Z,by rw [S,A],(by first | rfl | exact ⟨rfl,rfl⟩ | exact ⟨rfl,rfl,rfl⟩)⟩,by omega⟩
 have hs:s=0:=by simp at hc; omega
 subst hs
 push_cast [bO,b5,a5,a8,zab,zac,zaa]
 rw [S]
 rfl

open Go.Sort (swp ltInt bitsLen breakPatterns pdq insertionSort heapSort choosePivot Hint reverseRange partialInsertionSort partition partitionEqual Below PermIn SWO)
structure Rnd (e:Array Int) (a b limit:Nat) (wb wp:Bool) (d1:Array Int) (l1:Nat) (d2:Array Int) (pv:Nat) (hint:Hint) (F:Bool):Prop where
 g1:(if !wb then breakPatterns e a b else e)=d1
 g2:(if !wb then limit-1 else limit)=l1
 g3:(if (choosePivot ltInt d1 a b).2=.decreasing then reverseRange d1 a b else d1)=d2
 g4:(if (choosePivot ltInt d1 a b).2=.decreasing then (b-1)-((choosePivot ltInt d1 a b).1-a) else (choosePivot ltInt d1 a b).1)=pv
 g5:(if (choosePivot ltInt d1 a b).2=.decreasing then Hint.increasing else (choosePivot ltInt d1 a b).2)=hint
 g6:((wb&&wp&&decide (hint=.increasing))&&(partialInsertionSort ltInt d2 a b).2)=F
section
variable {e d1 d2:Array Int} {a b limit l1 pv:Nat} {wb wp F:Bool} {hint:Hint}
theorem api (h:b-a<=12):pdq ltInt e a b limit wb wp=insertionSort ltInt e a b:=by rw [pdq,if_pos h]
theorem arq (h:¬b-a<=12) (c:limit=0):pdq ltInt e a b limit wb wp=heapSort ltInt e a b:=by rw [pdq,if_neg h,if_pos c]
theorem azn (d:b-a<50) (c:Bool):(if c=true then partialInsertionSort ltInt d2 a b else (d2,false))=(d2,c&&(partialInsertionSort ltInt d2 a b).2):=by
 cases c
 ·rfl
 simp only [if_true,Bool.true_and];rw [alt d]
theorem Rnd.eq (R:Rnd e a b limit wb wp d1 l1 d2 pv hint F) (h:¬b-a<=12) (d:limit≠0) (c:b-a<50) :
 pdq ltInt e a b limit wb wp=if F=true then d2 else
  if (decide (a>0) && !ltInt d2[a-1]! d2[pv]!)=true then
   match partitionEqual ltInt d2 a b pv with
   | (mid,d4)=>if _h:a<mid/\mid<=b then pdq ltInt d4 mid b l1 wb wp else d4
  else
   match partition ltInt d2 a b pv with
   | (mid,ap,d4)=>
     if _h:a<=mid/\mid<b then
      if mid-a<b-mid then pdq ltInt (pdq ltInt d4 a mid l1 true true) (mid+1) b l1 (decide (mid-a>=(b-a)/8)) ap
      else pdq ltInt (pdq ltInt d4 (mid+1) b l1 true true) a mid l1 (decide (b-mid>=(b-a)/8)) ap
     else d4:=by
 rw [pdq,if_neg h,if_neg d];simp only [R.g1,R.g2,R.g3,R.g4,R.g5,azn c,R.g6]
theorem Rnd.facts (R:Rnd e a b limit wb wp d1 l1 d2 pv hint F) (h:a<b) (d:b<=e.size) (i:Below ltInt a b e) :
 d1.size=e.size/\d2.size=e.size/\l1<=limit/\Below ltInt a b d2/\a<=pv/\pv<b:=by
 have c:PermIn a b e d1:=by
  rw [<- R.g1];split
  ·exact Go.Sort.breakPatterns_holds e a b (by omega) d
  exact Go.Sort.permIn_refl e a b
 have f:b<=d1.size:=by rw [c.1]; exact d
 have g:PermIn a b d1 d2:=by
  rw [<- R.g3];split
  ·exact Go.Sort.reverseRange_holds d1 a b (by omega) f
  exact Go.Sort.permIn_refl d1 a b
 have hc:=Go.Sort.choosePivot_holds ltInt d1 a b h;refine ⟨c.1,g.1.trans c.1,by rw [<- R.g2]; split<;>omega,(i.perm d c).perm f g,?_,?_⟩
 ·rw [<- R.g4]; split<;>omega
 rw [<- R.g4]; split<;>omega
theorem Rnd.eqs (R:Rnd e a b limit wb wp d1 l1 d2 pv hint F) (h:¬b-a<=12) (i:b<=e.size) (k:Below ltInt a b e)
 (d:(decide (a>0) && !ltInt d2[a-1]! d2[pv]!)=true) {c:Nat} {f:Array Int} (hx:partitionEqual ltInt d2 a b pv=(c,f)) :
 a<c/\c<=b/\f.size=e.size/\Below ltInt c b f:=by
 obtain ⟨s,l,r,o,q,p⟩:=R.facts (by omega) i k;simp only [Bool.and_eq_true,decide_eq_true_eq,Bool.not_eq_true'] at d;obtain ⟨n,g,j,m,_⟩:=Go.Sort.round_eq Go.Sort.swo_ltInt (Go.Sort.partitionEqual_holds ltInt) d.1 q p (by omega) o d.2 hx;exact ⟨n,g,j.trans l,m⟩
theorem Rnd.parts (R:Rnd e a b limit wb wp d1 l1 d2 pv hint F) (h:¬b-a<=12) (t:b<=e.size) (o:Below ltInt a b e) {c:Nat} {p:Bool} {d:Array Int} (hx:partition ltInt d2 a b pv=(c,p,d)) :
 a<=c/\c<b/\d.size=e.size/\Below ltInt a c d/\Below ltInt (c+1) b d /\
 (pdq ltInt d a c l1 true true).size=e.size/\Below ltInt (c+1) b (pdq ltInt d a c l1 true true) /\
 (pdq ltInt d (c+1) b l1 true true).size=e.size/\Below ltInt a c (pdq ltInt d (c+1) b l1 true true):=by
 obtain ⟨v,k,w,m,u,s⟩:=R.facts (by omega) t o;obtain ⟨l,r,f,i,g,n,q⟩:=Go.Sort.round_part Go.Sort.swo_ltInt (Go.Sort.partition_holds ltInt) u s (by omega) m hx;have j:=Go.Sort.pdq_sorts ltInt Go.Sort.swo_ltInt d a c l1 true true l (by omega) i;have p2:=Go.Sort.pdq_sorts ltInt Go.Sort.swo_ltInt d (c+1) b l1 true true (by omega) (by omega) g;exact ⟨l,r,f.trans k,i,g,j.1.1.trans (f.trans k),(n _ j.1 j.2).1,p2.1.1.trans (f.trans k),(q _ p2.1 p2.2).1⟩
end

open Go.Sort (swp ltInt bitsLen breakPatterns pdq insertionSort heapSort choosePivot Hint reverseRange partialInsertionSort partition partitionEqual Below PermIn SWO)
def u3:Mk P0 f51:={ x:=_ }
theorem adt (i:Nat) (x y:Nat×Ob) (f:Obs):upd i x (upd i y f)=upd i x f:=by
 funext n;simp only [upd];split<;>rfl
def asw (m N:Nat):Prop:=∀(d:Array Int) (a b c:Nat),b-a<=N->a<=b->b<=d.size->d.size<50->c<=100->Below ltInt a b d ->
 a9 P0 51 [.own 1000000 0 0 d.size,int .i64 a,int .i64 b,int .i64 c] [bO d m] (.tup []) [bO (pdq ltInt d a b c true true) m]
theorem kq {f g:Array Int} (h:g.size=f.size):d7 [bO f m] [bO g m]:=⟨by rw [b5,b5,h],trivial⟩
theorem arp (m N:Nat) (ih:∀N',N'<N->asw m N'):asw m N:=by
 intro d a b i hN O hb hn h1 hB;refine u3.t func51 ?_;obtain ⟨RR,B⟩:∃RR,pdq ltInt d a b i true true=RR:=⟨_,rfl⟩
 rw [B]
 push_cast [u3,bO,b5,a5,a8,zae,zad,zab,zac,zaa]
 repeat refine sI ?_
 obtain ⟨n,h5⟩:∃n,d.size=n:=⟨_,rfl⟩
 rw [h5] at hb hn |-
 refine d3 [(8,false),(9,false),(0,false),(1,false),(2,false),(3,false)] (λ vs pos hk=>∃(a b i:Nat) (M T:Bool) (e:Array Int),a<=b/\b<=n/\e.size=n/\b-a<=N/\i<=100/\Below ltInt a b e/\RR=pdq ltInt e a b i M T/\vs=[bl M,bl T,.own 1000000 0 0 n,int .i64 a,int .i64 b,int .i64 i]/\pos=[bO e m]/\hk=[])
  (λ vs _ _=>match vs with | [_,_,_,.r (.v (.int _ a)),.r (.v (.int _ b)),_]=>(b-a).toNat | _=>0) rfl ?_ ?_
 ·push_cast [bO,a5,a8]
  exact ⟨a,b,i,true,true,d,O,hb,h5,hN,h1,hB,B.symm,(by first | rfl | exact ⟨rfl,rfl⟩ | exact ⟨rfl,rfl,rfl⟩)⟩
 clear B hB h1 hN O hb h5;rintro vs pos hk ⟨a,b,i,M,T,e,O,hb,W,hN,h1,hB,B,rfl,rfl,rfl⟩;have w0:IntKind.i64.wrap ((b:Int)-a)=(b:Int)-a:=a7 (by omega);obtain ⟨l,hl⟩:∃l,b-a=l:=⟨_,rfl⟩
 have w0:IntKind.i64.wrap ((b:Int)-a)=(l:Int):=by rw [a7 (by omega)]; omega
 push_cast [bO,b5,a5,a8,w0,zab,zac,zaa]
 refine c7 (λ hc=>?_) (λ hc=>?_)
 ·have S:b-a<=12:=by simp at hc; omega
  push_cast [bO,b5,a5,a8,zab,zac,zaa]
  have o:=az8 e a b O (by omega) (by omega) m;rw [W] at o;refine a6 o rfl (kq (Go.Sort.insertionSort_holds Go.Sort.swo_ltInt e a b O (by omega)).1.1) ?_;rw [B,api S]
  push_cast [bO,b5,a5,a8,zab,zac,zaa]
 have S:¬b-a<=12:=by simp at hc; omega
 push_cast [bO,b5,a5,a8,zab,zac,zaa]
 refine c7 (λ h8=>?_) (λ h8=>?_)
 ·have h0:i=0:=by simp at h8; omega
  push_cast [bO,b5,a5,a8,zab,zac,zaa]
  have o:=aya e a b (by omega) (by omega) (by omega) m;rw [W] at o;refine a6 o rfl (kq (Go.Sort.heapSort_holds Go.Sort.swo_ltInt e a b O (by omega)).1.1) ?_;rw [B,arq S h0]
  push_cast [bO,b5,a5,a8,zab,zac,zaa]
 have h0:i≠0:=by simp at h8; omega
 push_cast [bO,b5,a5,a8,zab,zac,zaa]
 refine aby (λ E ob=>∃(V:Array Int) (I:Nat),(if !M then breakPatterns e a b else e)=V/\(if !M then i-1 else i)=I/\E 0=.own 1000000 0 0 n/\E 1=int .i64 a/\E 2=int .i64 b/\E 3=int .i64 I/\E 8=bl M/\E 9=bl T/\E 10=int .i64 l/\ob=upd 1000000 (0,bO V m) (λ _=>none)) ?_ (λ ha=>?_) (λ ha=>?_)
 ·rintro E ob ⟨V,I,q1,q2,u,p,s,w,q,z,g,rfl⟩
  have h2:V.size=n:=by
   rw [<- W,<- q1];split
   ·exact (Go.Sort.breakPatterns_holds e a b O (by omega)).1
   rfl
  push_cast [bO,b5,a5,a8,u,p,s,w,q,z,g,zab,zac,zaa]
  have o:=auz V a b (by omega) (by omega) (by omega) m;rw [h2] at o;refine a6 o rfl (kq rfl) ?_;clear o;obtain ⟨c,h,h3⟩:∃c h,choosePivot ltInt V a b=(c,h):=⟨_,_,rfl⟩
  have hm:=Go.Sort.choosePivot_holds ltInt V a b (by omega);rw [h3] at hm |-;simp only at hm
  push_cast [bO,b5,a5,a8,u,p,s,w,q,z,g,zab,zac,zaa]
  refine aby (λ E ob=>∃(C:Array Int) (K:Nat) (A:Hint),(if h=.decreasing then reverseRange V a b else V)=C/\(if h=.decreasing then (b-1)-(c-a) else c)=K/\(if h=.decreasing then Hint.increasing else h)=A/\E 0=.own 1000000 0 0 n/\E 1=int .i64 a/\E 2=int .i64 b/\E 3=int .i64 I/\E 8=bl M/\E 9=bl T/\E 10=int .i64 l/\E 11=int .i64 K/\E 12=int .i64 (ad3 A)/\ob=upd 1000000 (0,bO C m) (λ _=>none)) ?_ (λ hg=>?_) (λ hg=>?_)
  ·clear u p s w q z g E;rintro E ob ⟨C,K,A,q3,q4,q5,u,p,s,w,q,z,g,k,U,rfl⟩
   push_cast [bO,b5,a5,a8,u,p,s,w,q,z,g,k,U,zab,zac,zaa]
   have hG:(bif bif M then T else false then ad3 A == 1 else false)=(M&&T&&decide (A=.increasing)):=by cases M<;>cases T<;>cases A<;>rfl
   have R:Rnd e a b i M T V I C K A ((M&&T&&decide (A=.increasing))&&(partialInsertionSort ltInt C a b).2):=⟨q1,q2,by rw [h3]; exact q3,by rw [h3]; exact q4,by rw [h3]; exact q5,rfl⟩
   obtain ⟨hw,h4,g3,hz,hu,hv⟩:=R.facts (by omega) (by omega) hB;have j:=R.eq S h0 (by omega);refine aby (λ E ob=>((M&&T&&decide (A=.increasing))&&(partialInsertionSort ltInt C a b).2)=false/\E 0=.own 1000000 0 0 n/\E 1=int .i64 a/\E 2=int .i64 b/\E 3=int .i64 I/\E 8=bl M/\E 9=bl T/\E 10=int .i64 l/\E 11=int .i64 K/\ob=upd 1000000 (0,bO C m) (λ _=>none)) ?_ (λ Y=>?_) (λ Y=>?_)
   ·clear u p s w q z g k U E;rintro E ob ⟨hF,u,p,s,w,q,z,g,k,rfl⟩;rw [hF] at R j;rw [if_neg (by simp)] at j;clear hG hF;by_cases g2:0<a
    ·obtain ⟨D,rfl⟩:∃D,a=D+1:=⟨a-1,by omega⟩
     have g0:decide ((D:Int)+1>0)=true:=by rw [decide_eq_true_eq]; omega
     have wk:IntKind.i64.wrap ((D:Int)+1-1)=(D:Int):=by rw [a7 (by omega)]; omega
     have k1:D<C.size:=by omega
     have k2:K<C.size:=by omega
     push_cast [bO,b5,a5,a8,g0,wk,u,p,s,w,q,z,g,k,b6 (m:=m) k1,b6 (m:=m) k2,zab,zac,zaa]
     repeat refine sI ?_
     refine g7 (rz C[D]! C[K]!) rfl trivial ?_
     push_cast [bO,b5,a5,a8,g0,wk,u,p,s,w,q,z,g,k,b6 (m:=m) k1,b6 (m:=m) k2,zab,zac,zaa]
     repeat refine sI ?_
     refine c7 (λ hf=>?_) (λ hf=>?_)
     ·have J:(decide (D+1>0) && !ltInt C[D+1-1]! C[K]!)=true:=by simpa using hf
      have o:=arr C (D+1) b K (by omega) (by omega) (by omega) (by omega) m;rw [h4,W] at o;obtain ⟨f,L,hx⟩:∃f L,partitionEqual ltInt C (D+1) b K=(f,L):=⟨_,_,rfl⟩
      obtain ⟨r1,r2,r3,r4⟩:=R.eqs S (by omega) hB J hx;rw [hx] at o j;simp only at o;rw [if_pos J] at j;simp only [dif_pos (show D+1<f/\f<=b from ⟨r1,r2⟩)] at j
      push_cast [bO,b5,a5,a8,g0,wk,u,p,s,w,q,z,g,k,zab,zac,zaa]
      refine a6 o rfl (kq (by omega)) ?_
      push_cast [bO,b5,a5,a8,g0,wk,u,p,s,w,q,z,g,k,zab,zac,zaa]
      exact ⟨⟨f,b,I,M,T,L,by omega,by omega,by omega,by omega,by omega,r4,by rw [B,j],(by first | rfl | exact ⟨rfl,rfl⟩ | exact ⟨rfl,rfl,rfl⟩)⟩,by omega⟩
     have J:¬(decide (D+1>0) && !ltInt C[D+1-1]! C[K]!)=true:=by simpa using hf
     push_cast [bO,b5,a5,a8,g0,wk,u,p,s,w,q,z,g,k,zab,zac,zaa]
     have o:=apj C (D+1) b K (by omega) (by omega) (by omega) (by omega) m;rw [h4,W] at o;obtain ⟨f,ap,L,hx⟩:∃f ap L,partition ltInt C (D+1) b K=(f,ap,L):=⟨_,_,_,rfl⟩
     obtain ⟨r1,r2,r3,r4,r5,r6,r7,r8,r9⟩:=R.parts S (by omega) hB hx;rw [hx] at o j;simp only at o;refine a6 o rfl (kq (by omega)) ?_;rw [if_neg (by exact J)] at j;simp only [dif_pos (show (D+1)<=f/\f<b from ⟨r1,r2⟩)] at j;obtain ⟨H,h6⟩:∃H,(b-(D+1))/8=H:=⟨_,rfl⟩
     obtain ⟨x,h9⟩:∃x,f-(D+1)=x:=⟨_,rfl⟩
     obtain ⟨y,hh⟩:∃y,b-f=y:=⟨_,rfl⟩
     have wx:IntKind.i64.wrap ((f:Int)-((D:Int)+1))=(x:Int):=by rw [a7 (by omega)]; omega
     have wy:IntKind.i64.wrap ((b:Int)-f)=(y:Int):=by rw [a7 (by omega)]; omega
     have Z:(l:Int).tdiv 8=(H:Int):=by rw [zak (by omega)]; omega
     have G:IntKind.i64.wrap (H:Int)=(H:Int):=a7 (by omega);have wm:IntKind.i64.wrap ((f:Int)+1)=((f+1:Nat):Int):=by rw [a7 (by omega)]; omega
     have X:decide ((x:Int)>=(H:Int))=decide (x>=H):=by simp
     have dy:decide ((y:Int)>=(H:Int))=decide (y>=H):=by simp
     rw [h6,h9,hh] at j;clear o
     push_cast [bO,b5,a5,a8,wx,wy,Z,G,X,dy,u,p,s,w,q,z,g,k,zab,zac,zaa]
     repeat refine sI ?_
     refine c7 (λ Q=>?_) (λ Q=>?_)
     ·have P:x<y:=by simpa using Q
      rw [if_pos P] at j;have o:=ih (f-(D+1)) (by omega) L (D+1) f I (by omega) r1 (by omega) (by omega) (by omega) r4;rw [r3,W] at o;generalize hj:f+1=F at *
      push_cast [bO,b5,a5,a8,wx,wy,wm,Z,G,X,dy,u,p,s,w,q,z,g,k,zab,zac,zaa]
      refine a6 o rfl (kq (by omega)) ?_
      push_cast [bO,b5,a5,a8,wx,wy,wm,Z,G,X,dy,u,p,s,w,q,z,g,k,zab,zac,zaa]
      exact ⟨⟨F,b,I,decide (x>=H),ap,pdq ltInt L (D+1) f I true true,by omega,by omega,by omega,by omega,by omega,r7,by rw [B,j],(by first | rfl | exact ⟨rfl,rfl⟩ | exact ⟨rfl,rfl,rfl⟩)⟩,by omega⟩
     have P:¬x<y:=by simpa using Q
     rw [if_neg P] at j;have o:=ih (b-(f+1)) (by omega) L (f+1) b I (by omega) (by omega) (by omega) (by omega) (by omega) r5;rw [r3,W] at o;generalize hj:f+1=F at *
     push_cast [bO,b5,a5,a8,wx,wy,wm,Z,G,X,dy,u,p,s,w,q,z,g,k,zab,zac,zaa]
     refine a6 o rfl (kq (by omega)) ?_
     push_cast [bO,b5,a5,a8,wx,wy,wm,Z,G,X,dy,u,p,s,w,q,z,g,k,zab,zac,zaa]
     exact ⟨⟨(D+1),f,I,decide (y>=H),ap,pdq ltInt L F b I true true,by omega,by omega,by omega,by omega,by omega,r9,by rw [B,j],(by first | rfl | exact ⟨rfl,rfl⟩ | exact ⟨rfl,rfl,rfl⟩)⟩,by omega⟩
    obtain rfl:a=0:=by omega
    have g0:decide (((0:Nat):Int)>0)=false:=by decide
    have ho:decide ((0:Int)>0)=false:=by decide
    have wk:True:=trivial;have J:¬(decide (0>0) && !ltInt C[0-1]! C[K]!)=true:=by simp
    push_cast [bO,b5,a5,a8,g0,ho,u,p,s,w,q,z,g,k,zab,zac,zaa]
    repeat refine sI ?_
    try push_cast [bO,b5,a5,a8,g0,wk,u,p,s,w,q,z,g,k,zab,zac,zaa]
    have o:=apj C 0 b K (by omega) (by omega) (by omega) (by omega) m;rw [h4,W] at o;obtain ⟨f,ap,L,hx⟩:∃f ap L,partition ltInt C 0 b K=(f,ap,L):=⟨_,_,_,rfl⟩
    obtain ⟨r1,r2,r3,r4,r5,r6,r7,r8,r9⟩:=R.parts S (by omega) hB hx;rw [hx] at o j;simp only at o;refine a6 o rfl (kq (by omega)) ?_;rw [if_neg (by exact J)] at j;simp only [dif_pos (show 0<=f/\f<b from ⟨r1,r2⟩)] at j;obtain ⟨H,h6⟩:∃H,(b-0)/8=H:=⟨_,rfl⟩
    obtain ⟨x,h9⟩:∃x,f-0=x:=⟨_,rfl⟩
    obtain ⟨y,hh⟩:∃y,b-f=y:=⟨_,rfl⟩
    have wx:IntKind.i64.wrap ((f:Int)-0)=(x:Int):=by rw [a7 (by omega)]; omega
    have wy:IntKind.i64.wrap ((b:Int)-f)=(y:Int):=by rw [a7 (by omega)]; omega
    have Z:(l:Int).tdiv 8=(H:Int):=by rw [zak (by omega)]; omega
    have G:IntKind.i64.wrap (H:Int)=(H:Int):=a7 (by omega);have wm:IntKind.i64.wrap ((f:Int)+1)=((f+1:Nat):Int):=by rw [a7 (by omega)]; omega
    have X:decide ((x:Int)>=(H:Int))=decide (x>=H):=by simp
    have dy:decide ((y:Int)>=(H:Int))=decide (y>=H):=by simp
    rw [h6,h9,hh] at j;clear o
    push_cast [bO,b5,a5,a8,wx,wy,Z,G,X,dy,u,p,s,w,q,z,g,k,zab,zac,zaa]
    repeat refine sI ?_
    refine c7 (λ Q=>?_) (λ Q=>?_)
    ·have P:x<y:=by simpa using Q
     rw [if_pos P] at j;have o:=ih (f-0) (by omega) L 0 f I (by omega) r1 (by omega) (by omega) (by omega) r4;rw [r3,W] at o;generalize hj:f+1=F at *
     push_cast [bO,b5,a5,a8,wx,wy,wm,Z,G,X,dy,u,p,s,w,q,z,g,k,zab,zac,zaa]
     refine a6 o rfl (kq (by omega)) ?_
     push_cast [bO,b5,a5,a8,wx,wy,wm,Z,G,X,dy,u,p,s,w,q,z,g,k,zab,zac,zaa]
     exact ⟨⟨F,b,I,decide (x>=H),ap,pdq ltInt L 0 f I true true,by omega,by omega,by omega,by omega,by omega,r7,by rw [B,j],(by first | rfl | exact ⟨rfl,rfl⟩ | exact ⟨rfl,rfl,rfl⟩)⟩,by omega⟩
    have P:¬x<y:=by simpa using Q
    rw [if_neg P] at j;have o:=ih (b-(f+1)) (by omega) L (f+1) b I (by omega) (by omega) (by omega) (by omega) (by omega) r5;rw [r3,W] at o;generalize hj:f+1=F at *
    push_cast [bO,b5,a5,a8,wx,wy,wm,Z,G,X,dy,u,p,s,w,q,z,g,k,zab,zac,zaa]
    refine a6 o rfl (kq (by omega)) ?_
    push_cast [bO,b5,a5,a8,wx,wy,wm,Z,G,X,dy,u,p,s,w,q,z,g,k,zab,zac,zaa]
    exact ⟨⟨0,f,I,decide (y>=H),ap,pdq ltInt L F b I true true,by omega,by omega,by omega,by omega,by omega,r9,by rw [B,j],(by first | rfl | exact ⟨rfl,rfl⟩ | exact ⟨rfl,rfl,rfl⟩)⟩,by omega⟩
   ·rw [hG] at Y;have o:=axi C a b (by omega) (by omega) (by omega) m;rw [h4,W] at o
    push_cast [bO,b5,a5,a8,u,p,s,w,q,z,g,k,U,zab,zac,zaa]
    refine a6 o rfl (kq rfl) ?_
    push_cast [bO,b5,a5,a8,u,p,s,w,q,z,g,k,U,zab,zac,zaa]
    refine c7 (λ h7=>?_) (λ h7=>?_)
    ·rw [Y,h7] at j;simp only [Bool.and_self,if_true] at j
     push_cast [bO,b5,a5,a8,zab,zac,zaa]
     rw [B,j]
    push_cast [bO,b5,a5,a8,adt,u,p,s,w,q,z,g,k,U,zab,zac,zaa]
    rw [h7]; simp
   rw [hG] at Y
   push_cast [bO,b5,a5,a8,u,p,s,w,q,z,g,k,U,zab,zac,zaa]
   rw [Y]; simp
  ·have hd:h=.decreasing:=by cases h<;>simp [ad3] at hg |-
   subst hd;have o:=azj V a b (by omega) (by omega) (by omega) (by omega) m;rw [h2] at o;have hq:IntKind.i64.wrap ((b:Int)-1)=(b:Int)-1:=a7 (by omega);have hp:IntKind.i64.wrap ((c:Int)-a)=(c:Int)-a:=a7 (by omega);have hs:IntKind.i64.wrap ((b:Int)-1-((c:Int)-a))=(((b-1)-(c-a):Nat):Int):=by rw [a7 (by omega)]; omega
   generalize g1:(b-1)-(c-a)=K at *
   push_cast [bO,b5,a5,a8,u,p,s,w,q,z,g,zab,zac,zaa]
   refine a6 o rfl (kq (Go.Sort.reverseRange_holds V a b (by omega) (by omega)).1) ?_
   push_cast [bO,b5,a5,a8,hq,hp,hs,u,p,s,w,q,z,g,zab,zac,zaa]
   refine ⟨_,_,_,rfl,rfl,rfl,?_⟩;simp only [adt];exact ⟨trivial,rfl,trivial⟩
  have hd:h≠.decreasing:=by rintro rfl; simp [ad3] at hg
  push_cast [bO,b5,a5,a8,u,p,s,w,q,z,g,zab,zac,zaa]
  refine ⟨_,_,_,rfl,rfl,rfl,?_⟩;rw [if_neg hd,if_neg hd,if_neg hd];simp only [adt,and_self]
 ·have hi:M=false:=by simpa using ha
  subst hi;have wl:IntKind.i64.wrap ((i:Int)-1)=((i-1:Nat):Int):=by rw [a7 (by omega)]; omega
  push_cast [bO,b5,a5,a8,zab,zac,zaa]
  have o:=av2 e a b (by omega) (by omega) (by omega) m;rw [W] at o;have h2:=(Go.Sort.breakPatterns_holds e a b O (by omega)).1;refine a6 o rfl (kq h2) ?_;generalize hr:i-1=I at *
  push_cast [bO,b5,a5,a8,wl,zab,zac,zaa]
  refine ⟨_,_,rfl,rfl,?_⟩;simp only [adt,and_self]
  first | done | simpa using hr
 have hi:M=true:=by simpa using ha
 subst hi
 push_cast [bO,b5,a5,a8,zab,zac,zaa]
 refine ⟨_,_,rfl,rfl,?_⟩;exact ⟨rfl,rfl⟩

open Go.Sort (swp ltInt bitsLen pdq sort Below)
def v9:Mk P0 f29:={ x:=_ }
theorem azo (m:Nat):∀N,asw m N:=by
 intro N
 induction N using Nat.strongRecOn with
 | _ N ih=>exact arp m N ih
def tw (a:List Int):List Int:=a.mergeSort (λ x y=>decide (x<=y))
def lq (a:List Int):List RV:=a.map λ n=>RV.v (.int .u64 n)
def s8 (a:List Int):Ob:=.row 1 (.v (.int .u64 0)) true true (lq a)
theorem aez (a:List Int):(tw a).length=a.length:=List.length_mergeSort ..
theorem akg (a:List Int) (m:Nat):cb (a.map λ n=>Value.int .u64 n) m=bc a.toArray m:=by
 simp [cb,bc,bu,Function.comp_def]
theorem tz (a:List Int):(lq a).length=a.length:=by simp [lq]
theorem atz (d:Array Int) (a:d.size<50) (m:Nat):a9 P0 29 [.own 1000000 0 0 d.size] [bO d m] (.tup []) [bO (sort ltInt d) m]:=by
 refine v9.t func29 ?_;have c:bitsLen d.size<=6:=(Go.Sort.bitsLen_le_iff d.size 6).2 (by omega);have w:IntKind.u64.wrap (d.size:Int)=d.size:=qj (by omega)
 push_cast [v9,bO,b5,a5,a8,w,zae,zad,zab,zac,zaa]
 refine a6 (aki d.size (by omega)) rfl trivial ?_
 push_cast [bO,b5,a5,a8,w,zae,zad,zab,zac,zaa]
 have b:=azo m d.size d 0 d.size (bitsLen d.size) (by omega) (by omega) (by omega) a (by omega) (.inl rfl);refine a6 b rfl (kq (Go.Sort.pdq_sorts ltInt Go.Sort.swo_ltInt d 0 d.size _ true true (by omega) (by omega) (.inl rfl)).1.1) ?_
 push_cast [bO,b5,a5,a8,w,zae,zad,zab,zac,zaa]
 rfl
def vu (a:List Int):List Value:=a.map λ n=>Value.int .u64 n
theorem aoc (a:List Int):(vu a).length=a.length:=by simp [vu]
theorem aob (a:List Int):(vu a).map RV.v=lq a:=by simp [vu,lq,Function.comp_def]
theorem aws (a:List Int) (b:a.length<50) (m:Nat):a9 P0 29 [.own 1000000 0 0 a.length] [.box (cb (vu a) m)] (.tup []) [.box (cb (vu (tw a)) m)]:=by
 have:=atz a.toArray (by simpa using b) m;unfold vu;rw [akg,akg]
 have e:(tw a).toArray=sort ltInt a.toArray:=by
  have:=Go.Sort.sortInt a;unfold tw;rw [<- this]
 rw [e];simpa [bO] using this
theorem azf (b a:List Int) (h:a.length=b.length) (m:Nat):d7 [.box (cb (vu b) m)] [.box (cb (vu a) m)]:=⟨by simp [cb,aoc,h],trivial⟩
theorem ac6 (xs:List Value) (m:Nat):l5 (cb xs m)=[]:=ac7 _ λ x hx=>by
 rcases zaj.1 hx with hx | hx
 ·obtain ⟨n,_,rfl⟩:=zaf.1 hx
  rfl
 rw [(List.mem_replicate.1 hx).2]; rfl
theorem aj0 (F:Ren) (xs:List Value) (m:Nat):imL F (cb xs m)=cb xs m:=ly F _ (ac6 xs m)
theorem avc:a9 P0 81 [.r (.sl 1 []),int .i64 0,int .i64 0] [] (.tup []) []:=by
 refine p6.t func81 ?_;have g:decide (IntKind.i64.wrap (0+1)<0)=false:=by decide
 simp only [p6,push_cast,↓reduceIte,reduceCtorEq,zB,zE,zA,zS,zL,zD,zM];refine d3 [(6,false),(2,false)] (λ vs pos a=>vs=[int .i64 (IntKind.i64.wrap (0+1)),int .i64 0]/\pos=[]/\a=[]) (λ _ _ _=>0) rfl ?_ ?_
 ·simp only [push_cast,↓reduceIte,reduceCtorEq,zB,zE,zA,zS,zL,zD,zM]
 rintro vs pos a ⟨rfl,rfl,rfl⟩;simp only [g,push_cast,↓reduceIte,reduceCtorEq,zB,zE,zA,zS,zL,zD,zM]
theorem au0:a9 P0 51 [.r (.sl 1 []),int .i64 0,int .i64 0,int .i64 0] [] (.tup []) []:=by
 refine u3.t func51 ?_;have g:decide ((0:Int)<=12)=true:=by decide
 have w:IntKind.i64.wrap (0-0)=0:=rfl;simp only [u3,push_cast,↓reduceIte,reduceCtorEq,zB,zE,zA,zS,zL,zD,zM];refine d3 [(8,false),(9,false),(0,false),(1,false),(2,false),(3,false)] (λ vs pos a=>vs=[bl true,bl true,.r (.sl 1 []),int .i64 0,int .i64 0,int .i64 0]/\pos=[]/\a=[]) (λ _ _ _=>0) rfl ?_ ?_
 ·simp only [push_cast,↓reduceIte,reduceCtorEq,zB,zE,zA,zS,zL,zD,zM]
 rintro vs pos a ⟨rfl,rfl,rfl⟩;simp only [w,g,push_cast,↓reduceIte,reduceCtorEq,zB,zE,zA,zS,zL,zD,zM];refine a6 avc rfl trivial ?_;simp only [push_cast,↓reduceIte,reduceCtorEq,zB,zE,zA,zS,zL,zD,zM]
theorem aq4:a9 P0 29 [.r (.sl 1 [])] [] (.tup []) []:=by
 refine v9.t func29 ?_
 push_cast [v9,zae,zad]
 refine a6 (aki 0 (by decide)) rfl trivial ?_
 push_cast
 refine a6 au0 rfl trivial ?_
 push_cast

def v8:Mk P0 f13:={ x:=_ }
theorem ll:pb 13 2 v8:=fm func13
def kI (e:MapEntry):Int:=match e.key with | .int _ n=>n | _=>0
def ea (es:List MapEntry) (c:Nat):Prop:=(∀e∈es,e.key=.int .u64 (kI e))/\(es.map (·.born)).Nodup/\∀e∈es,e.born<c
theorem avv {f:Nat->Nat} {es:List MapEntry} {c:Nat} (h:CM f es c):ea es c:=by
 obtain ⟨i,b,j,k⟩:=h.ex;refine ⟨λ e g=>?_,b.nd,b.lt⟩;have:(e.key,e.val)∈i.map cnE:=by rw [<- b.kv]; exact zaf.2 ⟨e,g,rfl⟩
 obtain ⟨a,_,d⟩:=zaf.1 this;simp only [ent,Prod.mk.injEq] at d;simp [kI,<- d.1]
variable {seen:List Nat}
theorem ahj {es:List MapEntry} {e:MapEntry} (a:e∈ao es seen):(ao es (seen++[e.born])).length<(ao es seen).length:=by
 have b:ao es (seen++[e.born])=(ao es seen).filter λ x=>!(x.born == e.born):=by
  unfold ao;rw [List.filter_filter];apply List.filter_congr;intro x _;simp only [List.contains_eq_mem,zaj,List.mem_singleton,Bool.decide_or,Bool.not_or,Bool.and_comm];by_cases hx:x.born=e.born<;>simp [hx]
 rw [b]
 have:((ao es seen).filter λ x=>!(x.born == e.born)).length<(ao es seen).length:=by
  rw [List.length_filter_lt_length_iff_exists];exact ⟨e,a,by simp⟩
 exact this
structure Vis (es V:List MapEntry) (seen:List Nat):Prop where
 s:seen=V.map (·.born)
 sub:∀e∈V,e∈es
 nd:seen.Nodup
 b:V.length+(ao es seen).length<=es.length
theorem ato (es:List MapEntry):Vis es [] []:=⟨rfl,by simp,by simp,by simp only [zad,zaa]; exact List.length_filter_le ..⟩
variable {V:List MapEntry}
theorem Vis.add {es:List MapEntry} (h:Vis es V seen) {e:MapEntry} (f:e∈ao es seen):Vis es (V++[e]) (seen++[e.born]):=by
 obtain ⟨g,d⟩:=List.mem_filter.1 f;refine ⟨by rw [h.s]; simp,λ x hx=>?_,?_,by have:=h.b; have:=ahj f; simp only [List.length_append,List.length_singleton]; omega⟩
 ·rcases zaj.1 hx with hx | hx
  ·exact h.sub x hx
  simp at hx; subst hx; exact g
 rw [zaq];refine ⟨h.nd,by simp,λ a i b c=>?_⟩;simp at c;subst c;rintro rfl;simp at d;exact d i
theorem Vis.all {es:List MapEntry} (h:Vis es V seen) (d:(es.map (·.born)).Nodup) (n:ao es seen=[]):V.Perm es:=by
 have l:V.Nodup:=by
  have:=h.nd;rw [h.s] at this;exact (List.pairwise_map.1 this).imp λ {a b} c e=>c (by rw [e])
 have m:es.Nodup:=(List.pairwise_map.1 d).imp λ {a b} c e=>c (by rw [e]);refine (List.perm_ext_iff_of_nodup l m).2 λ x=>⟨h.sub x,λ hx=>?_⟩
 have:¬x∈ao es seen:=by rw [n]; simp
 unfold ao at this;rw [List.mem_filter,h.s] at this;simp only [hx,true_and,Bool.not_eq_true',List.contains_eq_mem,decide_eq_false_iff_not,Classical.not_not,zaf] at this;obtain ⟨y,hy,e⟩:=this;have g:=h.sub y hy;obtain ⟨i,k⟩:=zam hx;obtain ⟨j,f⟩:=zam g;have:=abh d (i:=i) (j:=j) (x:=x.born) (by simp [k]) (by simp [f,e]);subst this;rw [k] at f;cases f;exact hy
theorem aie {es:List MapEntry} (b:(es.map (·.born)).Nodup) {e:MapEntry} (f:e∈es) (seen:List Nat):aj9 es (seen++[e.born])=some e:=by
 unfold aj9;simp only [List.getLast?_append,List.getLast?_singleton,Option.some_or];cases hf:es.find? λ x=>x.born == e.born with
 | none=>
   have:=List.find?_eq_none.1 hf e f;simp at this
 | some y=>
   have hy:=List.mem_of_find?_eq_some hf;have c:=List.find?_some hf;simp at c;obtain ⟨i,d⟩:=zam f;obtain ⟨j,a⟩:=zam hy;have:=abh b (i:=i) (j:=j) (x:=e.born) (by simp [d]) (by simp [a,c]);subst this;rw [d] at a;exact a.symm
theorem ahy {a b:List Int} (h:a.Perm b):tw a=tw b:=by
 have d:(tw a).Perm (tw b):=((zav a _).trans h).trans (zav b _).symm;have tr:∀x y z:Int,decide (x<=y)=true->decide (y<=z)=true->decide (x<=z)=true:=by simp; omega
 have c:∀x y:Int,(decide (x<=y)||decide (y<=x))=true:=by simp; omega
 have f:=List.pairwise_mergeSort tr c a;have g:=List.pairwise_mergeSort tr c b;refine List.Perm.eq_of_pairwise (le:=λ x y=>decide (x<=y)=true) (λ x y _ _ d e=>by simp at d e; omega) f g d
theorem av0 {args:List AV} {po:List Ob} {D:AV->List Ob->Prop} (b:args.length=2) (a:po.length<=1000)
 (h:run P0 po.length (afm po.length [(4,false,none)] D) [.c v8.1.2] ⟨ij 0 args,ob0 po⟩):ad8 P0 13 args po D:=
 acm (fn:=f13) (c:=(f13.body).getD .skip) (pc:=v8.1.2) (rs:=[(4,false,none)]) func13 rfl (by decide) (by kernel_rfl) (by rw [b]; decide) rfl (by kernel_rfl) (by kernel_rfl) (by decide) a (ako h)
theorem atv (V:List MapEntry) (x:Int):List.take V.length (lq (V.map kI))++[RV.v (.int .u64 x)]=lq (V.map kI++[x]):=by
 rw [zaw (by simp [lq])];simp [lq]
section
variable {es:List MapEntry} {c:Nat} {ns:List (List Ky)} {ce:Nat->List MapEntry} {cc:Nat->Nat}
theorem anp {r:Nat} (I:r<13) {E:List MapEntry} {C:Nat} (k:ce r=E) (l:cc r=C) (h:ea E C) (H:E.length<50) (w:E≠[]) :
 ad8 P0 13 [.ptr 1000000 0 0,int .i64 r] (c8 es c ns ce cc) λ v os=>∃m,v=.own 1000016 0 0 E.length/\os=c8 es c ns ce cc++[.box (cb (vu (tw (E.map kI))) m)]:=by
 refine av0 rfl (by simp [c8]) ?_;have B:decide ((r:Int)<0)=false:=by simp
 have D:decide ((r:Int)>=13)=false:=by simp; omega
 obtain ⟨K,t⟩:∃K,tw (E.map kI)=K:=⟨_,rfl⟩
 rw [t];obtain ⟨M,n⟩:∃M,1000003+r=M:=⟨_,rfl⟩
 push_cast [v8,c8,B,D,zae,zad]
 rcases (show r=0\/r=1\/r=2\/r=3\/r=4\/r=5\/r=6\/r=7\/r=8\/r=9\/r=10\/r=11\/r=12 by omega) with rfl | rfl | rfl | rfl | rfl | rfl | rfl | rfl | rfl | rfl | rfl | rfl | rfl<;>(
  simp only [Nat.reduceAdd] at n
  push_cast [k,l,Int.toNat_zero,Int.reduceToNat]
  repeat refine sI ?_
  refine d3 [(5,false),(19,false)] (λ vs pos e=>∃(V:List MapEntry) (seen:List Nat),Vis E V seen/\pos=c8 es c ns ce cc/\∃o,C<=o /\
   (V=[]/\vs=[.nils 1 (.v (.int .u64 0)),.ptr 2000000 0 0]/\e=[.iter (.mp M 0) C seen o] \/
    V≠[]/\vs=[.own 2000000 0 0 V.length,.ptr 2000001 0 0]/\e=[s8 (V.map kI),.iter (.mp M 0) C seen o]))
   (λ _ _ e=>match e with | [.iter _ _ seen _]=>(ao E seen).length | [_,.iter _ _ seen _]=>(ao E seen).length | _=>0) rfl ?_ ?_
  ·push_cast [c8,k,l,<- n]
   exact ⟨[],[],ato _,C,zai _,by simp⟩
  rintro vs pos e ⟨V,seen,f,rfl,o,j,⟨p,rfl,rfl⟩ | ⟨p,rfl,rfl⟩⟩
  ·subst p
   push_cast [c8,k,l,<- n]
   have G:seen=[]:=f.s;refine aji h.2.2 j (λ i=>?_) (λ d a=>?_)
   ·exfalso;rw [G] at i;unfold ao at i;simp at i;exact w (List.eq_nil_iff_forall_not_mem.2 λ x hx=>by simpa using i x hx)
   have u:d.key=.int .u64 (kI d):=h.1 d ((f.add a).sub d (by simp));have y:=aie h.2.1 ((f.add a).sub d (by simp)) seen
   push_cast [u,y,wa,Option.isSome_some]
   repeat refine sI ?_
   exact ⟨⟨[d],_,f.add a,C,zai _,.inr ⟨by simp,rfl,rfl⟩⟩,ahj a⟩
  push_cast [c8,k,l,<- n]
  refine aji h.2.2 j (λ i=>?_) (λ d a=>?_)
  ·push_cast [s8,lq]
   have A:=f.all h.2.1 i;have g:=A.length_eq;refine aqp 2000000 0 (.v (.int .u64 0)) (vu (V.map kI)) (by rw [aob]; rfl) (by simpa [vu] using p) (λ m=>?_);rw [show List.map (λ x=>AV.r (RV.v x)) (vu (V.map kI))++List.replicate m AV.undef=cb (vu (V.map kI)) m from rfl];have q:=aws (V.map kI) (by simp; omega) m;rw [ahy (A.map kI),t] at q;simp only [zag] at q
   push_cast [s8,lq,ac6,aj0]
   refine a6 q rfl (azf _ _ (by rw [<- t,aez,zag,zag,g]) m) ?_
   push_cast [s8,lq,ac6,aj0,g]
   exact ⟨m,by simp⟩
  have u:d.key=.int .u64 (kI d):=h.1 d ((f.add a).sub d (by simp));have y:=aie h.2.1 ((f.add a).sub d (by simp)) seen;have z:=(f.add a).b;simp only [List.length_append,List.length_singleton] at z;have F:=u9
  push_cast [u,y,wa,Option.isSome_some,s8,atv]
  repeat refine sI ?_
  exact ⟨⟨V++[d],_,f.add a,C,zai _,.inr ⟨by simp,by simp,by simp [lq]⟩⟩,ahj a⟩)
theorem anq {r:Nat} (i:r<13) (e:ce r=[]) :
 a9 P0 13 [.ptr 1000000 0 0,int .i64 r] (c8 es c ns ce cc) (.nils 1 (.v (.int .u64 0))) (c8 es c ns ce cc):=by
 refine ll rfl (by simp [c8]) ?_;have g:decide ((r:Int)<0)=false:=by simp
 have h:decide ((r:Int)>=13)=false:=by simp; omega
 obtain ⟨M,f⟩:∃M,1000003+r=M:=⟨_,rfl⟩
 obtain ⟨C,b⟩:∃C,cc r=C:=⟨_,rfl⟩
 push_cast [v8,c8,g,h,zae,zad]
 rcases (show r=0\/r=1\/r=2\/r=3\/r=4\/r=5\/r=6\/r=7\/r=8\/r=9\/r=10\/r=11\/r=12 by omega) with rfl | rfl | rfl | rfl | rfl | rfl | rfl | rfl | rfl | rfl | rfl | rfl | rfl<;>(
  simp only [Nat.reduceAdd] at f
  push_cast [e,b,Int.toNat_zero,Int.reduceToNat]
  repeat refine sI ?_
  refine d3 [(5,false),(19,false)] (λ vs pos a=>vs=[.nils 1 (.v (.int .u64 0)),.ptr 2000000 0 0]/\pos=c8 es c ns ce cc/\a=[.iter (.mp M 0) C [] C])
   (λ _ _ _=>0) rfl ?_ ?_
  ·push_cast [c8,e,b,<- f]
  rintro vs pos a ⟨rfl,rfl,rfl⟩
  push_cast [c8,e,b,<- f]
  refine aji (by simp) (zai _) (λ k=>?_) (λ j d=>?_)
  ·push_cast
   refine a6 aq4 rfl trivial ?_
   push_cast
  simp [ao] at d)
end

def dd:List Nat->List Nat
 | []=>[]
 | a::l=>if a∈dd l then dd l else a::dd l
theorem agv {w:Nat}:∀{l:List Nat},w∈dd l↔w∈l
 | []=>by simp [dd]
 | a::l=>by
   rw [dd];split
   ·rename_i h;rw [agv,zan];constructor
    ·exact .inr
    rintro (rfl | h2)
    ·exact agv.1 h
    exact h2
   rw [zan,zan,agv]
theorem abx:∀(l:List Nat),(dd l).Nodup
 | []=>by simp [dd]
 | a::l=>by
   rw [dd];split
   ·exact abx l
   rename_i h;exact List.nodup_cons.2 ⟨h,abx l⟩
theorem aqh:∀(l:List Nat),(dd l).length<=l.length
 | []=>by simp [dd]
 | a::l=>by
   have:=aqh l;rw [dd];split<;>simp<;>omega
def acl (L:List Pt) (r:Nat):List Nat:=dd (L.map (·.w r))
variable {r w:Nat}
theorem aa6 {L:List Pt}:w∈acl L r↔∃p∈L,p.w r=w:=by unfold acl; rw [agv,zaf]
def asI (a:List Nat):List Int:=a.map λ n:Nat=>(n:Int)
def o6 (L:List Pt) (r:Nat):List Int:=tw (asI (acl L r))
theorem akc {L:List Pt} {es:List MapEntry} {c:Nat} (h:CM (cnt L r) es c):(es.map kI).Perm (asI (acl L r)):=by
 obtain ⟨j,g,f,d⟩:=h.ex
 have e:es.map kI=asI (j.map (·.1)):=by
  have:=congrArg (List.map λ q:Value×Value=>match q.1 with | .int _ n=>n | _=>(0:Int)) g.kv;simp only [List.map_map,Function.comp_def,ent] at this;unfold asI;rw [List.map_map];exact this
 rw [e];refine List.Perm.map _ ((List.perm_ext_iff_of_nodup f (abx _)).2 λ w=>?_);rw [show dd (L.map (·.w r))=acl L r from rfl,aa6,zaf];constructor
 ·rintro ⟨a,i,rfl⟩;have:=((d a.1 a.2).1 i).2;unfold cnt at this;rw [List.countP_pos_iff] at this;obtain ⟨p,b,e⟩:=this;exact ⟨p,b,by simpa using e⟩
 rintro ⟨p,b,rfl⟩;refine ⟨(p.w r,_),(d _ _).2 ⟨rfl,?_⟩,rfl⟩;unfold cnt;rw [List.countP_pos_iff];exact ⟨p,b,by simp⟩
theorem ab0 (L:List Pt) (r:Nat):(o6 L r).length<=L.length:=by
 unfold o6 asI;rw [aez,zag];exact Nat.le_trans (aqh _) (by simp)
theorem aym {L:List Pt} {es:List MapEntry} {c:Nat} (h:CM (cnt L r) es c):es.length=(o6 L r).length:=by
 have:=(akc h).length_eq;unfold o6;rw [aez,<- this,zag]
section
variable {L:List Pt} {es:List MapEntry} {c:Nat} {ns:List (List Ky)} {ce:Nat->List MapEntry} {cc:Nat->Nat}
theorem akf (h:StL L es c ns ce cc) (m:L.length<50) (r:Nat) (g:r<13) :
 a9 P0 13 [.ptr 1000000 0 0,int .i64 r] (c8 es c ns ce cc) (.own 1000016 0 0 (o6 L r).length) (c8 es c ns ce cc++[s8 (o6 L r)]):=by
 have e:=h.cm r g;have j:=avv e;have b:=aym e;have k:=ab0 L r;have f:tw ((ce r).map kI)=o6 L r:=ahy (akc e);have i:∀o∈c8 es c ns ce cc,imO (sb 16) o=o:=(SF L).shut ⟨es,c,ns,ce,cc,h,rfl⟩;by_cases d:ce r=[]
 ·have l:o6 L r=[]:=zar.1 (by rw [<- b,d]; rfl);rw [l];have a:=anq (es:=es) (c:=c) (ns:=ns) (cc:=cc) g d;exact alv (os:=c8 es c ns ce cc) (by simp [c8]) i a
 have a:=anp (es:=es) (c:=c) (ns:=ns) g rfl rfl j (by omega) d;rw [f,b] at a
 have:=ay9 (os:=c8 es c ns ce cc) (ys:=vu (o6 L r)) (z:=.v (.int .u64 0)) (aoc _) (by simp [c8]) i (λ y hy=>by
  obtain ⟨n,_,rfl⟩:=zaf.1 hy
  rfl) a
 rw [aob] at this;exact this
end
theorem avz (L:List Pt) (d:L.length<50) (r:Nat) (b:r<13):a9 P0 13 [.ptr 1000000 0 0,int .i64 r] [.abs (sT L)] (.own 1000001 0 0 (o6 L r).length) [.abs (sT L),s8 (o6 L r)]:=
 acz (F:=SF L) (F':=SF L) rfl (ex:=[s8 (o6 L r)]) (λ os h=>by
  obtain ⟨es,c,ns,ce,cc,h,rfl⟩:=h;exact ⟨_,⟨_,_,_,_,_,h,rfl⟩,akf h d r b⟩) rfl (by
  intro o a;simp at a;subst a;intro x hx;obtain ⟨n,_,rfl⟩:=zaf.1 hx
  trivial) (by simp [x8])

theorem arj {L:List Pt} {os:List Ob} (h:SS L os) (p:Pt) (a:p.ok) (i:has L p.k=false) (e:L.length<2000):∃b,SS (L++[p]) b/\a9 P0 11 [.ptr 1000000 0 0,p.av] os (bl true) (b++[]):=by
 obtain ⟨es,c,ns,ce,cc,h,rfl⟩:=h;have d:=aat.1 i;obtain ⟨j,g,f,l⟩:=am2 h.pm d;refine ⟨_,⟨_,_,_,_,_,h.put a d (by omega),rfl⟩,?_⟩;rw [List.append_nil];refine ajb h a d e (aqg h p.k d) j ⟨⟨0,0,0,0⟩,f _⟩ ?_;rw [g,af0 h.pm];exact .inr ⟨rfl,by omega⟩
theorem auw (L:List Pt) (p:Pt) (a:p.ok) (c:has L p.k=false) (b:L.length<2000):a9 P0 11 [.ptr 1000000 0 0,p.av] [.abs (sT L)] (bl true) [.abs (sT (L++[p]))]:=
 acz (F:=SF L) (F':=SF (L++[p])) rfl (λ os h=>arj h p a c b) rfl (by simp) (by simp [x8,bt])
theorem azq (l:List Pt) (x:l.length<2000) (m:∀p∈l,p.ok) (n:(l.map (·.k)).Nodup):a9 P0 9 [.r (pts l)] [] (.ptr 1000000 0 0) [.abs (sT l)]:=by
 refine aec.t func9 ?_
 push_cast [aec,pts,zad,zag]
 refine a6 atb rfl trivial ?_
 push_cast [zag]
 refine d3 [(3,false),(7,false),(8,false),(9,false)] (λ vs pos b=>∃(i:Nat),i<=l.length/\vs=[.ptr 2000000 0 0,.r (pts l),int .i64 l.length,int .i64 i]/\pos=[]/\b=[.abs (sT (l.take i))])
  (λ vs _ _=>match vs with | [_,_,_,.r (.v (.int _ j))]=>(l.length-j).toNat | _=>0) rfl ?_ ?_
 ·push_cast [pts]
  exact ⟨0,by omega,by simp⟩
 rintro vs pos b ⟨i,w,rfl,rfl,rfl⟩
 push_cast [pts,zag]
 refine c7 (λ h=>?_) (λ h=>?_)
 ·have o:i<l.length:=by simpa using h
  obtain ⟨p,g⟩:∃p,l[i]?=some p:=⟨l[i],by simp [o]⟩
  have c:IntKind.i64.wrap ((i:Int)+1)=(i:Int)+1:=a7 ⟨by omega,by omega⟩;have d:=List.mem_of_getElem? g;have a:l.take (i+1)=l.take i++[p]:=by rw [List.take_add_one,g]; rfl
  have f:has (l.take i) p.k=false:=aat.2 λ q u e=>by
   have s:((l.take (i+1)).map (·.k)).Nodup:=n.sublist ((List.take_sublist _ _).map _);rw [a,zas,zaq] at s;exact s.2.2 q.k (List.mem_map_of_mem u) p.k (by simp) e
  push_cast [alp g,zag]
  refine And.intro ⟨by omega,by omega⟩ ?_;refine b9 (as':=[.ptr 1000000 0 0,p.av]) rfl ?_;refine a6 (auw (l.take i) p (m p d) f (by simp; omega)) rfl ⟨rfl,trivial⟩ ?_
  push_cast [c]
  refine ⟨⟨i+1,by omega,rfl,by rw [a]⟩,by omega⟩
 have o:¬i<l.length:=by simpa using h
 push_cast
 rw [zaw (by omega)]

theorem aqt {d:List Nat} (h:d.Nodup):(asI d).Nodup:=List.pairwise_map.2 (h.imp λ {a b} c e=>c (by omega))
theorem adm (L:List Pt) (r:Nat):(o6 L r).Nodup:=(zav _ _).nodup_iff.2 (aqt (abx _))
theorem agy {L:List Pt} {n:Int}:n∈o6 L r↔∃p∈L,((p.w r:Nat):Int)=n:=by
 unfold o6 tw asI;rw [List.mem_mergeSort,zaf];constructor
 ·rintro ⟨w,b,rfl⟩;obtain ⟨p,a,e⟩:=aa6.1 b;exact ⟨p,a,by rw [e]⟩
 rintro ⟨p,a,rfl⟩;exact ⟨p.w r,aa6.2 ⟨p,a,rfl⟩,rfl⟩
theorem au7 {L:List Pt} (b:∀p∈L,p.ok) (c:r<13) (f:∃p∈L,p.w r=w):mem L w=L.filter λ p=>((p.w r:Nat):Int) == (w:Int):=by
 obtain ⟨q,d,e⟩:=f;have a:=(Pt.w_res (b q d) c).2.1;rw [e] at a;unfold mem;apply List.filter_congr;intro p g;rw [ar4 (b p g) c a];rw [Bool.eq_iff_iff];simp;omega

abbrev Wt:=Int×Int
def lsW (a b:Wt):Bool:=if a.2≠b.2 then decide (a.2>b.2) else decide (a.1<b.1)
theorem apz (a b:Wt):lsW a b=true↔(b.2<a.2\/(a.2=b.2/\a.1<b.1)):=by
 unfold lsW;split<;>rw [decide_eq_true_iff]<;>omega
theorem zg (a b:Wt):lsW a b=false↔(a.2<b.2\/(a.2=b.2/\b.1<=a.1)):=by
 rw [<- Bool.not_eq_true,apz];omega
theorem agf {a b c:Wt} (e:lsW b a=false) (d:lsW c b=false):lsW c a=false:=by
 rw [zg] at *;omega
theorem agh {a b:Wt} (h:lsW a b=true):lsW b a=false:=by
 rw [zg]; rw [apz] at h;omega
theorem axw {a b c:Wt} (e:lsW a b=true) (d:lsW c b=false):lsW c a=false:=agf (agh e) d
def gW (l:List Wt) (i:Nat):Wt:=l.getD i (0,0)
def swW (l:List Wt) (i j:Nat):List Wt:=(l.set i (gW l j)).set j (gW l i)
variable {l:List Wt}
theorem gv (h:i<l.length):gW l i=l[i]:=by
 unfold gW;rw [zah,zat h]
 rfl
theorem v4 (l:List Wt) (i j:Nat):(swW l i j).length=l.length:=by simp [swW]
theorem za (d:i<l.length) (c:j<l.length) (k:Nat):gW (swW l i j) k=if k=j then gW l i else if k=i then gW l j else gW l k:=by
 unfold gW swW;rw [zah,List.getElem?_set,List.getElem?_set,List.length_set];by_cases b:j=k
 ·subst b;rw [if_pos rfl,if_pos c,if_pos rfl]
  rfl
 rw [if_neg b,if_neg (Ne.symm b)];by_cases a:i=k
 ·subst a;rw [if_pos rfl,if_pos d,if_pos rfl]
  rfl
 rw [if_neg a,if_neg (Ne.symm a),zah]
theorem aex (a:i<l.length) (b:j<l.length):(swW l i j).Perm l:=by
 have h:=Array.swap_perm (xs:=l.toArray) (i:=i) (j:=j) (by simpa using a) (by simpa using b);rw [Array.perm_iff_toList_perm] at h
 have e:(l.toArray.swap i j (by simpa using a) (by simpa using b)).toList=swW l i j:=by
  rw [Array.toList_swap];simp [swW,gv a,gv b]
 rw [e] at h;exact h
def Hp (l:List Wt) (n:Nat):Prop:=∀j,0<j->j<n->lsW (gW l j) (gW l ((j-1)/2))=false
variable {n:Nat}
theorem Hp.least (h:Hp l n):∀j,j<n->lsW (gW l j) (gW l 0)=false:=λ j=>by
 induction j using Nat.strongRecOn with
 | _ j ih=>
   intro b;by_cases a:j=0
   ·subst a;rw [zg];omega
   exact agf (ih ((j-1)/2) (by omega) (by omega)) (h j (by omega) b)
def HpU (l:List Wt) (n j:Nat):Prop:=(∀k,0<k->k<n->k≠j->lsW (gW l k) (gW l ((k-1)/2))=false)/\∀c,0<c->c<n->(c-1)/2=j->0<j->lsW (gW l c) (gW l ((j-1)/2))=false
theorem HpU.done (h:HpU l n j) (a:j=0\/lsW (gW l j) (gW l ((j-1)/2))=false):Hp l n:=λ k d c=>by
 by_cases b:k=j
 ·subst b;rcases a with a | a
  ·omega
  exact a
 exact h.1 k d c b
theorem HpU.next (h:HpU l n j) (x:j<n) (y:n<=l.length) (s:0<j) (o:lsW (gW l j) (gW l ((j-1)/2))=true):HpU (swW l ((j-1)/2) j) n ((j-1)/2):=by
 obtain ⟨i,f⟩:∃i,(j-1)/2=i:=⟨_,rfl⟩
 rw [f] at o |-;have r:i<j:=by omega
 have e:=za (l:=l) (i:=i) (j:=j) (by omega) (by omega);refine ⟨λ k q p v=>?_,λ c w t hc u=>?_⟩
 ·rw [e k,e ((k-1)/2)];by_cases a:k=j
  ·subst a;rw [if_pos rfl,f,if_neg (by omega),if_pos rfl];exact agh o
  rw [if_neg a,if_neg v];by_cases g:(k-1)/2=j
  ·rw [if_pos g,<- f];exact h.2 k q p g s
  rw [if_neg g];have b:=h.1 k q p a;by_cases m:(k-1)/2=i
  ·rw [if_pos m];rw [m] at b;exact axw o b
  rw [if_neg m];exact b
 have d:=h.1 i u (by omega) (by omega);rw [e c,e ((i-1)/2),if_neg (show ¬(i-1)/2=j by omega),if_neg (show ¬(i-1)/2=i by omega)];by_cases a:c=j
 ·rw [if_pos a];exact d
 rw [if_neg a,if_neg (by omega)];have:=h.1 c w t a;rw [hc] at this;exact agf d this
def HpD (l:List Wt) (n i:Nat):Prop:=(∀k,0<k->k<n->(k-1)/2≠i->lsW (gW l k) (gW l ((k-1)/2))=false)/\∀c,0<c->c<n->(c-1)/2=i->0<i->lsW (gW l c) (gW l ((i-1)/2))=false
def chW (l:List Wt) (n i:Nat):Nat:=if 2*i+2<n/\lsW (gW l (2*i+2)) (gW l (2*i+1))=true then 2*i+2 else 2*i+1
theorem HpD.done (h:HpD l n i) (a:n<=2*i+1\/lsW (gW l (chW l n i)) (gW l i)=false):Hp l n:=λ k d c=>by
 by_cases b:(k-1)/2=i
 ·rcases a with a | a
  ·omega
  rw [b];unfold chW at a;rcases (show k=2*i+1\/k=2*i+2 by omega) with e | e
  ·split at a
   ·rename_i hc;rw [e];exact agf a (agh hc.2)
   rw [e]; exact a
  split at a
  ·rw [e]; exact a
  rename_i hc;rw [not_and,Bool.not_eq_true] at hc;rw [e];exact agf a (hc (by omega))
 exact h.1 k d c b
theorem ph (h:2*i+1<n):(chW l n i-1)/2=i/\i<chW l n i/\chW l n i<n/\∀k,0<k->k<n->(k-1)/2=i->lsW (gW l k) (gW l (chW l n i))=false:=by
 unfold chW;split
 ·rename_i hc;refine ⟨by omega,by omega,by omega,λ k b a c=>?_⟩;rcases (show k=2*i+1\/k=2*i+2 by omega) with e | e
  ·rw [e]; exact agh hc.2
  rw [e,zg]; omega
 rename_i hc;rw [not_and,Bool.not_eq_true] at hc;refine ⟨by omega,by omega,by omega,λ k b a c=>?_⟩;rcases (show k=2*i+1\/k=2*i+2 by omega) with e | e
 ·rw [e,zg]; omega
 rw [e]; exact hc (by omega)
theorem HpD.next (h:HpD l n i) (v:n<=l.length) (o:2*i+1<n) (s:lsW (gW l (chW l n i)) (gW l i)=true):HpD (swW l i (chW l n i)) n (chW l n i):=by
 obtain ⟨d,c2,u,p⟩:=ph (l:=l) o;generalize chW l n i=j at *;have b:=za (l:=l) (i:=i) (j:=j) (by omega) (by omega);refine ⟨λ k e f r=>?_,λ c t q hc w=>?_⟩
 ·rw [b k,b ((k-1)/2)];by_cases g:k=j
  ·subst g;rw [if_pos rfl,d,if_neg (by omega),if_pos rfl];exact agh s
  rw [if_neg g,if_neg r];by_cases a:(k-1)/2=i
  ·rw [if_pos a,if_neg (by omega)];exact p k e f a
  rw [if_neg a];by_cases m:k=i
  ·subst m;rw [if_pos rfl];exact h.2 j (by omega) u d e
  rw [if_neg m];exact h.1 k e f a
 rw [b c,b ((j-1)/2),d,if_neg (by omega),if_neg (by omega),if_neg (show ¬i=j by omega),if_pos rfl];have:=h.1 c t q (by omega);rw [hc] at this;exact this

def upW (l:List Wt) (j:Nat):List Wt:=
 if h:j=0\/lsW (gW l j) (gW l ((j-1)/2))=false then l else upW (swW l ((j-1)/2) j) ((j-1)/2)
termination_by j
decreasing_by omega
def dnW (l:List Wt) (n i:Nat):List Wt:=
 if h:n<=2*i+1\/lsW (gW l (chW l n i)) (gW l i)=false then l else dnW (swW l i (chW l n i)) n (chW l n i)
termination_by n-i
decreasing_by
 have:=(ph (l:=l) (show 2*i+1<n by omega)).2.1;omega
theorem ak7 (l:List Wt) (j:Nat):(upW l j).length=l.length:=by
 induction l,j using upW.induct with
 | case1 l j h=>rw [upW,dif_pos h]
 | case2 l j h ih=>rw [upW,dif_neg h,ih,v4]
theorem aa1 (l:List Wt) (n i:Nat):(dnW l n i).length=l.length:=by
 induction l,i using dnW.induct (n:=n) with
 | case1 l i h=>rw [dnW,dif_pos h]
 | case2 l i h ih=>rw [dnW,dif_neg h,ih,v4]
theorem awm:∀{n:Nat},j<n->n<=l.length->HpU l n j->Hp (upW l j) n/\(upW l j).Perm l:=by
 induction l,j using upW.induct with
 | case1 l j h=>
   intro n c a b;rw [upW,dif_pos h];exact ⟨b.done h,List.Perm.refl _⟩
 | case2 l j h ih=>
   intro n c a b;rw [upW,dif_neg h];rw [not_or,Bool.not_eq_false] at h;obtain ⟨e,d⟩:=ih (n:=n) (by omega) (by rw [v4]; exact a) (b.next c a (by omega) h.2);exact ⟨e,d.trans (aex (by omega) (by omega))⟩
theorem aye:n<=l.length->HpD l n i->Hp (dnW l n i) n/\(dnW l n i).Perm l:=by
 induction l,i using dnW.induct (n:=n) with
 | case1 l i h=>
   intro a b;rw [dnW,dif_pos h];exact ⟨b.done h,List.Perm.refl _⟩
 | case2 l i h ih=>
   intro a b;rw [dnW,dif_neg h];rw [not_or,Bool.not_eq_false] at h;obtain ⟨_,c2,e,_⟩:=ph (l:=l) (show 2*i+1<n by omega);obtain ⟨d,c⟩:=ih (by rw [v4]; exact a) (b.next a (by omega) h.2);exact ⟨d,c.trans (aex (by omega) (by omega))⟩
variable {k:Nat}
theorem aqc:n<=l.length->n<=k->gW (dnW l n i) k=gW l k:=by
 induction l,i using dnW.induct (n:=n) with
 | case1 l i h=>
   intro b a;rw [dnW,dif_pos h]
 | case2 l i h ih=>
   intro b a;rw [dnW,dif_neg h];rw [not_or] at h;obtain ⟨_,c2,c,_⟩:=ph (l:=l) (show 2*i+1<n by omega);rw [ih (by rw [v4]; exact b) a,za (by omega) (by omega),if_neg (by omega),if_neg (by omega)]
variable {t:List Wt}
theorem fk (h:i<l.length):gW (l++t) i=gW l i:=by
 unfold gW;rw [zah,zah,List.getElem?_append_left h]
theorem alb (a:i<l.length) (b:j<l.length):swW (l++t) i j=swW l i j++t:=by
 unfold swW;rw [fk a,fk b,List.set_append_left _ _ a,List.set_append_left _ _ (by rw [List.length_set]; exact b)]
theorem amj (b:n<=l.length) (h:2*i+1<n):chW (l++t) n i=chW l n i:=by
 unfold chW;by_cases a:2*i+2<n
 ·rw [fk (by omega),fk (by omega)]
 rw [if_neg (by omega),if_neg (by omega)]
theorem aja (h:Hp l l.length) (x:Wt):Hp (upW (l++[x]) l.length) (l.length+1)/\(upW (l++[x]) l.length).Perm (l++[x]):=by
 refine awm (by omega) (by simp) ⟨λ k a b f=>?_,λ c d g hc e=>by omega⟩;rw [fk (by omega),fk (by omega)];exact h k a (by omega)
theorem arn (o:l.length=n+1) (h:Hp l (n+1)):Hp (dnW (swW l 0 n) n 0) n/\(dnW (swW l 0 n) n 0).Perm l/\gW (dnW (swW l 0 n) n 0) n=gW l 0:=by
 have a:=za (l:=l) (i:=0) (j:=n) (by omega) (by omega)
 obtain ⟨e,d⟩:=aye (l:=swW l 0 n) (n:=n) (i:=0) (by rw [v4]; omega) ⟨λ k b f p=>by
  rw [a k,a ((k-1)/2),if_neg (by omega),if_neg (by omega),if_neg (by omega),if_neg (by omega)]
  exact h k b (by omega),λ c g q hc m=>by omega⟩
 refine ⟨e,d.trans (aex (by omega) (by omega)),?_⟩;rw [aqc (by rw [v4]; omega) (zai _),a,if_pos rfl]
theorem Hp.take (h:Hp l n) (d:n<=l.length):Hp (l.take n) n:=λ j c a=>by
 have e:∀i,i<n->gW (l.take n) i=gW l i:=λ i b=>by
  unfold gW;rw [zah,zah,List.getElem?_take,if_pos b]
 rw [e j a,e _ (by omega)];exact h j c a
def gy (l:List Wt):List Wt:=(dnW (swW l 0 (l.length-1)) (l.length-1) 0).take (l.length-1)
theorem als (m:l≠[]) (h:Hp l l.length):Hp (gy l) (l.length-1)/\(gy l).length=l.length-1/\l.Perm (gW l 0::gy l)/\∀x∈gy l,lsW x (gW l 0)=false:=by
 have q:1<=l.length:=by cases l with
  | nil=>exact absurd rfl m
  | cons a r=>simp
 obtain ⟨g,f,j⟩:=arn (l:=l) (n:=l.length-1) (by omega) (by rw [show l.length-1+1=l.length by omega]; exact h);have p:(dnW (swW l 0 (l.length-1)) (l.length-1) 0).length=l.length:=by rw [aa1,v4]
 have c:l.Perm (gW l 0::gy l):=by
  refine f.symm.trans ?_;unfold gy;generalize dnW (swW l 0 (l.length-1)) (l.length-1) 0=d at *
  have e:d=d.take (l.length-1)++[gW l 0]:=by
   have o:d.drop (l.length-1)=[gW l 0]:=by
    rw [List.drop_eq_getElem_cons (show l.length-1<d.length by omega),List.drop_of_length_le (show d.length<=l.length-1+1 by omega),<- gv (by omega),j]
   rw [<- o,List.take_append_drop]
  rw [e];refine (List.perm_append_comm).trans ?_;rw [<- e];exact List.Perm.refl _
 refine ⟨g.take (by omega),by rw [gy,List.length_take]; omega,c,λ x hx=>?_⟩;have k:x∈l:=c.symm.subset (List.mem_cons_of_mem _ hx);obtain ⟨i,b,rfl⟩:=List.getElem_of_mem k;rw [<- gv b];exact h.least i b

def v3:Nat->List Wt->List Wt
 | 0,_=>[]
 | k+1,l=>if l=[] then [] else gW l 0::v3 k (gy l)
def dw:Nat->List Wt->List Wt
 | 0,l=>l
 | k+1,l=>if l=[] then [] else dw k (gy l)
theorem ak8:∀(k:Nat) (l:List Wt),Hp l l.length->(v3 k l).length=min k l.length/\l.Perm (v3 k l++dw k l)/\(v3 k l).Pairwise (λ x y=>lsW y x=false)/\∀x∈v3 k l,∀y∈dw k l,lsW y x=false
 | 0,l,_=>⟨by simp [v3],by simp [v3,dw],by simp [v3],by simp [v3]⟩
 | k+1,l,h=>by
   by_cases b:l=[]
   ·subst b;simp [v3,dw]
   obtain ⟨j,p2,f,d⟩:=als b h
   have m:1<=l.length:=by cases l with
    | nil=>exact absurd rfl b
    | cons a r=>simp
   obtain ⟨i,c,e,g⟩:=ak8 k (gy l) (by rw [p2]; exact j);rw [v3,dw,if_neg b,if_neg b];refine ⟨by rw [zae,i,p2]; omega,?_,List.pairwise_cons.2 ⟨λ y hy=>d y (c.symm.subset (zax _ hy)),e⟩,λ x hx y hy=>?_⟩
   ·rw [zau];exact f.trans (c.cons _)
   rcases zan.1 hx with rfl | hx
   ·exact d y (c.symm.subset (List.mem_append_right _ hy))
   exact g x hx y hy

def kb (es:List MapEntry):List (Value×Nat):=es.map λ e=>(e.key,e.born)
variable {es':List MapEntry}
theorem ad2 {es:List MapEntry} (h:kb es=kb es'):es.map kI=es'.map kI:=by
 have e:∀l:List MapEntry,l.map kI=(kb l).map λ p=>match p.1 with | .int _ n=>n | _=>0:=λ l=>by
  unfold kb;rw [List.map_map];exact List.map_congr_left λ e _=>rfl
 rw [e,e,h]
theorem anj {es:List MapEntry} {c:Nat} (h:kb es'=kb es) (n:ea es c):ea es' c:=by
 obtain ⟨l,j,m⟩:=n
 have k:es'.map (·.born)=es.map (·.born):=by
  have:=congrArg (List.map Prod.snd) h;simpa [kb,Function.comp_def] using this
 have i:∀e∈es',∃f∈es,f.key=e.key/\f.born=e.born:=λ e d=>by
  have:(e.key,e.born)∈kb es:=by rw [<- h]; exact zaf.2 ⟨e,d,rfl⟩
  obtain ⟨f,b,a⟩:=zaf.1 this;simp only [Prod.mk.injEq] at a;exact ⟨f,b,a.1,a.2⟩
 refine ⟨λ e d=>?_,by rw [k]; exact j,λ e d=>?_⟩
 ·obtain ⟨f,b,a,_⟩:=i e d;have:=l f b;rw [a] at this;rw [this];have g:kI e=kI f:=by unfold kI; rw [a]
  rw [g]
 obtain ⟨f,b,_,g⟩:=i e d;rw [<- g];exact m f b
theorem abj {k:Int}:∀{es:List MapEntry} (i:Nat),(∀e∈es,e.key=.int .u64 (kI e))->k∈es.map kI->∃j v e,z8 (.int .u64 k) es i=some (some (i+j,v))/\es[j]?=some e/\e.key=.int .u64 k/\e.val=v
 | [],i,_,hk=>by simp at hk
 | e::es,i,h,hk=>by
   have c:=h e (by simp);have m:kr (.int .u64 k) e.key=some (k == kI e):=by rw [c]; simp [kr]
   rw [z8,m];by_cases a:k=kI e
   ·refine ⟨0,e.val,e,?_,rfl,by rw [a]; exact c,rfl⟩;rw [beq_iff_eq.2 a]
    rfl
   rw [beq_eq_false_iff_ne.2 a];have b:k∈es.map kI:=(zan.1 hk).resolve_left a;obtain ⟨j,v,f,g,d,l,n⟩:=abj (i+1) (λ x hx=>h x (by simp [hx])) b;refine ⟨j+1,v,f,?_,by simpa using d,l,n⟩;show z8 (.int .u64 k) es (i+1) = _;rw [g,Nat.add_assoc,Nat.add_comm 1 j]
theorem qt {k:Int}:∀{es:List MapEntry} (i:Nat),(∀e∈es,e.key=.int .u64 (kI e))->k∉es.map kI->z8 (.int .u64 k) es i=some none
 | [],i,_,_=>rfl
 | e::es,i,h,hk=>by
   have b:=h e (by simp);have a:k≠kI e:=λ q=>hk (by simp [q]);have c:kr (.int .u64 k) e.key=some false:=by rw [b]; simp [kr,a]
   rw [z8,c];exact qt (i+1) (λ x hx=>h x (by simp [hx])) λ q=>hk (by rw [List.map_cons]; exact List.mem_cons_of_mem _ q)
def adg (es:List MapEntry) (c:Nat) (k:Int) (n:Int):List MapEntry:=agb (xg es c (.int .u64 k) (.int .i64 0)) (xf es c (.int .u64 k)) (.int .i64 n)
theorem ad7 {es:List MapEntry} {c:Nat} (h:ea es c) {k:Int} (m:k∈es.map kI) (n:Int) :
 kb (adg es c k n)=kb es/\okK es (.int .u64 k)=true/\ani (xg es c (.int .u64 k) (.int .i64 0)) (xf es c (.int .u64 k))=true/\v5 es c (.int .u64 k)=c:=by
 obtain ⟨j,v,e,d,f,p,s⟩:=abj 0 h.1 m;rw [zaa] at d;have r:=(List.getElem?_eq_some_iff.1 f).1
 have i:xg es c (.int .u64 k) (.int .i64 0)=es:=by
  simp only [xg,d];refine List.ext_getElem? λ q=>?_;rw [List.getElem?_modify];by_cases b:j=q
  ·subst b;simp only [if_true,Option.map_eq_map,f,Option.map_some];rw [<- p]
  simp only [if_neg b,Option.map_eq_map];cases es[q]? <;> rfl
 have g:xf es c (.int .u64 k)=e.born:=by
  simp only [xf,d,f]
  rfl
 have l:∃q,es.findIdx? (λ x=>(x.born:Int) == (e.born:Int))=some q:=by
  cases b:es.findIdx? (λ x=>(x.born:Int) == (e.born:Int)) with
  | some q=>exact ⟨q,rfl⟩
  | none=>
    have:=List.findIdx?_eq_none_iff.1 b e (List.mem_of_getElem? f);simp at this
 obtain ⟨q,b⟩:=l;refine ⟨?_,by simp [okK,d],by rw [i,g]; simp [ani,b],by simp [v5,d]⟩;unfold adg;rw [i,g];simp only [agb,b];unfold kb;refine List.ext_getElem? λ z=>?_;rw [zao,zao,List.getElem?_modify];cases es[z]? with
 | none=>rfl
 | some a=>by_cases o:q=z<;>simp [o]

def vq:Mk P0 f178:={ x:=_ }
def wg:Mk P0 f174:={ x:=_ }
theorem aaj:pb 174 3 wg:=fm func174
def we:Mk P0 f177:={ x:=_ }
theorem aai:pb 177 3 we:=fm func177
def yd:Mk P0 f173:={ x:=_ }
theorem abf:pb 173 1 yd:=fm func173
def ow:Mk P0 f176:={ x:=_ }
theorem qm:pb 176 2 ow:=fm func176
def yc:Mk P0 f175:={ x:=_ }
theorem abe:pb 175 1 yc:=fm func175
def wR (a:Wt):RV:=.agg [.v (.int .u64 a.1),.v (.int .i64 a.2)]
def zW:RV:=.agg [.v (.int .u64 0),.v (.int .i64 0)]
def d8 (l:List Wt):Ob:=.row 2 zW true true (l.map wR)
def qO (l:List Wt) (n:Nat) (es:List MapEntry) (c:Nat):List Ob:=[.box [.own 1000001 0 0 n,.mp 1000002 0],d8 l,.map es c]
theorem ww (h:i<l.length) (z:RV):(l.map wR).getD i z=.agg [.v (.int .u64 (gW l i).1),.v (.int .i64 (gW l i).2)]:=by
 rw [zah,zao,zat h,gv h]
 rfl
theorem auu (a b:Wt):a9 P0 178 [.r (wR a),.r (wR b)] [] (bl (lsW a b)) []:=by
 refine vq.t func178 ?_;by_cases h:a.2=b.2
 ·have e:(a.2 != b.2)=false:=by simp [h]
  have c:lsW a b=decide (a.1<b.1):=by unfold lsW; rw [if_neg (by simp [h])]
  rw [c]
  push_cast [vq,wR,e,zad]
 have e:(a.2 != b.2)=true:=by simp [h]
 have c:lsW a b=decide (a.2>b.2):=by unfold lsW; rw [if_pos h]
 rw [c]
 push_cast [vq,wR,e,zad]
theorem ahd (l:List Wt) (n:Nat) (e:n<=l.length) (es:List MapEntry) (c i k:Nat) (d:i<n) (f:k<n) :
 a9 P0 174 [.ptr 1000000 0 0,int .i64 i,int .i64 k] (qO l n es c) (bl (lsW (gW l i) (gW l k))) (qO l n es c):=by
 refine aaj rfl (by simp [qO]) ?_;have b:=λ z=>ww (l:=l) (i:=i) (by omega) z;have a:=λ z=>ww (l:=l) (i:=k) (by omega) z
 push_cast [wg,qO,d8,zW,b,a,zag,zae,zad,zab,zac,zaa]
 refine And.intro ⟨by omega,by omega⟩ (And.intro ⟨by omega,by omega⟩ ?_);refine v7 (as':=[.r (wR (gW l i)),.r (wR (gW l k))]) rfl ?_;refine g7 (auu _ _) rfl trivial ?_
 push_cast
 kernel_rfl
theorem ai7 (l:List Wt) (n:Nat) (es:List MapEntry) (c:Nat):a9 P0 173 [.ptr 1000000 0 0] (qO l n es c) (int .i64 n) (qO l n es c):=by
 refine abf rfl (by simp [qO]) ?_
 push_cast [yd,qO,d8,zW,zae,zad]
def swE (l:List Wt) (es:List MapEntry) (c i k:Nat):List MapEntry:=adg (adg es c (gW (swW l i k) i).1 i) c (gW (swW l i k) k).1 k
theorem ag9 (l:List Wt) (n:Nat) (H:n<=l.length) (es:List MapEntry) (c i k:Nat) (t:i<n) (E:k<n) (u:ea es c) (a:∀j,j<n->(gW l j).1∈es.map kI) :
 a9 P0 177 [.ptr 1000000 0 0,int .i64 i,int .i64 k] (qO l n es c) (.tup []) (qO (swW l i k) n (swE l es c i k) c):=by
 refine aai rfl (by simp [qO]) ?_;have q:=λ z=>ww (l:=l) (i:=i) (by omega) z;have p:=λ z=>ww (l:=l) (i:=k) (by omega) z
 have o:(l.map wR).set i (.agg [.v (.int .u64 (gW l k).1),.v (.int .i64 (gW l k).2)])=(l.set i (gW l k)).map wR:=by
  rw [List.map_set]
  rfl
 have h:=λ z=>ww (l:=l.set i (gW l k)) (i:=k) (by rw [List.length_set]; omega) z
 have s:((l.set i (gW l k)).map wR).set k (.agg [.v (.int .u64 (gW l i).1),.v (.int .i64 (gW l i).2)])=(swW l i k).map wR:=by
  unfold swW;rw [List.map_set (l:=l.set i (gW l k))]
  rfl
 have J:(swW l i k).length=l.length:=v4 l i k;have f:=λ z=>ww (l:=swW l i k) (i:=i) (by omega) z;have e:=λ z=>ww (l:=swW l i k) (i:=k) (by omega) z
 have m:(gW (swW l i k) i).1∈es.map kI:=by
  rw [za (by omega) (by omega)];split
  ·exact a i t
  rw [if_pos rfl]; exact a k E
 have g:(gW (swW l i k) k).1∈es.map kI:=by
  rw [za (by omega) (by omega),if_pos rfl];exact a i t
 obtain ⟨A,C,F,D⟩:=ad7 u m i;have r:=anj A u;rw [<- ad2 A] at g;obtain ⟨K,w,B,y⟩:=ad7 r g k;have d:adg (adg es c (gW (swW l i k) i).1 i) c (gW (swW l i k) k).1 k=swE l es c i k:=rfl;generalize swE l es c i k=I at *;obtain ⟨x,b⟩:∃x,adg es c (gW (swW l i k) i).1 i=x:=⟨_,rfl⟩
 rw [b] at w B y d;unfold adg at b d;have G:∀n,bg false (.int .u64 n)=true:=λ _=>rfl
 push_cast [we,qO,d8,zW,q,p,o,h,s,f,e,C,F,D,w,B,y,b,d,G,abk,agc,ad1,aik,zag,zae,zad,List.drop_succ_cons,List.drop_zero,List.take_succ_cons,List.take_zero,zau,List.nil_append,zab,zac,zaa]
 refine And.intro ⟨by omega,by omega⟩ (And.intro ⟨by omega,by omega⟩ (And.intro ⟨by omega,by omega⟩ (And.intro ⟨by omega,by omega⟩ (And.intro (by kernel_rfl) ?_))))
 repeat refine And.intro (by first | omega | exact ⟨by omega,by omega⟩ | kernel_rfl) ?_
 kernel_rfl

def ifW (a:Wt):AV:=.ifc 82 (.agg [int .u64 a.1,int .i64 a.2])
def puE (es:List MapEntry) (c:Nat) (k n:Int):List MapEntry:=y7 es c (.int .u64 k) (.int .i64 n)
theorem acw {es:List MapEntry} {c:Nat} (h:ea es c) {k:Int} (m:k∉es.map kI) (n:Int):okK es (.int .u64 k)=true/\v5 es c (.int .u64 k)=c+1/\puE es c k n=es++[⟨.int .u64 k,.int .i64 n,c⟩]/\ea (puE es c k n) (c+1)/\(puE es c k n).map kI=es.map kI++[k]:=by
 have d:=qt 0 h.1 m;have e:puE es c k n=es++[⟨.int .u64 k,.int .i64 n,c⟩]:=by simp [puE,y7,d]
 refine ⟨by simp [okK,d],by simp [v5,d],e,?_,by rw [e]; simp [kI]⟩;rw [e];obtain ⟨o,p,g⟩:=h;refine ⟨λ x hx=>?_,?_,λ x hx=>?_⟩
 ·rcases zaj.1 hx with hx | hx
  ·exact o x hx
  obtain rfl:=List.mem_singleton.1 hx
  rfl
 ·rw [zas,zaq];refine ⟨p,by simp,λ a j b i=>?_⟩;obtain ⟨f,l,rfl⟩:=zaf.1 j;simp at i;subst i;have:=g f l;omega
 rcases zaj.1 hx with hx | hx
 ·have:=g x hx;omega
 obtain rfl:=List.mem_singleton.1 hx;simp
theorem arc (es:List MapEntry) (c:Nat) (x:Wt) (a:ea es c) (hx:x.1∉es.map kI) :
 a9 P0 176 [.ptr 1000000 0 0,ifW x] [.box [.nils 2 zW,.mp 1000001 0],.map es c] (.tup []) [.box [.own 1000002 0 0 1,.mp 1000001 0],.map (puE es c x.1 0) (c+1),d8 [x]]:=by
 refine qm rfl (by simp) ?_;obtain ⟨e,d,_⟩:=acw a hx 0;have b:∀n,bg false (.int .u64 n)=true:=λ _=>rfl
 push_cast [ow,qO,d8,zW,ifW,wR,e,d,b,zae,zad,zab,zac,zaa]
 repeat refine And.intro (by first | exact Or.inl trivial | omega | exact ⟨by omega,by omega⟩ | exact ⟨by omega,by omega,by omega⟩ | kernel_rfl | (simp; done) | (have:=u9; omega) | exact ⟨by omega,by have:=u9; omega⟩) ?_
 rfl
theorem auo (l:List Wt) (g:l.length<=1000000) (f:l≠[]) (es:List MapEntry) (c:Nat) (x:Wt) (a:ea es c) (hx:x.1∉es.map kI) :
 a9 P0 176 [.ptr 1000000 0 0,ifW x] (qO l l.length es c) (.tup []) (qO (l++[x]) (l.length+1) (puE es c x.1 l.length) (c+1)):=by
 refine qm rfl (by simp [qO]) ?_;obtain ⟨e,d,_⟩:=acw a hx l.length;have b:∀n,bg false (.int .u64 n)=true:=λ _=>rfl
 push_cast [ow,qO,d8,zW,ifW,wR,e,d,b,zag,zae,zad,zab,zac,zaa]
 repeat refine And.intro (by first | exact Or.inl trivial | omega | exact ⟨by omega,by omega⟩ | exact ⟨by omega,by omega,by omega⟩ | kernel_rfl | (simp; done) | (have:=u9; omega) | exact ⟨by omega,by have:=u9; omega⟩) ?_
 simp [puE,wR]
theorem aw2 (l:List Wt) (n:Nat) (m:n+1<=l.length) (o:l.length<=1000000) (es:List MapEntry) (c:Nat) (a:ea es c) :
 a9 P0 175 [.ptr 1000000 0 0] (qO l (n+1) es c) (ifW (gW l n)) (qO l n (y8 es (.int .u64 (gW l n).1)) c):=by
 refine abe rfl (by simp [qO]) ?_;have g:∀n,bg false (.int .u64 n)=true:=λ _=>rfl
 have f:okK es (.int .u64 (gW l n).1)=true:=by
  unfold okK;by_cases h:(gW l n).1∈es.map kI
  ·obtain ⟨j,v,e,d,_⟩:=abj 0 a.1 h;rw [d]; rfl
  rw [qt 0 a.1 h]; rfl
 have b:IntKind.i64.wrap ((n:Int)+1-1)=n:=by rw [a7 (by omega)]; omega
 have k:=λ z=>ww (l:=l) (i:=n) (by omega) z
 push_cast [yc,qO,d8,zW,ifW,wR,g,f,b,k,Int.natCast_add,Int.natCast_one,zag,zae,zad,zab,zac,zaa]
 repeat refine And.intro (by first | exact Or.inl trivial | omega | exact ⟨by omega,by omega⟩ | exact ⟨by omega,by omega,by omega⟩ | kernel_rfl | (simp; done) | (have:=u9; omega) | exact ⟨by omega,by have:=u9; omega⟩) ?_
 simp

def agk:PC:=
 (.block 0 (.loop (.block 1 (.seq (.reg [p_m 5 1,p_s 6 (.bin .sub (.t 5) (o_i 1)),p_s 7 (.bin .quo (.t 6) (o_i 2)),p_m 4 7])
 (.seq (.seq (.reg [p_m 8 4,p_m 9 1,p_s 10 (.bin .eql (.t 8) (.t 9)),p_m 11 10,p_g 12 11 false (.mov (.t 0)),p_g 13 11 false (.mov (.t 1)),p_g 14 11 false (.mov (.t 4)),⟨(some 15),(some (11,false)),1,.inv [(114,174)] (.t 12) [(.t 13),(.t 14)]⟩,
 p_g 16 11 false (.un .not (.t 15)),p_s 17 (.pick (.t 11) (.c (.r (.v (.bool true)))) (.t 16))])
 (.cond (.t 17)
 (.exit 0)
 .skip))
 (.seq (.reg [p_m 18 0,p_m 19 4,p_m 20 1,⟨(some 21),none,2,.inv [(114,177)] (.t 18) [(.t 19),(.t 20)]⟩])
 (.reg [p_m 22 4,p_m 1 22])))))))
theorem ahm:Fun P0 94 2 [] agk:=se func94 rfl (by decide) (by kernel_rfl) (by decide) rfl (by kernel_rfl) (by kernel_rfl) (by decide)
def ac8:PC:=
 (.seq (.reg [p_s 6 (.mov (.c (.r (.v (.bool false)))))])
 (.seq (.reg [p_m 11 1,p_m 7 11])
 (.seq (.block 0 (.loop (.block 1 (.seq (.reg [p_m 12 7,p_s 13 (.bin .mul (o_i 2) (.t 12)),p_s 14 (.bin .add (.t 13) (o_i 1)),p_m 8 14])
 (.seq (.seq (.reg [p_m 15 8,p_m 16 2,p_s 17 (.bin .geq (.t 15) (.t 16)),p_m 18 17,p_g 19 18 false (.mov (.t 8)),p_g 20 18 false (.bin .lss (.t 19) (o_i 0)),p_s 21 (.pick (.t 18) (.c (.r (.v (.bool true)))) (.t 20))])
 (.cond (.t 21)
 (.exit 0)
 .skip))
 (.seq (.reg [p_m 22 8,p_m 9 22])
 (.seq (.seq (.reg [p_m 23 8,p_s 24 (.bin .add (.t 23) (o_i 1)),p_m 10 24])
 (.seq (.reg [p_m 25 10,p_m 26 2,p_s 27 (.bin .lss (.t 25) (.t 26)),p_m 28 27,p_g 29 28 true (.mov (.t 0)),p_g 30 28 true (.mov (.t 10)),p_g 31 28 true (.mov (.t 8)),⟨(some 32),(some (28,true)),1,.inv [(114,174)] (.t 29) [(.t 30),(.t 31)]⟩,
 p_s 33 (.pick (.t 28) (.t 32) (.c (.r (.v (.bool false)))))])
 (.cond (.t 33)
 (.reg [p_m 34 10,p_m 9 34])
 .skip)))
 (.seq (.seq (.reg [p_m 35 0,p_m 36 9,p_m 37 7,⟨(some 38),none,2,.inv [(114,174)] (.t 35) [(.t 36),(.t 37)]⟩,p_s 39 (.un .not (.t 38))])
 (.cond (.t 39)
 (.exit 0)
 .skip))
 (.seq (.reg [p_m 40 0,p_m 41 7,p_m 42 9,⟨(some 43),none,3,.inv [(114,177)] (.t 40) [(.t 41),(.t 42)]⟩])
 (.reg [p_m 44 9,p_m 7 44]))))))))))
 (.seq (.reg [p_m 45 7,p_m 46 1,p_s 47 (.bin .gtr (.t 45) (.t 46)),p_m 6 47])
 .ret))))
theorem afd:Fun P0 95 3 [(6,false,none)] ac8:=se func95 rfl (by decide) (by kernel_rfl) (by decide) rfl (by kernel_rfl) (by kernel_rfl) (by decide)
def ym:PC:=
 (.seq (.reg [p_m 4 0,p_m 5 1,⟨(some 6),none,1,.inv [(78,36),(114,176)] (.t 4) [(.t 5)]⟩])
 (.reg [p_m 7 0,p_m 8 0,⟨(some 9),none,2,.inv [(26,18),(59,170),(78,171),(114,173)] (.t 8) []⟩,p_s 10 (.bin .sub (.t 9) (o_i 1)),p_c 11 3 94 [.t 7,.t 10]]))
theorem yl:Fun P0 60 2 [] ym:=se func60 rfl (by decide) (by kernel_rfl) (by decide) rfl (by kernel_rfl) (by kernel_rfl) (by decide)
def aek:PC:=
 (.seq (.reg [p_s 2 (.mov (.c (.r (.v .nilIface))))])
 (.seq (.reg [p_m 4 0,⟨(some 5),none,1,.inv [(26,18),(59,170),(78,171),(114,173)] (.t 4) []⟩,p_s 6 (.bin .sub (.t 5) (o_i 1)),p_m 3 6])
 (.seq (.reg [p_m 7 0,p_m 8 3,⟨(some 9),none,2,.inv [(114,177)] (.t 7) [(o_i 0),(.t 8)]⟩])
 (.seq (.reg [p_m 10 0,p_m 11 3,p_c 12 3 95 [(.t 10),(o_i 0),(.t 11)]])
 (.seq (.reg [p_m 13 0,⟨(some 14),none,4,.inv [(78,37),(114,175)] (.t 13) []⟩,p_m 2 14])
 .ret)))))
theorem agl:Fun P0 62 1 [(2,false,none)] aek:=se func62 rfl (by decide) (by kernel_rfl) (by decide) rfl (by kernel_rfl) (by kernel_rfl) (by decide)
def qI:AV:=.ifc 114 (.ptr 1000000 0 0)
def upE (l:List Wt) (es:List MapEntry) (c j:Nat):List MapEntry:=
 if h:j=0\/lsW (gW l j) (gW l ((j-1)/2))=false then es else upE (swW l ((j-1)/2) j) (swE l es c ((j-1)/2) j) c ((j-1)/2)
termination_by j
decreasing_by omega
def dnE (l:List Wt) (es:List MapEntry) (c n i:Nat):List MapEntry:=
 if h:n<=2*i+1\/lsW (gW l (chW l n i)) (gW l i)=false then es else dnE (swW l i (chW l n i)) (swE l es c i (chW l n i)) c n (chW l n i)
termination_by n-i
decreasing_by
 have:=(ph (l:=l) (show 2*i+1<n by omega)).2.1;omega
def dnI (l:List Wt) (n i:Nat):Nat:=
 if h:n<=2*i+1\/lsW (gW l (chW l n i)) (gW l i)=false then i else dnI (swW l i (chW l n i)) n (chW l n i)
termination_by n-i
decreasing_by
 have:=(ph (l:=l) (show 2*i+1<n by omega)).2.1;omega
def Nam (l:List Wt) (n:Nat) (es:List MapEntry) (c:Nat):Prop:=ea es c/\n<=l.length/\∀j,j<n->(gW l j).1∈es.map kI
theorem Nam.sw {es:List MapEntry} {c:Nat} (h:Nam l n es c) (o:i<n) (p:k<n):Nam (swW l i k) n (swE l es c i k) c/\kb (swE l es c i k)=kb es:=by
 obtain ⟨b,q,d⟩:=h;have s:=za (l:=l) (i:=i) (j:=k) (by omega) (by omega)
 have f:∀j,j<n->(gW (swW l i k) j).1∈es.map kI:=λ j a=>by
  rw [s j];split
  ·exact d i o
  split
  ·exact d k p
  exact d j a
 obtain ⟨m,_⟩:=ad7 b (f i o) i;have g:=anj m b;obtain ⟨r,_⟩:=ad7 g (k:=(gW (swW l i k) k).1) (by rw [ad2 m]; exact f k p) k;have e:kb (swE l es c i k)=kb es:=r.trans m;exact ⟨⟨anj e b,by rw [v4]; exact q,λ j a=>by rw [ad2 e]; exact f j a⟩,e⟩
theorem awl (d:List Wt) (n:Nat) (I:d.length<=1000000) (b:List MapEntry) (c e:Nat) (z:e<n) (H:Nam d n b c) :
 a9 P0 94 [qI,int .i64 e] (qO d n b c) (.tup []) (qO (upW d e) n (upE d b c e) c):=by
 refine ahm rfl (by simp [qO]) ?_
 push_cast [agk,qI,qO,zae,zad]
 refine d3 [(1,false),(0,false)] (λ vs pos m=>∃(j:Nat) (l:List Wt) (es:List MapEntry),l.length<=1000000/\j<n/\Nam l n es c/\upW d e=upW l j/\upE d b c e=upE l es c j/\vs=[int .i64 j,qI]/\pos=qO l n es c/\m=[])
  (λ vs _ _=>match vs with | .r (.v (.int _ a))::_=>a.toNat | _=>0) rfl ?_ ?_
 ·push_cast [qI,qO,d8,zW]
  exact ⟨e,d,b,I,z,H,rfl,rfl,rfl,rfl⟩
 rintro vs pos m ⟨j,l,es,C,y,x,E,G,rfl,rfl,rfl⟩;obtain ⟨i,t⟩:∃i,(j-1)/2=i:=⟨_,rfl⟩
 have g:=x.2.1;have s:IntKind.i64.wrap ((j:Int)-1)=j-1:=a7 (by omega)
 have u:((j:Int)-1).tdiv 2=i:=by
  by_cases h:j=0
  ·subst h;rw [<- t]
   rfl
  rw [zak (by omega)];omega
 have w:IntKind.i64.wrap (i:Int)=i:=a7 (by omega)
 have f:j=0\/lsW (gW l j) (gW l i)=false->upW d e=l/\upE d b c e=es:=λ q=>by
  rw [E,G,upW,upE,t,dif_pos q,dif_pos q];exact ⟨rfl,rfl⟩
 by_cases F:j=0
 ·have p:((i:Int) == (j:Int))=true:=by simp; omega
  obtain ⟨D,B⟩:=f (.inl F);rw [D,B]
  push_cast [qI,qO,d8,zW,s,u,w,p]
 have p:((i:Int) == (j:Int))=false:=by simp; omega
 push_cast [qI,qO,d8,zW,s,u,w,p]
 refine b9 (as':=[.ptr 1000000 0 0,int .i64 j,int .i64 i]) rfl ?_;refine a6 (ahd l n g es c j i y (by omega)) rfl (by simp [qO,d8,d7]) ?_;cases hs:lsW (gW l j) (gW l i) with
 | false=>
   obtain ⟨D,B⟩:=f (.inr hs);rw [D,B]
   push_cast [qI,qO,d8,zW,s,u,w,p]
 | true=>
   obtain ⟨J,K⟩:=x.sw (i:=i) (k:=j) (by omega) y;have A:=ag9 l n g es c i j (by omega) y x.1 x.2.2
   push_cast [qI,qO,d8,zW,s,u,w,p]
   refine b9 (as':=[.ptr 1000000 0 0,int .i64 i,int .i64 j]) rfl ?_;refine a6 A rfl (by simp [qO,d8,d7]) ?_
   push_cast [qI,qO,d8,zW]
   have o:¬(j=0\/lsW (gW l j) (gW l i)=false):=λ q=>q.elim F (λ q=>by rw [hs] at q; cases q);exact ⟨⟨i,swW l i j,swE l es c i j,by rw [v4]; exact C,by omega,J,by rw [E,upW,t,dif_neg o],by rw [G,upE,t,dif_neg o],rfl,rfl⟩,by omega⟩
theorem a0q (d:List Wt) (m n:Nat) (U:n<=m) (S:d.length<=1000000) (e:List MapEntry) (c b:Nat) (G:b<=n) (Q:Nam d m e c) :
 a9 P0 95 [qI,int .i64 b,int .i64 n] (qO d m e c) (bl (decide ((dnI d n b:Int)>b))) (qO (dnW d n b) m (dnE d e c n b) c):=by
 refine afd rfl (by simp [qO]) ?_
 push_cast [ac8,qI,qO,zae,zad]
 refine d3 [(7,false),(0,false),(1,false),(2,false)] (λ vs pos t=>∃(i:Nat) (l:List Wt) (es:List MapEntry),l.length<=1000000/\i<=n/\Nam l m es c/\dnW d n b=dnW l n i/\dnE d e c n b=dnE l es c n i/\dnI d n b=dnI l n i/\vs=[int .i64 i,qI,int .i64 b,int .i64 n]/\pos=qO l m es c/\t=[])
  (λ vs _ _=>match vs with | .r (.v (.int _ a))::_=>(n-a).toNat | _=>0) rfl ?_ ?_
 ·push_cast [qI,qO,d8,zW]
  exact ⟨b,d,e,S,G,Q,rfl,rfl,rfl,rfl,rfl⟩
 rintro vs pos t ⟨i,l,es,K,W,w,M,P,O,rfl,rfl,rfl⟩;have j:=w.2.1;have z:IntKind.i64.wrap (2*(i:Int))=2*i:=a7 (by omega);have A:IntKind.i64.wrap (2*(i:Int)+1)=2*i+1:=a7 (by omega);have C:IntKind.i64.wrap (2*(i:Int)+1+1)=2*i+2:=by rw [a7 (by omega)]; omega
 have y:decide (2*(i:Int)+1<0)=false:=decide_eq_false (by omega)
 have f:n<=2*i+1\/lsW (gW l (chW l n i)) (gW l i)=false->dnW d n b=l/\dnE d e c n b=es/\dnI d n b=i:=λ q=>by
  rw [M,P,O,dnW,dnE,dnI,dif_pos q,dif_pos q,dif_pos q];exact ⟨rfl,rfl,rfl⟩
 by_cases N:n<=2*i+1
 ·have x:decide (2*(i:Int)+1>=n)=true:=decide_eq_true (by omega);obtain ⟨L,D,E⟩:=f (.inl N);rw [L,D,E]
  push_cast [qI,qO,d8,zW,z,A,C,y,x]
 have x:decide (2*(i:Int)+1>=n)=false:=decide_eq_false (by omega);obtain ⟨R,c2,V,X⟩:=ph (l:=l) (show 2*i+1<n by omega);obtain ⟨J,g⟩:∃J,chW l n i=J:=⟨_,rfl⟩
 have hc:(2*i+2<n/\lsW (gW l (2*i+2)) (gW l (2*i+1))=true/\J=2*i+2)\/(2*i+2<n/\lsW (gW l (2*i+2)) (gW l (2*i+1))=false/\J=2*i+1)\/(¬2*i+2<n/\lsW (gW l 0) (gW l 0)=false/\J=2*i+1):=by
  unfold chW at g;by_cases h:2*i+2<n
  ·cases p:lsW (gW l (2*i+2)) (gW l (2*i+1)) with
   | true=>rw [if_pos ⟨h,p⟩] at g; exact .inl ⟨h,rfl,g.symm⟩
   | false=>rw [if_neg (λ q=>by rw [p] at q; exact absurd q.2 (by decide))] at g; exact .inr (.inl ⟨h,rfl,g.symm⟩)
  rw [if_neg (λ q=>h q.1)] at g;exact .inr (.inr ⟨h,by rw [zg]; omega,g.symm⟩)
 rw [g] at R c2 V f;obtain ⟨T,Y⟩:=w.sw (i:=i) (k:=J) (by omega) (by omega);have H:=ahd l m j es c J i (by omega) (by omega);have B:=ag9 l m j es c i J (by omega) (by omega) w.1 w.2.2;have u:=ahd l m j es c (2*i+2)
 rcases hc with ⟨h,p,s⟩ | ⟨h,p,s⟩ | ⟨h,p,s⟩<;>(
  first
  | (have F:decide (2*(i:Int)+2<n)=true:=decide_eq_true (by omega)
     have I:=u (2*i+1) (by omega) (by omega)
     push_cast [qI,qO,d8,zW,z,A,C,y,x,F]
     refine b9 (as':=[.ptr 1000000 0 0,int .i64 (2*i+2:Nat),int .i64 (2*i+1:Nat)]) (by simp) ?_;refine a6 I rfl (by simp [qO,d8,d7]) ?_
     push_cast [qI,qO,d8,zW,p])
  | (have F:decide (2*(i:Int)+2<n)=false:=decide_eq_false (by omega)
     push_cast [qI,qO,d8,zW,z,A,C,y,x,F])
  first
  | rw [show 2*(i:Int)+2=(J:Int) by omega]
  | rw [show 2*(i:Int)+1=(J:Int) by omega]
  refine b9 (as':=[.ptr 1000000 0 0,int .i64 J,int .i64 i]) rfl ?_;refine a6 H rfl (by simp [qO,d8,d7]) ?_;cases hs:lsW (gW l J) (gW l i) with
  | false=>
    obtain ⟨L,D,E⟩:=f (.inr hs);rw [L,D,E]
    push_cast [qI,qO,d8,zW]
  | true=>
    push_cast [qI,qO,d8,zW]
    refine b9 (as':=[.ptr 1000000 0 0,int .i64 i,int .i64 J]) rfl ?_;refine a6 B rfl (by simp [qO,d8,d7]) ?_
    push_cast [qI,qO,d8,zW]
    have o:¬(n<=2*i+1\/lsW (gW l J) (gW l i)=false):=λ q=>q.elim N (λ q=>by rw [hs] at q; cases q)
    exact ⟨⟨J,swW l i J,swE l es c i J,by rw [v4]; exact K,by omega,T,by rw [M,dnW,g,dif_neg o],by rw [P,dnE,g,dif_neg o],by rw [O,dnI,g,dif_neg o],rfl,rfl⟩,by omega⟩)

theorem ar6 (es:List MapEntry) (c:Nat) (x:Wt) (e:ea es c) (hx:x.1∉es.map kI) :
 a9 P0 60 [qI,ifW x] [.box [.nils 2 zW,.mp 1000001 0],.map es c] (.tup []) [.box [.own 1000002 0 0 1,.mp 1000001 0],.map (puE es c x.1 0) (c+1),d8 [x]]:=by
 refine yl rfl (by simp) ?_;obtain ⟨n,o,m,i,k⟩:=acw e hx 0
 have f:Nam [x] 1 (puE es c x.1 0) (c+1):=⟨i,by simp,λ j l=>by
  obtain rfl:j=0:=by omega
  rw [k];show x.1∈_
  simp⟩
 have a:=awl [x] 1 (by simp) (puE es c x.1 0) (c+1) 0 (by omega) f;have h:upW [x] 0=[x]:=by rw [upW,dif_pos (.inl rfl)]
 have g:upE [x] (puE es c x.1 0) (c+1) 0=puE es c x.1 0:=by rw [upE,dif_pos (.inl rfl)]
 rw [h,g] at a;have d:=arc es c x e hx;have b:=ai7 [x] 1 (puE es c x.1 0) (c+1)
 push_cast [ym,qI,ifW,zW,zae,zad]
 refine b9 (as':=[.ptr 1000000 0 0,ifW x]) rfl ?_;refine a6 d rfl (by simp [d7]) ?_
 push_cast [qI,qO,d8,zW]
 refine b9 (as':=[.ptr 1000000 0 0]) rfl ?_;refine a6 b rfl (by simp [qO,d8,d7]) ?_
 push_cast [qI,qO,d8,zW]
 refine b9 (as':=[qI,int .i64 (0:Nat)]) rfl ?_;refine a6 a rfl (by simp [qO,d8,d7]) ?_
 push_cast [qI,qO,d8,zW]
theorem ave (l:List Wt) (q:l.length<1000000) (i:l≠[]) (es:List MapEntry) (c:Nat) (x:Wt) (b:Nam l l.length es c) (hx:x.1∉es.map kI) :
 a9 P0 60 [qI,ifW x] (qO l l.length es c) (.tup []) (qO (upW (l++[x]) l.length) (l.length+1) (upE (l++[x]) (puE es c x.1 l.length) (c+1) l.length) (c+1)):=by
 refine yl rfl (by simp [qO]) ?_;obtain ⟨o,r,p,m,k⟩:=acw b.1 hx l.length
 have e:Nam (l++[x]) (l.length+1) (puE es c x.1 l.length) (c+1):=⟨m,by simp,λ j n=>by
  rw [k];by_cases h:j<l.length
  ·rw [fk h];exact zax _ (b.2.2 j h)
  obtain rfl:j=l.length:=by omega
  rw [gv (by simp)]
  simp⟩
 have a:=awl (l++[x]) (l.length+1) (by simp; omega) (puE es c x.1 l.length) (c+1) l.length (by omega) e;have d:=auo l (by omega) i es c x b.1 hx;have f:=ai7 (l++[x]) (l.length+1) (puE es c x.1 l.length) (c+1);have g:IntKind.i64.wrap ((l.length:Int)+1-1)=l.length:=by rw [a7 (by omega)]; omega
 push_cast [ym,qI,qO,d8,ifW,zW,zae,zad]
 refine b9 (as':=[.ptr 1000000 0 0,ifW x]) rfl ?_;refine a6 d rfl (by simp [qO,d8,d7]) ?_
 push_cast [qI,qO,d8,zW]
 refine b9 (as':=[.ptr 1000000 0 0]) rfl ?_;refine a6 f rfl (by simp [qO,d8,d7]) ?_
 push_cast [qI,qO,d8,zW,Int.natCast_add,Int.natCast_one,g]
 refine b9 (as':=[qI,int .i64 l.length]) rfl ?_;refine a6 a rfl (by simp [qO,d8,d7]) ?_
 push_cast [qI,qO,d8,zW]
def poL (l:List Wt) (n:Nat):List Wt:=dnW (swW l 0 n) n 0
def poE (l:List Wt) (es:List MapEntry) (c n:Nat):List MapEntry:=y8 (dnE (swW l 0 n) (swE l es c 0 n) c n 0) (.int .u64 (gW (poL l n) n).1)
theorem aqd:∀{es:List MapEntry} {c m:Nat},n<=m->Nam l m es c->Nam (dnW l n i) m (dnE l es c n i) c/\kb (dnE l es c n i)=kb es:=by
 induction l,i using dnW.induct (n:=n) with
 | case1 l i h=>
   intro es c m b a;rw [dnW,dnE,dif_pos h,dif_pos h];exact ⟨a,rfl⟩
 | case2 l i h ih=>
   intro es c m b a;rw [dnW,dnE,dif_neg h,dif_neg h];rw [not_or] at h;obtain ⟨_,c2,j,_⟩:=ph (l:=l) (show 2*i+1<n by omega);obtain ⟨d,e⟩:=a.sw (i:=i) (k:=chW l n i) (by omega) (by omega);obtain ⟨g,f⟩:=ih b d;exact ⟨g,f.trans e⟩
theorem awn:∀{es:List MapEntry} {c m:Nat},j<m->Nam l m es c->Nam (upW l j) m (upE l es c j) c/\kb (upE l es c j)=kb es:=by
 induction l,j using upW.induct with
 | case1 l j h=>
   intro es c m b a;rw [upW,upE,dif_pos h,dif_pos h];exact ⟨a,rfl⟩
 | case2 l j h ih=>
   intro es c m b a;rw [upW,upE,dif_neg h,dif_neg h];obtain ⟨d,e⟩:=a.sw (i:=(j-1)/2) (k:=j) (by omega) b;obtain ⟨g,f⟩:=ih (by omega) d;exact ⟨g,f.trans e⟩
theorem ax8 (l:List Wt) (n:Nat) (j:l.length<=1000000) (es:List MapEntry) (c:Nat) (a:Nam l (n+1) es c) :
 a9 P0 62 [qI] (qO l (n+1) es c) (ifW (gW (poL l n) n)) (qO (poL l n) n (poE l es c n) c):=by
 refine agl rfl (by simp [qO]) ?_;have h:=a.2.1;have d:=ai7 l (n+1) es c;have e:=ag9 l (n+1) h es c 0 n (by omega) (by omega) a.1 a.2.2;obtain ⟨g,p⟩:=a.sw (i:=0) (k:=n) (by omega) (by omega);have f:=a0q (swW l 0 n) (n+1) n (by omega) (by rw [v4]; exact j) (swE l es c 0 n) c 0 (by omega) g;obtain ⟨o,q⟩:=aqd (i:=0) (n:=n) (by omega) g;have b:=aw2 (poL l n) n (by unfold poL; rw [aa1,v4]; exact h) (by unfold poL; rw [aa1,v4]; exact j) (dnE (swW l 0 n) (swE l es c 0 n) c n 0) c o.1;have m:IntKind.i64.wrap ((n:Int)+1-1)=n:=by rw [a7 (by omega)]; omega
 push_cast [aek,qI,qO,d8,zW,zae,zad]
 refine b9 (as':=[.ptr 1000000 0 0]) rfl ?_;refine a6 d rfl (by simp [qO,d8,d7]) ?_
 push_cast [qI,qO,d8,zW,Int.natCast_add,Int.natCast_one,m]
 refine b9 (as':=[.ptr 1000000 0 0,int .i64 (0:Nat),int .i64 n]) rfl ?_;refine a6 e rfl (by simp [qO,d8,d7]) ?_
 push_cast [qI,qO,d8,zW]
 refine b9 (as':=[qI,int .i64 (0:Nat),int .i64 n]) rfl ?_;refine a6 f rfl (by simp [qO,d8,d7]) ?_
 push_cast [qI,qO,d8,zW]
 refine b9 (as':=[.ptr 1000000 0 0]) rfl ?_;refine a6 b rfl (by simp [qO,d8,d7]) ?_
 push_cast [qI,qO,d8,zW,ifW]
 rfl

def acv:Mk P0 f35:={ x:=_ }
def ki:Mk P0 f36:={ x:=_ }
theorem om:pb 36 2 ki:=fm func36
def lv:Mk P0 f59:={ x:=_ }
theorem pf:pb 59 3 lv:=fm func59
def ez:Mk P0 f37:={ x:=_ }
theorem gn:pb 37 1 ez:=fm func37
def du:Mk P0 f61:={ x:=_ }
theorem oo:pb 61 1 du:=fm func61
def qN (es:List MapEntry) (c:Nat):List Ob:=[.box [.ptr 1000001 0 0],.box [.nils 2 zW,.mp 1000002 0],.map es c]
def qS (l:List Wt) (n:Nat) (es:List MapEntry) (c:Nat):List Ob:=[.box [.ptr 1000001 0 0],.box [.own 1000002 0 0 n,.mp 1000003 0],d8 l,.map es c]
theorem ape:a9 P0 35 [] [] (.ptr 1000000 0 0) (qN [] 0):=by
 refine acv.t func35 ?_
 push_cast [acv,qN,zW,zad]
theorem aus (es:List MapEntry) (c:Nat) (k w:Int) (b:ea es c) (hx:k∉es.map kI) :
 a9 P0 59 [.ptr 1000000 0 0,int .u64 k,int .i64 w] (qN es c) (bl false) (qN es c):=by
 refine pf rfl (by simp [qN]) ?_;have a:=qt 0 b.1 hx;have f:∀n,bg false (.int .u64 n)=true:=λ _=>rfl;have e:okK es (.int .u64 k)=true:=by simp [okK,a]
 have d:lkB es (.int .u64 k)=false:=by simp [lkB,a]
 push_cast [lv,qN,zW,f,e,d,zae,zad]
theorem aw6 (l:List Wt) (n:Nat) (es:List MapEntry) (c:Nat) (k w:Int) (b:ea es c) (hx:k∉es.map kI) :
 a9 P0 59 [.ptr 1000000 0 0,int .u64 k,int .i64 w] (qS l n es c) (bl false) (qS l n es c):=by
 refine pf rfl (by simp [qS]) ?_;have a:=qt 0 b.1 hx;have f:∀n,bg false (.int .u64 n)=true:=λ _=>rfl;have e:okK es (.int .u64 k)=true:=by simp [okK,a]
 have d:lkB es (.int .u64 k)=false:=by simp [lkB,a]
 push_cast [lv,qS,d8,zW,f,e,d,zae,zad]
theorem ari (es:List MapEntry) (c:Nat):a9 P0 61 [.ptr 1000000 0 0] (qN es c) (.tup [.r zW,bl false]) (qN es c):=by
 refine oo rfl (by simp [qN]) ?_
 push_cast [du,qN,zW,zae,zad]
theorem alk (l:List Wt) (n:Nat) (b:n<=l.length) (es:List MapEntry) (c:Nat):a9 P0 61 [.ptr 1000000 0 0] (qS l n es c) (if n=0 then .tup [.r zW,bl false] else .tup [.r (wR (gW l 0)),bl true]) (qS l n es c):=by
 refine oo rfl (by simp [qS]) ?_;by_cases h:n=0
 ·have e:((n:Int) == 0)=true:=by simp [h]
  rw [if_pos h]
  push_cast [du,qS,d8,zW,e,zae,zad]
 have e:((n:Int) == 0)=false:=by simp [h]
 have a:=λ z=>ww (l:=l) (i:=0) (by omega) z;rw [if_neg h]
 push_cast [du,qS,d8,zW,wR,e,a,Int.toNat_zero,zaa,zag,zae,zad,zab,zac,zaa]
 omega
theorem arh (es:List MapEntry) (c:Nat) (x:Wt) (d:ea es c) (hx:x.1∉es.map kI) :
 a9 P0 36 [.ptr 1000000 0 0,.r (wR x)] (qN es c) (.tup []) [.box [.ptr 1000001 0 0],.box [.own 1000003 0 0 1,.mp 1000002 0],.map (puE es c x.1 0) (c+1),d8 [x]]:=by
 refine om rfl (by simp [qN]) ?_;have a:=aus es c x.1 x.2 d hx;have b:=ar6 es c x d hx
 push_cast [ki,qN,wR,zW,zae,zad]
 refine b9 (as':=[.ptr 1000000 0 0,int .u64 x.1,int .i64 x.2]) rfl ?_;refine a6 a rfl (by simp [qN,d7]) ?_
 push_cast [qN,d8,zW]
 refine v7 (as':=[qI,ifW x]) rfl ?_;refine g7 b rfl (by simp [d7]) ?_
 push_cast [qI,d8,zW]
 kernel_rfl
theorem aut (l:List Wt) (f:l.length<1000000) (e:l≠[]) (es:List MapEntry) (c:Nat) (x:Wt) (d:Nam l l.length es c) (hx:x.1∉es.map kI) :
 a9 P0 36 [.ptr 1000000 0 0,.r (wR x)] (qS l l.length es c) (.tup []) (qS (upW (l++[x]) l.length) (l.length+1) (upE (l++[x]) (puE es c x.1 l.length) (c+1) l.length) (c+1)):=by
 refine om rfl (by simp [qS]) ?_;have a:=aw6 l l.length es c x.1 x.2 d.1 hx;have b:=ave l f e es c x d hx
 push_cast [ki,qS,d8,wR,zW,zae,zad]
 refine b9 (as':=[.ptr 1000000 0 0,int .u64 x.1,int .i64 x.2]) rfl ?_;refine a6 a rfl (by simp [qS,d8,d7]) ?_
 push_cast [qS,d8,zW]
 refine v7 (as':=[qI,ifW x]) rfl ?_;refine g7 b rfl (by simp [qO,d8,d7]) ?_
 push_cast [qI,qO,qS,d8,zW]
 kernel_rfl
theorem alj (es:List MapEntry) (c:Nat):a9 P0 37 [.ptr 1000000 0 0] (qN es c) (.tup [.r zW,bl false]) (qN es c):=by
 refine gn rfl (by simp [qN]) ?_;have a:=ari es c
 push_cast [ez,qN,zW,zae,zad]
 refine b9 (as':=[.ptr 1000000 0 0]) rfl ?_;refine a6 a rfl (by simp [qN,d7]) ?_
 push_cast [qN,zW]
theorem ali (l:List Wt) (es:List MapEntry) (c:Nat):a9 P0 37 [.ptr 1000000 0 0] (qS l 0 es c) (.tup [.r zW,bl false]) (qS l 0 es c):=by
 refine gn rfl (by simp [qS]) ?_;have a:=alk l 0 (by omega) es c;rw [if_pos rfl] at a
 push_cast [ez,qS,d8,zW,zae,zad]
 refine b9 (as':=[.ptr 1000000 0 0]) rfl ?_;refine a6 a rfl (by simp [qS,d8,d7]) ?_
 push_cast [qS,d8,zW]
theorem aw7 (l:List Wt) (n:Nat) (e:l.length<=1000000) (es:List MapEntry) (c:Nat) (b:Nam l (n+1) es c) :
 a9 P0 37 [.ptr 1000000 0 0] (qS l (n+1) es c) (.tup [.r (wR (gW l 0)),bl true]) (qS (poL l n) n (poE l es c n) c):=by
 refine gn rfl (by simp [qS]) ?_;have d:=alk l (n+1) b.2.1 es c;rw [if_neg (by omega)] at d;have a:=ax8 l n e es c b
 push_cast [ez,qS,d8,zW,zae,zad]
 refine b9 (as':=[.ptr 1000000 0 0]) rfl ?_;refine a6 d rfl (by simp [qS,d8,d7]) ?_
 push_cast [qS,d8,zW,wR]
 refine b9 (as':=[qI]) rfl ?_;refine a6 a rfl (by simp [qO,d8,d7]) ?_
 push_cast [qO,qS,d8,zW,ifW,wR]

structure QI (l:List Wt) (es:List MapEntry) (c:Nat):Prop where
 hp:Hp l l.length
 nm:Nam l l.length es c
 pm:(es.map kI).Perm (l.map (·.1))
theorem QI.nil:QI [] [] 0:=⟨λ j c a=>by simp at a,⟨⟨by simp,by simp,by simp⟩,by simp,λ j b=>by simp at b⟩,by simp⟩
def puW (l:List Wt) (x:Wt):List Wt:=upW (l++[x]) l.length
def puS (l:List Wt) (es:List MapEntry) (c:Nat) (x:Wt):List MapEntry:=upE (l++[x]) (puE es c x.1 l.length) (c+1) l.length
variable {x:Wt}
theorem QI.put {es:List MapEntry} {c:Nat} (h:QI l es c) (hx:x.1∉l.map (·.1)):QI (puW l x) (puS l es c x) (c+1)/\(puW l x).Perm (l++[x])/\(puW l x).length=l.length+1/\x.1∉es.map kI:=by
 have a:x.1∉es.map kI:=λ q=>hx (h.pm.subset q);obtain ⟨n,p,o,i,e⟩:=acw h.nm.1 a l.length;obtain ⟨g,p2⟩:=aja h.hp x;have b:(puW l x).length=l.length+1:=by unfold puW; rw [ak7]; simp
 have d:Nam (l++[x]) (l.length+1) (puE es c x.1 l.length) (c+1):=⟨i,by simp,λ j m=>by
  rw [e];by_cases q:j<l.length
  ·rw [fk q];exact zax _ (h.nm.2.2 j q)
  obtain rfl:j=l.length:=by omega
  rw [gv (by simp)]
  simp⟩
 obtain ⟨k,f⟩:=awn (j:=l.length) (by omega) d;refine ⟨⟨by rw [b]; exact g,by rw [b]; exact k,?_⟩,p2,b,a⟩;show ((upE (l++[x]) (puE es c x.1 l.length) (c+1) l.length).map kI).Perm _;rw [ad2 f,e];refine (h.pm.append_right _).trans ?_;have:=(p2.map (·.1)).symm;rw [zas] at this;exact this
theorem au8 {es:List MapEntry} {c:Nat} (h:ea es c) (k:Int):ea (y8 es (.int .u64 k)) c/\∀x∈es.map kI,x≠k->x∈(y8 es (.int .u64 k)).map kI:=by
 by_cases g:k∈es.map kI
 ·obtain ⟨j,v,e,l,m,n,o⟩:=abj 0 h.1 g;rw [zaa] at l;have f:y8 es (.int .u64 k)=es.eraseIdx j:=by simp [y8,l]
  rw [f];have b:(es.eraseIdx j).Sublist es:=List.eraseIdx_sublist es j;refine ⟨⟨λ y hy=>h.1 y (b.subset hy),h.2.1.sublist (b.map _),λ y hy=>h.2.2 y (b.subset hy)⟩,λ x hx d=>?_⟩;obtain ⟨y,hy,rfl⟩:=zaf.1 hx;refine zaf.2 ⟨y,?_,rfl⟩;obtain ⟨i,a⟩:=zam hy;refine List.mem_eraseIdx_iff_getElem?.2 ⟨i,λ q=>?_,a⟩;subst q;rw [m] at a;cases a;apply d;have:=h.1 e hy;rw [n] at this
  injection this with _ q
  exact q.symm
 have f:y8 es (.int .u64 k)=es:=by simp [y8,qt 0 h.1 g]
 rw [f];exact ⟨h,λ x hx _=>hx⟩
structure QP (xs:List Wt) (n:Nat) (es:List MapEntry) (c:Nat):Prop where
 hp:Hp xs n
 nm:Nam xs n es c
 nd:((xs.take n).map (·.1)).Nodup
theorem avo:∀{l:List Wt},n<=l.length->dnW (l++t) n i=dnW l n i++t:=by
 intro l
 induction l,i using dnW.induct (n:=n) with
 | case1 l i h=>
   intro c
   have e:n<=2*i+1\/lsW (gW (l++t) (chW (l++t) n i)) (gW (l++t) i)=false:=by
    rcases h with h | h
    ·exact .inl h
    by_cases q:n<=2*i+1
    ·exact .inl q
    obtain ⟨_,c2,f,_⟩:=ph (l:=l) (show 2*i+1<n by omega);rw [amj c (by omega),fk (by omega),fk (by omega)];exact .inr h
   have a:dnW (l++t) n i=l++t:=by rw [dnW,dif_pos e]
   have b:dnW l n i=l:=by rw [dnW,dif_pos h]
   rw [a,b]
 | case2 l i h ih=>
   intro c;have d:=h;rw [not_or] at h;obtain ⟨_,c2,f,_⟩:=ph (l:=l) (show 2*i+1<n by omega);have hc:=amj (t:=t) c (show 2*i+1<n by omega)
   have e:¬(n<=2*i+1\/lsW (gW (l++t) (chW (l++t) n i)) (gW (l++t) i)=false):=by
    rw [hc,fk (by omega),fk (by omega)];exact d
   have a:dnW (l++t) n i=dnW (swW (l++t) i (chW (l++t) n i)) n (chW (l++t) n i):=by rw [dnW,dif_neg e]
   have b:dnW l n i=dnW (swW l i (chW l n i)) n (chW l n i):=by rw [dnW,dif_neg d]
   rw [a,b,hc,alb (by omega) (by omega),ih (by rw [v4]; exact c)]
theorem QP.pop {xs:List Wt} {es:List MapEntry} {c:Nat} (h:QP xs (n+1) es c) :
 QP (poL xs n) n (poE xs es c n) c/\(poL xs n).take n=gy (xs.take (n+1))/\gW xs 0=gW (xs.take (n+1)) 0/\(poL xs n).length=xs.length:=by
 obtain ⟨B,u,C⟩:=h;have w:=u.2.1;have f:(xs.take (n+1)).length=n+1:=by rw [List.length_take]; omega
 have e:xs=xs.take (n+1)++xs.drop (n+1):=(List.take_append_drop _ _).symm
 have r:poL xs n=poL (xs.take (n+1)) n++xs.drop (n+1):=by
  unfold poL
  conv=>lhs; rw [e]
  rw [alb (by omega) (by omega),avo (by rw [v4]; omega)]
 have E:(poL (xs.take (n+1)) n).length=n+1:=by unfold poL; rw [aa1,v4,f]
 have p:Hp (xs.take (n+1)) (xs.take (n+1)).length:=by rw [f]; exact B.take w
 have m:gy (xs.take (n+1))=(poL (xs.take (n+1)) n).take n:=by unfold gy poL; rw [f,zap]
 have b:(poL xs n).take n=gy (xs.take (n+1)):=by
  rw [r,m,List.take_append_of_le_length (by omega)]
 have a:(poL xs n).length=xs.length:=by unfold poL; rw [aa1,v4]
 obtain ⟨x,p2,D,H⟩:=als (l:=xs.take (n+1)) (λ q=>by rw [q] at f; simp at f) p;obtain ⟨A,G⟩:=u.sw (i:=0) (k:=n) (by omega) (by omega);obtain ⟨v,F⟩:=aqd (i:=0) (n:=n) (by omega) A;obtain ⟨y,m2⟩:=au8 v.1 (gW (poL xs n) n).1
 have d:gW (poL xs n) n=gW (xs.take (n+1)) 0:=by
  unfold poL;rw [aqc (by rw [v4]; omega) (zai _),za (by omega) (by omega),if_pos rfl]
  conv=>lhs; rw [e]
  rw [fk (by omega)]
 have s:∀j,j<n->gW (poL xs n) j=gW (gy (xs.take (n+1))) j:=λ j o=>by
  rw [<- b];unfold gW;rw [zah,zah,List.getElem?_take,if_pos o]
 have g:((gW (xs.take (n+1)) 0::gy (xs.take (n+1))).map (·.1)).Nodup:=(D.map (·.1)).nodup_iff.1 C;rw [List.map_cons,List.nodup_cons] at g;refine ⟨⟨?_,⟨y,by rw [a]; omega,λ j o=>m2 _ ?_ ?_⟩,by rw [b]; exact g.2⟩,b,?_,a⟩
 ·intro j z t;rw [s j t,s _ (by omega)];have:=x;rw [f,zap] at this;exact this j z t
 ·have:=v.2.2 j (by omega);exact this
 ·rw [s j o,d];intro q;refine g.1 (zaf.2 ⟨gW (gy (xs.take (n+1))) j,?_,q⟩);rw [gv (by rw [p2,f]; omega)];exact List.getElem_mem _
 conv=>lhs; rw [e]
 rw [fk (by omega)]

def li:Mk P0 f19:={ x:=_ }
theorem pd:pb 19 3 li:=fm func19
section
variable {L:List Pt} {es:List MapEntry} {c:Nat} {ns:List (List Ky)} {ce:Nat->List MapEntry} {cc:Nat->Nat}
def cg (L:List Pt) (r:Nat):List Wt:=(o6 L r).map λ n=>(n,((cnt L r n.toNat:Nat):Int))
def ct (W:List Wt) (i:Nat):List Wt:=(W.take i).foldl puW []
theorem agm {W:List Wt} (h:W[i]?=some x):ct W (i+1)=puW (ct W i) x:=by
 unfold ct;rw [List.take_add_one,h];simp
theorem a0b {W:List Wt} (c:(W.map (·.1)).Nodup) (h:W[i]?=some x) (b:l.Perm (W.take i)):x.1∉l.map (·.1)/\(l++[x]).Perm (W.take (i+1)):=by
 have d:=(List.getElem?_eq_some_iff.1 h).1;have e:W.take (i+1)=W.take i++[x]:=by rw [List.take_add_one,h]; rfl
 refine ⟨λ q=>?_,by rw [e]; exact b.append_right _⟩;have a:((W.take (i+1)).map (·.1)).Nodup:=c.sublist ((List.take_sublist _ _).map _);rw [e,zas,zaq] at a;have:=a.2.2 x.1 ((b.map (·.1)).subset q) x.1 (by simp);exact this rfl
theorem ahw:∀(j:Nat) (l:List Wt),dw j l≠[]->v3 (j+1) l=v3 j l++[gW (dw j l) 0]/\dw (j+1) l=gy (dw j l)
 | 0,l,h=>by
   have b:l≠[]:=h;simp [v3,dw,b]
 | j+1,l,h=>by
   by_cases a:l=[]
   ·rw [a] at h;simp [dw] at h
   rw [dw,if_neg a] at h |-;obtain ⟨d,c⟩:=ahw j (gy l) h;rw [v3,if_neg a,d,v3,if_neg a];refine ⟨rfl,?_⟩;rw [dw,if_neg a,c]
theorem ahx:∀(j:Nat) (l:List Wt),dw j l=[]->∀k,j<=k->v3 k l=v3 j l
 | 0,l,h,k,_=>by
   have b:l=[]:=h;cases k<;>simp [v3,b]
 | j+1,l,h,k,hk=>by
   obtain ⟨k,rfl⟩:∃m,k=m+1:=⟨k-1,by omega⟩
   by_cases a:l=[]
   ·simp [v3,a]
   rw [dw,if_neg a] at h;rw [v3,v3,if_neg a,if_neg a,ahx j (gy l) h k (by omega)]
theorem auv (x:Wt):puW [] x=[x]/\puS [] [] 0 x=puE [] 0 x.1 0:=by
 constructor
 ·unfold puW;rw [upW,dif_pos (.inl rfl)]
  rfl
 unfold puS;rw [upE,dif_pos (.inl rfl)]
 rfl
def svS (ns:List (List Ky)) (w:Int):Sa:=if (ae0 ns w).n=0 then ⟨0,0,0,0,0⟩ else ae0 ns w
theorem asj (ns:List (List Ky)) (w:Int):∃b,ab1 (ae0 ns w)=.tup [.r (svS ns w).rv,bl b]:=by
 unfold ab1 svS;split<;>exact ⟨_,rfl⟩
def zS:RV:=Sa.rv ⟨0,0,0,0,0⟩
def abb (ns:List (List Ky)) (o:List Wt):Ob:=.row 5 zS true true (o.map λ x=>(svS ns x.1).rv)
theorem aog (h:StL L es c ns ce cc) (hl:L.length<50) (r:Nat) (hr:r<13) (K:Int) (hK:-1<=K/\K<=100) {res:AV} {Q:List Ob}
 (g:(v3 K.toNat (ct (cg L r) (o6 L r).length)=[]/\res=.nils 5 zS/\Q=c8 es c ns ce cc)\/(v3 K.toNat (ct (cg L r) (o6 L r).length)≠[]/\res=.own 1000016 0 0 (v3 K.toNat (ct (cg L r) (o6 L r).length)).length/\Q=c8 es c ns ce cc++[abb ns (v3 K.toNat (ct (cg L r) (o6 L r).length))])) :
 a9 P0 19 [.ptr 1000000 0 0,int .i64 r,int .i64 K] (c8 es c ns ce cc) res Q:=by
 refine pd rfl (by simp [c8]) ?_;have h8:=akf h hl r hr;obtain ⟨C,F⟩:∃C,o6 L r=C:=⟨_,rfl⟩
 rw [F] at h8 g
 push_cast [li,c8,zae,zad]
 refine a6 ape rfl trivial ?_
 push_cast [qN,zW]
 refine b9 (as':=[.ptr 1000000 0 0,int .i64 r]) rfl ?_;refine a6 h8 rfl (by simp [c8,d7]) ?_;have hf:=ab0 L r;rw [F] at hf;have M:=adm L r;rw [F] at M;obtain ⟨W,hW⟩:∃W,cg L r=W:=⟨_,rfl⟩
 rw [hW] at g;have ht:W.length=C.length:=by rw [<- hW,cg,zag,F]
 have h6:W.map (·.1)=C:=by rw [<- hW,cg,List.map_map,F]; simp [Function.comp_def]
 have hk:=h.cm r hr
 have h4:∀i,i<C.length->∃x:Wt,W[i]?=some x/\(lq C).getD i (.v (.int .u64 0))=.v (.int .u64 x.1)/\okK (ce r) (.int .u64 x.1)=true/\lkR (ce r) (.int .u64 x.1) (.v (.int .i64 0))=.v (.int .i64 x.2):=λ i hi=>by
  obtain ⟨w,hw⟩:∃w:Nat,C[i]=(w:Int):=by
   have hm:C[i]∈o6 L r:=by rw [F]; exact List.getElem_mem hi
   obtain ⟨p,_,e⟩:=agy.1 hm;exact ⟨_,e.symm⟩
  obtain ⟨g1,g2⟩:=agw hk w;refine ⟨((w:Int),((cnt L r w:Nat):Int)),?_,?_,g1,g2⟩
  ·rw [<- hW,cg,zao,F,zat hi,hw];simp
  rw [zah,lq,zao,zat hi,hw]
  rfl
 push_cast [c8,s8]
 obtain ⟨R,Z⟩:∃R:Int,(r:Int)=R:=⟨_,rfl⟩
 rcases (show r=0\/r=1\/r=2\/r=3\/r=4\/r=5\/r=6\/r=7\/r=8\/r=9\/r=10\/r=11\/r=12 by omega) with rfl | rfl | rfl | rfl | rfl | rfl | rfl | rfl | rfl | rfl | rfl | rfl | rfl<;>(
  refine d3 [(20,false),(19,false),(18,false),(7,false),(0,false),(1,false),(2,false)] (λ vs pos k=>∃(i:Nat) (l:List Wt) (t:List MapEntry) (o:Nat),i<=C.length/\QI l t o/\l=ct W i/\l.length=i/\l.Perm (W.take i)/\pos=c8 es c ns ce cc /\
   vs=[int .i64 i,int .i64 C.length,.own 2000000 0 0 C.length,.ptr 2000001 0 0,.ptr 1000000 0 0,int .i64 R,int .i64 K] /\
   (i=0/\t=[]/\o=0/\k=[s8 C,.box [.ptr 2000002 0 0],.box [.nils 2 zW,.mp 2000003 0],.map [] 0]\/i≠0/\k=[s8 C,.box [.ptr 2000002 0 0],.box [.own 2000003 0 0 i,.mp 2000004 0],d8 l,.map t o]))
   (λ vs _ _=>match vs with | .r (.v (.int _ a))::_=>(C.length-a).toNat | _=>0) rfl ?_ ?_
  ·push_cast [c8,s8,zW,<- Z]
   exact ⟨0,[],[],0,by omega,QI.nil,rfl,rfl,by simp,by simp⟩
  rintro vs pos k ⟨i,l,t,o,hi,X,z,s,h3,rfl,rfl,d⟩;by_cases ha:i<C.length
  ·have O:decide ((i:Int)<C.length)=true:=decide_eq_true (by omega);obtain ⟨x,hx,x1,x2,x3⟩:=h4 i ha;have wi:IntKind.i64.wrap ((i:Int)+1)=i+1:=a7 (by omega);obtain ⟨f1,f2⟩:=a0b (by rw [h6]; exact M) hx h3;obtain ⟨q1,q2,q3,q4⟩:=X.put f1;have J:=agm hx;rcases d with ⟨P,rfl,rfl,rfl⟩ | ⟨P,rfl⟩
   ·subst P;obtain rfl:l=[]:=zar.1 s;obtain ⟨n1,n2⟩:=auv x;rw [n1,n2] at q1;rw [n1] at q2;rw [<- z,n1] at J;have f:decide ((0:Int)<C.length)=true:=decide_eq_true (by omega)
    push_cast [c8,s8,zW,O,f,<- Z,x1,x2,x3,zab,zac,zaa]
    refine And.intro (by first | omega | exact ⟨by omega,by omega⟩) ?_;refine b9 (as':=[.ptr 1000000 0 0,.r (wR x)]) rfl ?_;refine a6 (arh [] 0 x X.nm.1 q4) rfl (by simp [qN,d7]) ?_;have w1:IntKind.i64.wrap 1=1:=rfl
    push_cast [d8,zW,wi,w1,<- Z]
    exact ⟨⟨1,[x],puE [] 0 x.1 0,1,by omega,q1,J.symm,rfl,q2.symm.trans f2,rfl,.inr ⟨by omega,rfl⟩⟩,by have:=ha; simp; omega⟩
   push_cast [c8,s8,d8,zW,O,<- Z,x1,x2,x3,zab,zac,zaa]
   refine And.intro (by first | omega | exact ⟨by omega,by omega⟩) ?_;have h5:l≠[]:=λ q=>P (by rw [<- s,q]; rfl);have Y:=aut l (by omega) h5 t o x X.nm q4;rw [s] at Y;refine b9 (as':=[.ptr 1000000 0 0,.r (wR x)]) rfl ?_;refine a6 Y rfl (by simp [qS,d8,d7]) ?_
   push_cast [qS,d8,zW,wi,<- Z]
   exact ⟨⟨i+1,puW l x,puS l t o x,o+1,by omega,q1,by rw [J,z],by omega,q2.trans f2,by simp,.inr ⟨by omega,by simp [puW,puS,s]⟩⟩,by omega⟩
  have he:i=C.length:=by omega
  subst he;have O:decide ((C.length:Int)<C.length)=false:=decide_eq_false (by omega);obtain ⟨H,hH⟩:∃H,ct W C.length=H:=⟨_,rfl⟩
  rw [hH] at z g;subst z;obtain ⟨T,hT⟩:∃T,v3 K.toNat l=T:=⟨_,rfl⟩
  rw [hT] at g;rcases d with ⟨P,rfl,rfl,rfl⟩ | ⟨P,rfl⟩
  ·obtain rfl:l=[]:=zar.1 (by omega);obtain rfl:T=[]:=by rw [<- hT]; cases K.toNat<;>simp [v3]
   obtain ⟨rfl,rfl⟩:res=.nils 5 zS/\Q=c8 es c ns ce cc:=by
    rcases g with ⟨_,V,S⟩ | ⟨q,_⟩
    ·exact ⟨V,S⟩
    exact absurd rfl q
   push_cast [c8,s8,zW,O,zS,Sa.rv]
   refine d3 [(10,false),(2,false),(7,false),(0,false)] (λ vs pos k=>vs=[.nils 5 zS,int .i64 K,.ptr 2000000 0 0,.ptr 1000000 0 0]/\pos=c8 es c ns ce cc/\k=[.box [.ptr 2000001 0 0],.box [.nils 2 zW,.mp 2000002 0],.map [] 0])
    (λ _ _ _=>0) rfl ?_ ?_
   ·push_cast [c8,zW,zS,Sa.rv]
   rintro vs pos k ⟨rfl,rfl,rfl⟩
   push_cast [c8,zW,zS,Sa.rv]
   refine c7 (λ O=>?_) (λ O=>?_)
   ·push_cast [c8,zW,zS,Sa.rv]
    refine a6 (alj [] 0) rfl (by simp [qN,d7]) ?_
    push_cast [qN,zW,zS,Sa.rv]
   push_cast [c8,zW,zS,Sa.rv]
  have h5:l≠[]:=λ q=>P (by rw [<- s,q]; rfl);have hh:(l.map (·.1)).Nodup:=(h3.map (·.1)).nodup_iff.2 (((by rw [h6]; exact M:(W.map (·.1)).Nodup)).sublist ((List.take_sublist _ _).map _));have ho:QP l C.length t o:=⟨by rw [<- s]; exact X.hp,by rw [<- s]; exact X.nm,by rw [<- s,List.take_length]; exact hh⟩
  push_cast [c8,s8,d8,zW,O]
  refine d3 [(10,false),(2,false),(7,false),(0,false)] (λ vs pos k=>∃(j n:Nat) (xs:List Wt) (t:List MapEntry) (o:Nat),QP xs n t o/\xs.length=l.length/\xs.take n=dw j l/\((j:Int)<=K\/j=0)/\(v3 j l).length=j/\pos=c8 es c ns ce cc /\
   (j=0/\vs=[.nils 5 zS,int .i64 K,.ptr 2000000 0 0,.ptr 1000000 0 0]/\k=[.box [.ptr 2000001 0 0],.box [.own 2000002 0 0 n,.mp 2000003 0],d8 xs,.map t o] \/
    j≠0/\vs=[.own 2000000 0 0 j,int .i64 K,.ptr 2000001 0 0,.ptr 1000000 0 0]/\k=[abb ns (v3 j l),.box [.ptr 2000002 0 0],.box [.own 2000003 0 0 n,.mp 2000004 0],d8 xs,.map t o]))
   (λ vs _ _=>match vs with | .own _ _ _ m::_=>(K-m).toNat | _=>K.toNat) rfl ?_ ?_
  ·push_cast [c8,d8,zW,zS,Sa.rv]
   exact ⟨0,C.length,l,t,o,ho,rfl,by rw [<- s,List.take_length]; rfl,by omega,rfl,by simp⟩
  rintro vs pos k ⟨j,n,xs,t,o,hP,hb,y,hq,I,rfl,d⟩;have hs:=hP.nm.2.1
  have D:T=v3 j l->j=0->res=.nils 5 zS/\Q=c8 es c ns ce cc:=λ q q0=>by
   have hg:T=[]:=zar.1 (by rw [q,I,q0]);rcases g with ⟨_,V,S⟩ | ⟨q',_⟩
   ·exact ⟨V,S⟩
   exact absurd hg q'
  have B:T=v3 j l->j≠0->res=.own 1000016 0 0 j/\Q=c8 es c ns ce cc++[abb ns (v3 j l)]:=λ q q0=>by
   have N:T.length=j:=by rw [q,I]
   rcases g with ⟨q',_⟩ | ⟨_,V,S⟩
   ·rw [q'] at N; exact absurd N.symm q0
   rw [N] at V;rw [q] at S;exact ⟨V,S⟩
  by_cases h9:(j:Int)<K
  ·have A:decide ((j:Int)<K)=true:=decide_eq_true h9;have f:j=0->decide (0<K)=true:=λ q=>decide_eq_true (by omega);by_cases hn:n=0
   ·subst hn;have G:=ahx j l (by rw [<- y]; rfl) K.toNat (by omega);rw [hT] at G;rcases d with ⟨b,rfl,rfl⟩ | ⟨b,rfl,rfl⟩
    ·have f:=f b
     push_cast [c8,d8,zW,zS,Sa.rv,f]
     refine a6 (ali xs t o) rfl (by simp [qS,d8,d7]) ?_;obtain ⟨rfl,rfl⟩:=D G b
     push_cast [qS,d8,zW,zS,Sa.rv,c8]
    push_cast [c8,d8,abb,zW,zS,Sa.rv,A]
    refine a6 (ali xs t o) rfl (by simp [qS,d8,d7]) ?_;obtain ⟨rfl,rfl⟩:=B G b
    push_cast [qS,d8,abb,zW,zS,Sa.rv,c8,zau,List.nil_append]
   obtain ⟨m,rfl⟩:∃m,n=m+1:=⟨n-1,by omega⟩
   obtain ⟨p1,p2,p3,p4⟩:=hP.pop;obtain ⟨U,s2⟩:=ahw j l (by rw [<- y]; exact λ q=>by have:=congrArg List.length q; rw [List.length_take,zad] at this; omega);rw [<- y,<- p3] at U;have E:=aw7 xs m (by omega) t o hP.nm;obtain ⟨x,hx⟩:∃x,gW xs 0=x:=⟨_,rfl⟩
   rw [hx] at U E;obtain ⟨bb,hj⟩:=asj ns x.1;have u:=amk h x.1;rw [hj] at u;rcases d with ⟨b,rfl,rfl⟩ | ⟨b,rfl,rfl⟩
   ·have f:=f b
    push_cast [c8,d8,zW,zS,Sa.rv,f]
    refine a6 E rfl (by simp [qS,d8,d7]) ?_
    push_cast [qS,d8,zW,wR]
    refine b9 (as':=[.ptr 1000000 0 0,int .u64 x.1]) rfl ?_;refine a6 u rfl (by simp [c8,d7]) ?_
    push_cast [c8,qS,d8,zW,wR,Sa.rv]
    repeat refine And.intro (by first | (simp; done) | omega | (have:=u9; omega) | exact ⟨by omega,by have:=u9; omega⟩) ?_
    subst b;exact ⟨⟨1,m,poL xs m,poE xs t o m,o,p1,by rw [p4]; exact hb,by rw [p2,y]; exact s2.symm,by omega,by rw [U]; rfl,.inr ⟨by omega,rfl,by rw [U]; rfl⟩⟩,by omega⟩
   push_cast [c8,d8,abb,zW,zS,Sa.rv,A]
   refine a6 E rfl (by simp [qS,d8,d7]) ?_
   push_cast [qS,d8,zW,wR]
   refine b9 (as':=[.ptr 1000000 0 0,int .u64 x.1]) rfl ?_;refine a6 u rfl (by simp [c8,d7]) ?_;have tk:=zaw (l:=(v3 j l).map λ x=>(svS ns x.1).rv) (i:=j) (by rw [zag]; omega);simp only [Sa.rv] at tk
   push_cast [c8,qS,d8,zW,wR,Sa.rv,tk]
   repeat refine And.intro (by first | (simp; done) | omega | (have:=u9; omega) | exact ⟨by omega,by have:=u9; omega⟩) ?_
   exact ⟨⟨j+1,m,poL xs m,poE xs t o m,o,p1,by rw [p4]; exact hb,by rw [p2,y]; exact s2.symm,by omega,by rw [U]; simp [I],.inr ⟨by omega,rfl,by rw [U]; simp⟩⟩,by omega⟩
  have A:decide ((j:Int)<K)=false:=decide_eq_false h9;have f:j=0->decide (0<K)=false:=λ q=>decide_eq_false (by omega);have h7:T=v3 j l:=by rw [<- hT,show K.toNat=j by omega]
  rcases d with ⟨b,rfl,rfl⟩ | ⟨b,rfl,rfl⟩
  ·have f:=f b;obtain ⟨rfl,rfl⟩:=D h7 b
   push_cast [c8,d8,zW,zS,Sa.rv,f]
  obtain ⟨rfl,rfl⟩:=B h7 b
  push_cast [c8,d8,abb,zW,zS,Sa.rv,A,zau,List.nil_append])
end

end
end Go.Ev

import Derived.Sort.AssemblyPlain
import Derived.WalkKit
import Derived.Test.YtpibfnekkfhkmaaGreatChecked
import Derived.KernelRfl
import Derived.Test.YtpibfnekkfhkmaaGreatM9
open Nat renaming reduceBEq → zB, reduceEqDiff → zE, reduceAdd → zA, reduceSub → zS, reduceLT → zL, reduceLeDiff → zD, reduceMul → zM
open Go.Proofs.Tryz renaming prog → P0
open Go.Proofs.Tryz
open Int renaming toNat_natCast → zaa, toNat_natCast_add_one → zac, toNat → zan, tdiv_eq_ediv_of_nonneg → zau
open Nat renaming zero_add → zab, le_refl → zah, pow_le_pow_right → zbc, mul_le_mul_right → zbj
open List renaming length_nil → zad, length_cons → zae, length_append → zai, take → zaj, getElem?_eq_some_iff → zak, mem_map → zam, map → zao, drop → zap, length_map → zaq, take_length → zar, length_drop → zas, mem_append → zat, getElem?_of_mem → zav, take_of_length_le → zaw, mem_cons → zax, getElem?_append_left → zay, length → zaz, append_assoc → zba, mem_of_getElem? → zbd, length_take → zbe, getElem?_eq_none → zbf, length_singleton → zbg, pairwise_iff_getElem → zbh, drop_eq_getElem_cons → zbi, flatMap_append → zbk
open BitVec renaming ofInt → zaf, toNat_ofInt → zbb
open UInt8 renaming ofNat → zal
namespace Go.Ev
set_option maxHeartbeats 8000000
set_option maxRecDepth 100000
noncomputable section
open Go
set_option linter.unusedSectionVars false
set_option linter.unnecessarySimpa false
open Go.Sort (swp insInner insOuter insertionSort ltInt)
set_option linter.unusedVariables false
def adc:Mk P0 f241:={ x:=_ }
def afl:Mk P0 f210:={ x:=_ }
def ju:Mk P0 f208:={ x:=_ }
def am:Mk P0 f204:={ x:=_ }
def bu (d:Array Int):List AV:=d.toList.map λ n=>AV.r (.v (.int .u64 n))
def bc (d:Array Int) (m:Nat):List AV:=bu d++List.replicate m .undef
def bO (d:Array Int) (m:Nat):Ob:=.box (bc d m)
theorem anw:∀(a:List AV),(∀x∈a,br x=[])->o6 a=[]
 | [],_=>rfl
 | x::a,h=>by rw [o6,h x (by simp),anw a λ y hy=>h y (by simp [hy])]; rfl
theorem b6 (d:Array Int) (m:Nat):o6 (bc d m)=[]:=anw _ λ x hx=>by
 rcases zat.1 hx with hx | hx
 ·obtain ⟨n,_,rfl⟩:=zam.1 hx
  rfl
 rw [(List.mem_replicate.1 hx).2]; rfl
theorem b8 (F:Ren) (d:Array Int) (m:Nat):imL F (bc d m)=bc d m:=vt F _ (b6 d m)
theorem aok (d:Array Int):(bu d).length=d.size:=by simp [bu]
theorem c9 (d:Array Int) (m:Nat):(bc d m).length=d.size+m:=by simp [bc,aok]
variable {d:Array Int} {m i:Nat}
theorem d6 (h:i<d.size) (z:AV):(bc d m).getD i z=.r (.v (.int .u64 d[i]!)):=by
 unfold bc;rw [List.getD_eq_getElem?_getD,zay (by rw [aok]; exact h)];simp [bu,h]
theorem x8 (h:i<d.size) (x:Int):zaj i (bc d m)++[AV.r (.v (.int .u64 x))]++zap (i+1) (bc d m)=bc (d.setIfInBounds i x) m:=by
 unfold bc;have e:bu (d.setIfInBounds i x)=(bu d).set i (.r (.v (.int .u64 x))):=by simp [bu,List.map_set]
 rw [e,List.take_append_of_le_length (by rw [aok]; omega),List.drop_append_of_le_length (by rw [aok]; omega),List.set_eq_take_append_cons_drop,if_pos (by rw [aok]; exact h)];simp
theorem ba (d:Array Int) (i j:Nat):(swp d i j).size=d.size:=by simp [swp]
theorem bm1 (x:Int):a8 P0 241 [int .u64 x] [] (bl false) []:=by
 refine adc.t func241 ?_;have h:(x != x)=false:=by simp
 push_cast [adc,h,zad]
theorem ab6 (x y:Int):a8 P0 210 [int .u64 x,int .u64 y] [] (bl (ltInt x y)) []:=by
 refine afl.t func210 ?_
 push_cast [afl,zad]
 refine a6 (bm1 x) rfl trivial ?_
 push_cast
 rfl
theorem bnh (d:Array Int) (a b:Nat) (B:a<=b) (G:b<=d.size) (F:d.size<=100000) (m:Nat):a8 P0 204 [.own 1000000 0 0 d.size,int .i64 a,int .i64 b] [bO d m] (.tup []) [bO (insertionSort ltInt d a b) m]:=by
 refine am.t func204 ?_;have C:IntKind.i64.wrap ((a:Int)+1)=(a:Int)+1:=a5 (by omega)
 push_cast [am,bO,c9,b6,b8,C,zae,zad]
 generalize hN:d.size=n at *
 refine b9 [(6,false),(0,false),(1,false),(2,false)] (λ vs pos c=>∃(i:Nat) (e:Array Int),a+1<=i/\i<=100002/\e.size=n/\insertionSort ltInt d a b=insOuter ltInt a b i e/\vs=[int .i64 i,.own 1000000 0 0 n,int .i64 a,int .i64 b]/\pos=[bO e m]/\c=[])
  (λ vs _ _=>match vs with | .r (.v (.int _ j))::_=>(b-j).toNat | _=>0) rfl ?_ ?_
 ·push_cast [bO,c9,b6,b8]
  exact ⟨a+1,d,by omega,by omega,hN,rfl,rfl,rfl⟩
 rintro vs pos c ⟨i,e,hi,A,D,u,rfl,rfl,rfl⟩
 push_cast [bO,c9,b6,b8]
 refine b7 (λ h=>?_) (λ h=>?_)
 ·have q:i<b:=by
   simp at h;omega
  have y:IntKind.i64.wrap ((i:Int)+1)=(i:Int)+1:=a5 (by omega)
  push_cast
  refine b9 [(6,false),(7,false),(0,false),(1,false),(2,false)] (λ vs pos c=>∃(j:Nat) (f:Array Int),j<=i/\f.size=n/\insInner ltInt a i e=insInner ltInt a j f/\vs=[int .i64 i,int .i64 j,.own 1000000 0 0 n,int .i64 a,int .i64 b]/\pos=[bO f m]/\c=[])
   (λ vs _ _=>match vs with | _ :: .r (.v (.int _ j))::_=>j.toNat | _=>0) rfl ?_ ?_
  ·push_cast [bO,c9,b6,b8]
   exact ⟨i,e,by omega,D,rfl,rfl,rfl⟩
  rintro vs pos c ⟨j,f,E,w,s,rfl,rfl,rfl⟩;by_cases z:j<=a
  ·have g:decide ((j:Int)>a)=false:=by simp; omega
   push_cast [bO,c9,b6,b8,g,y]
   repeat refine sI ?_
   refine ⟨⟨i+1,f,by omega,by omega,w,?_,(by first | rfl | exact ⟨rfl,rfl⟩ | exact ⟨rfl,rfl,rfl⟩)⟩,by omega⟩;rw [u,insOuter,if_pos q,s];congr 1;cases j with
   | zero=>rfl
   | succ k=>rw [insInner,if_neg (by simp; omega)]
  obtain ⟨k,rfl⟩:∃k,j=k+1:=⟨j-1,by omega⟩
  have g:decide ((k:Int)+1>a)=true:=by simp; omega
  have p:IntKind.i64.wrap ((k:Int)+1-1)=(k:Int):=by rw [a5 (by omega)]; omega
  have o:k<f.size:=by omega
  have l:k+1<f.size:=by omega
  push_cast [bO,c9,b6,b8,g,p,d6 (m:=m) o,d6 (m:=m) l,zaa,zac,zab]
  repeat refine sI ?_
  refine d5 (ab6 f[k+1]! f[k]!) rfl trivial ?_
  push_cast [bO,c9,b6,b8,g,p,d6 (m:=m) o,d6 (m:=m) l,zaa,zac,zab]
  refine ⟨by kernel_rfl,?_⟩;refine b7 (λ hc=>?_) (λ hc=>?_)
  ·have x:k<(f.setIfInBounds (k+1) f[k]!).size:=by simpa using o
   push_cast [bO,c9,b6,b8,g,p,d6 (m:=m) o,d6 (m:=m) l,d6 (m:=m) x,x8 (m:=m) l,x8 (m:=m) x,zaa,zac,zab]
   repeat refine sI ?_
   refine ⟨⟨k,swp f (k+1) k,by omega,by rw [ba]; exact w,?_,(by first | rfl | exact ⟨rfl,rfl⟩ | exact ⟨rfl,rfl,rfl⟩)⟩,by omega⟩;rw [s,insInner,if_pos];simp [hc];omega
  push_cast [bO,c9,b6,b8,g,p,y,d6 (m:=m) o,d6 (m:=m) l,zaa,zac,zab]
  refine ⟨⟨i+1,f,by omega,by omega,w,?_,(by first | rfl | exact ⟨rfl,rfl⟩ | exact ⟨rfl,rfl,rfl⟩)⟩,by omega⟩;rw [u,insOuter,if_pos q,s,insInner,if_neg];simp [hc]
 have q:¬i<b:=by
  simp at h;omega
 push_cast [b6,b8]
 rw [u,insOuter,if_neg q]

open Go.Sort (swp ltInt reverseLoop reverseRange siftDown heapSort heapBuild heapPop)
def mb:Mk P0 f236:={ x:=_ }
def mc:Mk P0 f205:={ x:=_ }
theorem bmq (d:Array Int) (a b:Nat) (y:a<=b) (x:1<=b) (D:b<=d.size) (C:d.size<=100000) (m:Nat):a8 P0 208 [.own 1000000 0 0 d.size,int .i64 a,int .i64 b] [bO d m] (.tup []) [bO (reverseRange d a b) m]:=by
 refine ju.t func208 ?_;have u:IntKind.i64.wrap ((b:Int)-1)=((b-1:Nat):Int):=by rw [a5 (by omega)]; omega
 obtain ⟨g,c⟩:∃g,b-1=g:=⟨_,rfl⟩
 rw [c] at u
 push_cast [ju,bO,c9,b6,b8,u,zae,zad]
 generalize hN:d.size=n at *
 refine b9 [(6,false),(7,false),(0,false)] (λ vs pos f=>∃(i j:Nat) (e:Array Int),j<n/\i<=j+1/\e.size=n/\reverseRange d a b=reverseLoop i j e/\vs=[int .i64 i,int .i64 j,.own 1000000 0 0 n]/\pos=[bO e m]/\f=[])
  (λ vs _ _=>match vs with | .r (.v (.int _ i)) :: .r (.v (.int _ j))::_=>(j-i).toNat | _=>0) rfl ?_ ?_
 ·push_cast [bO,c9,b6,b8]
  exact ⟨a,g,d,by omega,by omega,hN,by rw [reverseRange,c],(by first | rfl | exact ⟨rfl,rfl⟩ | exact ⟨rfl,rfl,rfl⟩)⟩
 rintro vs pos f ⟨i,j,e,B,hi,A,s,rfl,rfl,rfl⟩
 push_cast [bO,c9,b6,b8]
 refine b7 (λ h=>?_) (λ h=>?_)
 ·have l:i<j:=by
   simp at h;omega
  obtain ⟨k,rfl⟩:∃k,j=k+1:=⟨j-1,by omega⟩
  have z:IntKind.i64.wrap ((i:Int)+1)=(i:Int)+1:=a5 (by omega);have w:IntKind.i64.wrap ((k:Int)+1-1)=(k:Int):=by rw [a5 (by omega)]; omega
  have q:i<e.size:=by omega
  have o:k+1<e.size:=by omega
  have p:k+1<(e.setIfInBounds i e[k+1]!).size:=by simpa using o
  push_cast [bO,c9,b6,b8,z,w,d6 (m:=m) q,d6 (m:=m) o,d6 (m:=m) p,x8 (m:=m) q,x8 (m:=m) p,zaa,zac,zab]
  repeat refine sI ?_
  refine ⟨⟨i+1,k,swp e i (k+1),by omega,by omega,by rw [ba]; exact A,?_,(by first | rfl | exact ⟨rfl,rfl⟩ | exact ⟨rfl,rfl,rfl⟩)⟩,by omega⟩;rw [s,reverseLoop,if_pos l]
  rfl
 have l:¬i<j:=by
  simp at h;omega
 push_cast [b6,b8,c9]
 rw [s,reverseLoop,if_neg l]
theorem to (hi first:Nat):∀(k a:Nat) (d:Array Int),hi-a<=k->(siftDown ltInt hi first a d).size=d.size:=by
 intro k
 induction k with
 | zero=>
   intro a d b;rw [siftDown];rw [dif_pos (by omega)]
 | succ k ih=>
   intro a d b;rw [siftDown];split
   ·rfl
   split
   ·split
    ·rfl
    split
    ·rw [ih _ _ (by omega),ba]
    rfl
   split
   ·rfl
   rw [ih _ _ (by omega),ba]
theorem a59 (d:Array Int) (lo hi first:Nat) (H:first+hi<=d.size) (A:lo<=100000) (G:d.size<=100000) (m:Nat):a8 P0 236 [.own 1000000 0 0 d.size,int .i64 lo,int .i64 hi,int .i64 first] [bO d m] (.tup []) [bO (siftDown ltInt hi first lo d) m]:=by
 refine mb.t func236 ?_
 push_cast [mb,bO,c9,b6,b8,zae,zad]
 generalize hN:d.size=n at *
 refine b9 [(8,false),(0,false),(2,false),(3,false)] (λ vs pos C=>∃(r:Nat) (e:Array Int),r<=100000/\e.size=n/\siftDown ltInt hi first lo d=siftDown ltInt hi first r e/\vs=[int .i64 r,.own 1000000 0 0 n,int .i64 hi,int .i64 first]/\pos=[bO e m]/\C=[])
  (λ vs _ _=>match vs with | .r (.v (.int _ i))::_=>(hi-i).toNat | _=>0) rfl ?_ ?_
 ·push_cast [bO,c9,b6,b8]
  exact ⟨lo,d,A,hN,rfl,(by first | rfl | exact ⟨rfl,rfl⟩ | exact ⟨rfl,rfl,rfl⟩)⟩
 rintro vs pos C ⟨r,e,I,E,B,rfl,rfl,rfl⟩;obtain ⟨c,hc⟩:∃c,2*r+1=c:=⟨_,rfl⟩
 have l:IntKind.i64.wrap (2*(r:Int))=2*(r:Int):=a5 (by omega);have k:IntKind.i64.wrap (2*(r:Int)+1)=(c:Int):=by rw [a5 (by omega)]; omega
 push_cast [bO,c9,b6,b8,l,k]
 refine b7 (λ h=>?_) (λ h=>?_)
 ·have F:c>=hi:=by
   simp at h;omega
  push_cast [b6,b8,c9]
  rw [B,siftDown,dif_pos (by omega)]
 have F:¬c>=hi:=by
  simp at h;omega
 have s:IntKind.i64.wrap ((c:Int)+1)=(c:Int)+1:=a5 (by omega);obtain ⟨x,hx⟩:∃x,first+c=x:=⟨_,rfl⟩
 obtain ⟨y,hy⟩:∃y,first+r=y:=⟨_,rfl⟩
 have u:IntKind.i64.wrap ((first:Int)+c)=(x:Int):=by rw [a5 (by omega)]; omega
 have p:IntKind.i64.wrap ((first:Int)+r)=(y:Int):=by rw [a5 (by omega)]; omega
 have w:IntKind.i64.wrap ((x:Int)+1)=(x:Int)+1:=a5 (by omega);have kx:x<e.size:=by omega
 have ky:y<e.size:=by omega
 have g:∀q,siftDown ltInt hi first r e=q↔(if c+1<hi&&ltInt e[x]! e[x+1]! then
  if !ltInt e[y]! e[x+1]! then e else siftDown ltInt hi first (c+1) (swp e y (x+1)) else
  if !ltInt e[y]! e[x]! then e else siftDown ltInt hi first c (swp e y x))=q:=λ q=>by
  rw [siftDown,dif_neg (by omega),hc,hx,hy,show 2*r+2=c+1 by omega,show first+(c+1)=x+1 by omega];by_cases f:(c+1<hi&&ltInt e[x]! e[x+1]!)=true
  ·have:c+1<hi:=by simp at f; exact f.1
   rw [if_pos f,if_pos f,dif_pos this]
  rw [if_neg f,if_neg f]
 by_cases z:c+1<hi
 ·have j:decide ((c:Int)+1<hi)=true:=by simp; omega
  have b:x+1<e.size:=by omega
  push_cast [bO,c9,b6,b8,l,k,s,u,p,w,j,d6 (m:=m) kx,d6 (m:=m) ky,d6 (m:=m) b,zaa,zac,zab]
  repeat refine sI ?_
  refine d5 (ab6 e[x]! e[x+1]!) rfl trivial ?_
  push_cast [bO,c9,b6,b8,l,k,s,u,p,w,j,d6 (m:=m) kx,d6 (m:=m) ky,d6 (m:=m) b,zaa,zac,zab]
  repeat refine sI ?_
  refine b7 (λ A=>?_) (λ A=>?_)
  ·have D:IntKind.i64.wrap ((first:Int)+(c+1))=(x:Int)+1:=by rw [a5 (by omega)]; omega
   push_cast [bO,c9,b6,b8,l,k,s,u,p,w,D,j,d6 (m:=m) kx,d6 (m:=m) ky,d6 (m:=m) b,zaa,zac,zab]
   repeat refine sI ?_
   refine d5 (ab6 e[y]! e[x+1]!) rfl trivial ?_
   push_cast [bO,c9,b6,b8,l,k,s,u,p,w,D,j,d6 (m:=m) kx,d6 (m:=m) ky,d6 (m:=m) b,zaa,zac,zab]
   repeat refine sI ?_
   refine b7 (λ o=>?_) (λ o=>?_)
   ·push_cast [bO,c9,b6,b8]
    rw [B,(g _).2 rfl,if_pos (by simp [z,A]),if_pos o]
   have a:x+1<(e.setIfInBounds y e[x+1]!).size:=by simpa using b
   push_cast [bO,c9,b6,b8,l,k,s,u,p,w,D,j,d6 (m:=m) kx,d6 (m:=m) ky,d6 (m:=m) b,d6 (m:=m) a,x8 (m:=m) ky,x8 (m:=m) a,zaa,zac,zab]
   repeat refine sI ?_
   refine ⟨⟨c+1,swp e y (x+1),by omega,by rw [ba]; exact E,?_,(by first | rfl | exact ⟨rfl,rfl⟩ | exact ⟨rfl,rfl,rfl⟩)⟩,by omega⟩;rw [B,(g _).2 rfl,if_pos (by simp [z,A]),if_neg (by simp [o])]
  push_cast [bO,c9,b6,b8,l,k,s,u,p,w,j,d6 (m:=m) kx,d6 (m:=m) ky,d6 (m:=m) b,zaa,zac,zab]
  repeat refine sI ?_
  refine d5 (ab6 e[y]! e[x]!) rfl trivial ?_
  push_cast [bO,c9,b6,b8,l,k,s,u,p,w,j,d6 (m:=m) kx,d6 (m:=m) ky,zaa,zac,zab]
  repeat refine sI ?_
  refine b7 (λ o=>?_) (λ o=>?_)
  ·push_cast [bO,c9,b6,b8]
   rw [B,(g _).2 rfl,if_neg (by simp [A]),if_pos o]
  have a:x<(e.setIfInBounds y e[x]!).size:=by simpa using kx
  push_cast [bO,c9,b6,b8,l,k,s,u,p,w,j,d6 (m:=m) kx,d6 (m:=m) ky,d6 (m:=m) a,x8 (m:=m) ky,x8 (m:=m) a,zaa,zac,zab]
  repeat refine sI ?_
  refine ⟨⟨c,swp e y x,by omega,by rw [ba]; exact E,?_,(by first | rfl | exact ⟨rfl,rfl⟩ | exact ⟨rfl,rfl,rfl⟩)⟩,by omega⟩;rw [B,(g _).2 rfl,if_neg (by simp [A]),if_neg (by simp [o])]
 have j:decide ((c:Int)+1<hi)=false:=by simp; omega
 push_cast [bO,c9,b6,b8,l,k,s,u,p,w,j,d6 (m:=m) kx,d6 (m:=m) ky,zaa,zac,zab]
 repeat refine sI ?_
 refine d5 (ab6 e[y]! e[x]!) rfl trivial ?_
 push_cast [bO,c9,b6,b8,l,k,s,u,p,w,j,d6 (m:=m) kx,d6 (m:=m) ky,zaa,zac,zab]
 repeat refine sI ?_
 refine b7 (λ o=>?_) (λ o=>?_)
 ·push_cast [bO,c9,b6,b8]
  rw [B,(g _).2 rfl,if_neg (by simp [z]),if_pos o]
 have a:x<(e.setIfInBounds y e[x]!).size:=by simpa using kx
 push_cast [bO,c9,b6,b8,l,k,s,u,p,w,j,d6 (m:=m) kx,d6 (m:=m) ky,d6 (m:=m) a,x8 (m:=m) ky,x8 (m:=m) a,zaa,zac,zab]
 repeat refine sI ?_
 refine ⟨⟨c,swp e y x,by omega,by rw [ba]; exact E,?_,(by first | rfl | exact ⟨rfl,rfl⟩ | exact ⟨rfl,rfl,rfl⟩)⟩,by omega⟩;rw [B,(g _).2 rfl,if_neg (by simp [z]),if_neg (by simp [o])]
theorem akl (hi first:Nat):∀(k:Nat) (d:Array Int),(heapBuild ltInt hi first k d).size=d.size
 | 0,d=>rfl
 | k+1,d=>by rw [heapBuild,akl hi first k,to hi first (hi-k) k d (zah _)]
theorem bk0 (d:Array Int) (a b:Nat) (K:a<b) (N:b<=d.size) (M:d.size<=100000) (m:Nat):a8 P0 205 [.own 1000000 0 0 d.size,int .i64 a,int .i64 b] [bO d m] (.tup []) [bO (heapSort ltInt d a b) m]:=by
 refine mc.t func205 ?_;obtain ⟨hi,A⟩:∃hi,b-a=hi:=⟨_,rfl⟩
 have G:IntKind.i64.wrap ((b:Int)-a)=(hi:Int):=by rw [a5 (by omega)]; omega
 obtain ⟨f,w⟩:∃k,(hi-1)/2=k:=⟨_,rfl⟩
 have E:IntKind.i64.wrap ((hi:Int)-1)=((hi-1:Nat):Int):=by rw [a5 (by omega)]; omega
 obtain ⟨u,D⟩:∃u,hi-1=u:=⟨_,rfl⟩
 rw [D] at E;have I:(u:Int).tdiv 2=(f:Int):=by rw [zau (by omega)]; omega
 have y:IntKind.i64.wrap (f:Int)=(f:Int):=a5 (by omega);generalize hN:d.size=n at *
 push_cast [mc,bO,c9,b6,b8,G,E,I,y,zae,zad]
 repeat refine sI ?_
 have B:heapSort ltInt d a b=heapPop ltInt a hi (heapBuild ltInt hi a (f+1) d):=by rw [heapSort,A,w]
 have C:(heapBuild ltInt hi a (f+1) d).size=n:=by rw [akl]; exact hN
 generalize hH:heapBuild ltInt hi a (f+1) d=H at *
 refine b9 [(9,false),(0,false),(6,false),(7,false),(8,false)] (λ vs pos c=>∃(k:Nat) (e:Array Int),k<=f+1/\e.size=n/\H=heapBuild ltInt hi a k e/\vs=[int .i64 ((k:Int)-1),.own 1000000 0 0 n,int .i64 a,int .i64 0,int .i64 hi]/\pos=[bO e m]/\c=[])
  (λ vs _ _=>match vs with | .r (.v (.int _ i))::_=>(i+1).toNat | _=>0) rfl ?_ ?_
 ·push_cast [bO,c9,b6,b8]
  refine ⟨f+1,d,by omega,hN,hH.symm,?_⟩;have:((f+1:Nat):Int)-1=f:=by omega
  rw [this]
  first | rfl | exact ⟨rfl,rfl⟩ | exact ⟨rfl,rfl,rfl⟩
 rintro vs pos c ⟨k,e,L,p,o,rfl,rfl,rfl⟩
 push_cast [bO,c9,b6,b8]
 refine b7 (λ h=>?_) (λ h=>?_)
 ·obtain ⟨q,rfl⟩:∃q,k=q+1:=⟨k-1,by simp at h; omega⟩
  have s:((q:Int)+1-1)=(q:Int):=by omega
  have g:IntKind.i64.wrap ((q:Int)-1)=(q:Int)-1:=a5 (by omega)
  push_cast [bO,c9,b6,b8,s]
  have j:=a59 e q hi a (by omega) (by omega) (by omega) m;rw [p] at j;refine a6 j rfl ⟨by simp [c9,to _ _ _ _ _ (zah _)],trivial⟩ ?_
  push_cast [bO,c9,b6,b8,s,g]
  refine ⟨⟨q,siftDown ltInt hi a q e,by omega,by rw [to _ _ _ _ _ (zah _)]; exact p,o,(by first | rfl | exact ⟨rfl,rfl⟩ | exact ⟨rfl,rfl,rfl⟩)⟩,by omega⟩
 obtain rfl:k=0:=by simp at h; omega
 have z:H=e:=o;subst z
 push_cast [bO,c9,b6,b8,G,E]
 refine b9 [(10,false),(0,false),(6,false),(7,false)] (λ vs pos c=>∃(k:Nat) (e:Array Int),k<=hi/\e.size=n/\heapPop ltInt a hi H=heapPop ltInt a k e/\vs=[int .i64 ((k:Int)-1),.own 1000000 0 0 n,int .i64 a,int .i64 0]/\pos=[bO e m]/\c=[])
  (λ vs _ _=>match vs with | .r (.v (.int _ i))::_=>(i+1).toNat | _=>0) rfl ?_ ?_
 ·push_cast [bO,c9,b6,b8]
  refine ⟨hi,H,by omega,C,rfl,?_⟩;have:((hi:Nat):Int)-1=u:=by omega
  rw [this]
  first | rfl | exact ⟨rfl,rfl⟩ | exact ⟨rfl,rfl,rfl⟩
 rintro vs pos c ⟨k,e,L,p,o,rfl,rfl,rfl⟩
 push_cast [bO,c9,b6,b8]
 refine b7 (λ h=>?_) (λ h=>?_)
 ·obtain ⟨q,rfl⟩:∃q,k=q+1:=⟨k-1,by simp at h; omega⟩
  have s:((q:Int)+1-1)=(q:Int):=by omega
  have g:IntKind.i64.wrap ((q:Int)-1)=(q:Int)-1:=a5 (by omega);obtain ⟨x,hx⟩:∃x,a+q=x:=⟨_,rfl⟩
  have J:IntKind.i64.wrap ((a:Int)+q)=(x:Int):=by rw [a5 (by omega)]; omega
  have F:a<e.size:=by omega
  have kx:x<e.size:=by omega
  have l:x<(e.setIfInBounds a e[x]!).size:=by simpa using kx
  push_cast [bO,c9,b6,b8,s,J,d6 (m:=m) F,d6 (m:=m) kx,d6 (m:=m) l,x8 (m:=m) F,x8 (m:=m) l,zaa,zac,zab]
  repeat refine sI ?_
  have j:=a59 (swp e a x) 0 q a (by rw [ba]; omega) (by omega) (by rw [ba]; omega) m;rw [ba,p] at j;refine a6 j rfl ⟨by simp [c9,ba,to _ _ _ _ _ (zah _)],trivial⟩ ?_
  push_cast [bO,c9,b6,b8,s,g]
  refine ⟨⟨q,siftDown ltInt q a 0 (swp e a x),by omega,by rw [to _ _ _ _ _ (zah _),ba]; exact p,?_,(by first | rfl | exact ⟨rfl,rfl⟩ | exact ⟨rfl,rfl,rfl⟩)⟩,by omega⟩;rw [o,heapPop,hx]
 obtain rfl:k=0:=by simp at h; omega
 push_cast [bO,c9,b6,b8]
 rw [B,o]
 rfl

open Go.Sort (swp ltInt order2 median medianAdjacent choosePivot Hint)
def nn:Mk P0 f248:={ x:=_ }
def nq:Mk P0 f240:={ x:=_ }
def jd:Mk P0 f239:={ x:=_ }
def jw:Mk P0 f207:={ x:=_ }
theorem aqy (d:Array Int) (a b sw:Nat) (e:a<d.size) (f:b<d.size) (i:d.size<=100000) (g:sw<=1000) (m:Nat) :
 a8 P0 248 [.own 1000000 0 0 d.size,int .i64 a,int .i64 b,.ptr 1000001 0 0] [bO d m,.box [int .i64 sw]]
  (.tup [int .i64 (order2 ltInt d a b sw).1,int .i64 (order2 ltInt d a b sw).2.1]) [bO d m,.box [int .i64 (order2 ltInt d a b sw).2.2]]:=by
 refine nn.t func248 ?_;have c:IntKind.i64.wrap ((sw:Int)+1)=(sw:Int)+1:=a5 (by omega)
 push_cast [nn,bO,c9,b6,b8,c,d6 (m:=m) e,d6 (m:=m) f,zae,zad,zaa,zac,zab]
 repeat refine sI ?_
 refine d5 (ab6 d[b]! d[a]!) rfl trivial ?_
 push_cast [bO,c9,b6,b8,c,d6 (m:=m) e,d6 (m:=m) f,zaa,zac,zab]
 repeat refine sI ?_
 refine b7 (λ h=>?_) (λ h=>?_)
 ·push_cast [bO,c9,b6,b8,order2,h,c,if_true]
 push_cast [bO,c9,b6,b8,order2,h,c,Bool.false_eq_true,if_false]
variable {sw:Nat}
theorem aa3 {a b:Nat}:(order2 ltInt d a b sw).2.2<=sw+1/\((order2 ltInt d a b sw).1=a/\(order2 ltInt d a b sw).2.1=b\/(order2 ltInt d a b sw).1=b/\(order2 ltInt d a b sw).2.1=a):=by
 unfold order2;split<;>simp
theorem aq4 (d:Array Int) (a b c sw:Nat) (w:a<d.size) (y:b<d.size) (hc:c<d.size) (i:d.size<=100000) (A:sw<=100) (m:Nat) :
 a8 P0 240 [.own 1000000 0 0 d.size,int .i64 a,int .i64 b,int .i64 c,.ptr 1000001 0 0] [bO d m,.box [int .i64 sw]]
  (int .i64 (median ltInt d a b c sw).1) [bO d m,.box [int .i64 (median ltInt d a b c sw).2]]:=by
 refine nq.t func240 ?_;have e:=aa3 (d:=d) (a:=a) (b:=b) (sw:=sw);have n:=aqy d a b sw w y i (by omega) m;unfold median;generalize order2 ltInt d a b sw=v at *;obtain ⟨x1,y1,j⟩:=v;simp only at e n |-;have p:=aa3 (d:=d) (a:=y1) (b:=c) (sw:=j);have l:=aqy d y1 c j (by rcases e.2 with h | h<;>omega) hc i (by omega) m;generalize order2 ltInt d y1 c j=s at *;obtain ⟨x2,y2,f⟩:=s;simp only at p l |-;have r:=aa3 (d:=d) (a:=x1) (b:=x2) (sw:=f);have q:=aqy d x1 x2 f (by rcases e.2 with h | h<;>omega) (by rcases e.2 with h | h<;>rcases p.2 with x | x<;>omega) i (by omega) m;generalize order2 ltInt d x1 x2 f=u at *;obtain ⟨x3,y3,z⟩:=u;simp only at r q |-
 have g:∀k o:Nat,ct [bO d m,.box [int .i64 k]] [bO d m,.box [int .i64 o]]:=λ k o=>⟨rfl,rfl,trivial⟩
 push_cast [nq,bO,c9,b6,b8,zae,zad]
 refine a6 n rfl (g _ _) ?_
 push_cast [bO,c9,b6,b8]
 refine a6 l rfl (g _ _) ?_
 push_cast [bO,c9,b6,b8]
 refine a6 q rfl (g _ _) ?_
 push_cast [bO,c9,b6,b8]
theorem a74 {a b c:Nat}:(median ltInt d a b c sw).2<=sw+3/\((median ltInt d a b c sw).1=a\/(median ltInt d a b c sw).1=b\/(median ltInt d a b c sw).1=c):=by
 have j:=aa3 (d:=d) (a:=a) (b:=b) (sw:=sw);unfold median;generalize order2 ltInt d a b sw=i at *;obtain ⟨x1,y1,f⟩:=i;simp only at j |-;have h:=aa3 (d:=d) (a:=y1) (b:=c) (sw:=f);generalize order2 ltInt d y1 c f=l at *;obtain ⟨x2,y2,e⟩:=l;simp only at h |-;have k:=aa3 (d:=d) (a:=x1) (b:=x2) (sw:=e);generalize order2 ltInt d x1 x2 e=g at *;obtain ⟨x3,y3,m⟩:=g;simp only at k |-;omega
theorem aq5 (d:Array Int) (a sw:Nat) (c:1<=a) (j:a+1<d.size) (f:d.size<=100000) (e:sw<=100) (m:Nat) :
 a8 P0 239 [.own 1000000 0 0 d.size,int .i64 a,.ptr 1000001 0 0] [bO d m,.box [int .i64 sw]]
  (int .i64 (medianAdjacent ltInt d a sw).1) [bO d m,.box [int .i64 (medianAdjacent ltInt d a sw).2]]:=by
 refine jd.t func239 ?_;obtain ⟨q,rfl⟩:∃q,a=q+1:=⟨a-1,by omega⟩
 have i:IntKind.i64.wrap ((q:Int)+1-1)=(q:Int):=by rw [a5 (by omega)]; omega
 have h:IntKind.i64.wrap ((q:Int)+1+1)=(q:Int)+1+1:=a5 (by omega);have t:=aq4 d q (q+1) (q+1+1) sw (by omega) (by omega) (by omega) f e m;have g:∀k b:Nat,ct [bO d m,.box [int .i64 k]] [bO d m,.box [int .i64 b]]:=λ k b=>⟨rfl,rfl,trivial⟩
 push_cast [jd,medianAdjacent,Nat.add_sub_cancel,bO,c9,b6,b8,i,h,zae,zad]
 refine b5 (as':=[.own 1000000 0 0 d.size,int .i64 q,int .i64 (q+1:Nat),int .i64 (q+1+1:Nat),.ptr 1000001 0 0]) rfl ?_;refine a6 t rfl (g _ _) ?_
 push_cast [bO,c9,b6,b8]

open Go.Sort (swp ltInt order2 median medianAdjacent choosePivot Hint)
def apd:Hint->Int
 | .unknown=>0
 | .increasing=>1
 | .decreasing=>2
theorem ano {a:Nat}:(medianAdjacent ltInt d a sw).2<=sw+3/\((medianAdjacent ltInt d a sw).1=a-1\/(medianAdjacent ltInt d a sw).1=a\/(medianAdjacent ltInt d a sw).1=a+1):=by
 unfold medianAdjacent;exact a74
theorem bgl (d:Array Int) (a b:Nat) (hl:12<b-a) (hb:b<=d.size) (w:d.size<=100000) (m:Nat) :
 a8 P0 207 [.own 1000000 0 0 d.size,int .i64 a,int .i64 b] [bO d m]
  (.tup [int .i64 (choosePivot ltInt d a b).1,int .i64 (apd (choosePivot ltInt d a b).2)]) [bO d m]:=by
 refine jw.t func207 ?_;have r:∀k O:Nat,ct [bO d m,.box [int .i64 k]] [bO d m,.box [int .i64 O]]:=λ k O=>⟨rfl,rfl,trivial⟩
 unfold choosePivot;obtain ⟨l,F⟩:∃l,b-a=l:=⟨_,rfl⟩
 obtain ⟨q,V⟩:∃q,l/4=q:=⟨_,rfl⟩
 obtain ⟨i,hi⟩:∃i,a+q*1=i:=⟨_,rfl⟩
 obtain ⟨j,R⟩:∃j,a+q*2=j:=⟨_,rfl⟩
 obtain ⟨k,hk⟩:∃k,a+q*3=k:=⟨_,rfl⟩
 have w0:IntKind.i64.wrap ((b:Int)-a)=(l:Int):=by rw [a5 (by omega)]; omega
 have w1:(l:Int).tdiv 4=(q:Int):=by rw [zau (by omega)]; omega
 have G:IntKind.i64.wrap (q:Int)=(q:Int):=a5 (by omega);have S:IntKind.i64.wrap ((q:Int)*1)=(q:Int)*1:=a5 (by omega);have w3:IntKind.i64.wrap ((q:Int)*2)=(q:Int)*2:=a5 (by omega);have w4:IntKind.i64.wrap ((q:Int)*3)=(q:Int)*3:=a5 (by omega);have X:IntKind.i64.wrap ((a:Int)+(q:Int)*1)=(i:Int):=by rw [a5 (by omega)]; omega
 have w6:IntKind.i64.wrap ((a:Int)+(q:Int)*2)=(j:Int):=by rw [a5 (by omega)]; omega
 have Y:IntKind.i64.wrap ((a:Int)+(q:Int)*3)=(k:Int):=by rw [a5 (by omega)]; omega
 have T:decide ((l:Int)>=8)=true:=by simp; omega
 simp only [F,V,hi,R,hk];rw [if_pos (show l>=8 by omega)]
 have x:∀(p s:Nat),int .i64 (apd (if s=0 then Hint.increasing else if s=12 then Hint.decreasing else Hint.unknown))=int .i64 (if s=0 then 1 else if s=12 then 2 else 0):=λ p s=>by
  split
  ·rfl
  split<;>rfl
 push_cast [jw,bO,c9,b6,b8,w0,w1,G,S,w3,w4,X,w6,Y,T,zae,zad]
 repeat refine sI ?_
 by_cases v:l>=50
 ·have c2:decide ((l:Int)>=50)=true:=by simp; omega
  rw [if_pos v]
  push_cast [c2,b6,b8]
  have N:=aq5 d i 0 (by omega) (by omega) w (by omega) m;have z:=ano (d:=d) (a:=i) (sw:=0);generalize medianAdjacent ltInt d i 0=Z at *;obtain ⟨K,y⟩:=Z;simp only at N z |-
  have I:K<d.size:=by
   have e:i+1<d.size:=by omega
   obtain ⟨_,h | h | h⟩:=z<;>rw [h]<;>omega
  have h0:y<=0+3:=z.1;clear z;refine a6 N rfl (r 0 _) ?_
  push_cast [bO,c9,b6,b8]
  have M:=aq5 d j y (by omega) (by omega) w (by omega) m;have A:=ano (d:=d) (a:=j) (sw:=y);generalize medianAdjacent ltInt d j y=U at *;obtain ⟨p2,o⟩:=U;simp only at M A |-
  have L:p2<d.size:=by
   have e:j+1<d.size:=by omega
   obtain ⟨_,h | h | h⟩:=A<;>rw [h]<;>omega
  have h1:o<=y+3:=A.1;clear A;refine a6 M rfl (r _ _) ?_
  push_cast [bO,c9,b6,b8]
  have P:=aq5 d k o (by omega) (by omega) w (by omega) m;have B:=ano (d:=d) (a:=k) (sw:=o);generalize medianAdjacent ltInt d k o=W at *;obtain ⟨J,C⟩:=W;simp only at P B |-
  have E:J<d.size:=by
   have e:k+1<d.size:=by omega
   obtain ⟨_,h | h | h⟩:=B<;>rw [h]<;>omega
  have Q:C<=o+3:=B.1;clear B;refine a6 P rfl (r _ _) ?_
  push_cast [bO,c9,b6,b8]
  have u:=aq4 d K p2 J C I L E w (by omega) m;generalize median ltInt d K p2 J C=H at *;obtain ⟨D,c⟩:=H;simp only at u |-;refine a6 u rfl (r _ _) ?_
  push_cast [bO,c9,b6,b8]
  rw [x D c];by_cases g:c=0
  ·have f:((c:Int) == 0)=true:=by simp [g]
   push_cast [f,if_pos g,b6,b8]
  have f:((c:Int) == 0)=false:=by simp; omega
  rw [if_neg g];by_cases e:c=12
  ·have n:((c:Int) == 12)=true:=by simp [e]
   push_cast [f,n,if_pos e,b6,b8]
  have n:((c:Int) == 12)=false:=by simp; omega
  push_cast [f,n,if_neg e,b6,b8]
 have c2:decide ((l:Int)>=50)=false:=by simp; omega
 rw [if_neg v]
 push_cast [c2,b6,b8]
 have u:=aq4 d i j k 0 (by omega) (by omega) (by omega) w (by omega) m;generalize median ltInt d i j k 0=H at *;obtain ⟨D,c⟩:=H;simp only at u |-;refine a6 u rfl (r 0 _) ?_
 push_cast [bO,c9,b6,b8]
 rw [x D c];by_cases g:c=0
 ·have f:((c:Int) == 0)=true:=by simp [g]
  push_cast [f,if_pos g,b6,b8]
 have f:((c:Int) == 0)=false:=by simp; omega
 rw [if_neg g];by_cases e:c=12
 ·have n:((c:Int) == 12)=true:=by simp [e]
  push_cast [f,n,if_pos e,b6,b8]
 have n:((c:Int) == 12)=false:=by simp; omega
 push_cast [f,n,if_neg e,b6,b8]

open Go.Sort (swp ltInt scanUp scanDown partEqLoop partitionEqual partLoop partition)
def jc:Mk P0 f211:={ x:=_ }
def lm:Mk P0 f212:={ x:=_ }
variable {j i2 j2:Nat}
theorem ane {a:Nat} {e:Array Int} (c:scanUp (λ x=>!ltInt e[a]! x) e j i=i2) (b:scanDown (λ x=>ltInt e[a]! x) e i2 j=j2) (g:i<=i2) (d:j2<=j) (f:1<=i) :
 partEqLoop ltInt a i j e=if i2>j2 then (i2,e) else partEqLoop ltInt a (i2+1) (j2-1) (swp e i2 j2):=by
 rw [partEqLoop];simp only [c,b];split
 ·rfl
 rw [dif_pos (by omega)]
theorem bbh (d:Array Int) (a b pv:Nat) (U:a<b) (hb:b<=d.size) (O:pv<d.size) (Z:d.size<=100000) (m:Nat) :
 a8 P0 211 [.own 1000000 0 0 d.size,int .i64 a,int .i64 b,int .i64 pv] [bO d m] (int .i64 (partitionEqual ltInt d a b pv).1) [bO (partitionEqual ltInt d a b pv).2 m]:=by
 refine jc.t func211 ?_;have N:a<d.size:=by omega
 have A:pv<(d.setIfInBounds a d[pv]!).size:=by simpa using O
 have W:IntKind.i64.wrap ((a:Int)+1)=(a:Int)+1:=a5 (by omega);obtain ⟨w,K⟩:∃w,b-1=w:=⟨_,rfl⟩
 have Q:IntKind.i64.wrap ((b:Int)-1)=(w:Int):=by rw [a5 (by omega)]; omega
 push_cast [jc,bO,c9,b6,b8,W,Q,d6 (m:=m) N,d6 (m:=m) O,d6 (m:=m) A,x8 (m:=m) N,x8 (m:=m) A,zae,zad,zaa,zac,zab]
 repeat refine sI ?_
 rw [show (d.setIfInBounds a d[pv]!).setIfInBounds pv d[a]! = swp d a pv from rfl];have V:partitionEqual ltInt d a b pv=partEqLoop ltInt a (a+1) w (swp d a pv):=by rw [partitionEqual,K]
 rw [V];have M:=ba d a pv;generalize hN:d.size=n at *;generalize P:partEqLoop ltInt a (a+1) w (swp d a pv)=R
 refine b9 [(9,false),(10,false),(0,false),(1,false)] (λ vs pos c=>∃(i j:Nat) (e:Array Int),1<=i/\i<=j+2/\j<n/\e.size=n/\R=partEqLoop ltInt a i j e/\vs=[int .i64 i,int .i64 j,.own 1000000 0 0 n,int .i64 a]/\pos=[bO e m]/\c=[])
  (λ vs _ _=>match vs with | .r (.v (.int _ i)) :: .r (.v (.int _ j))::_=>(j+1-i).toNat | _=>0) rfl ?_ ?_
 ·push_cast [bO,b6,b8]
  exact ⟨a+1,w,swp d a pv,by omega,by omega,by omega,M,P.symm,(by first | rfl | exact ⟨rfl,rfl⟩ | exact ⟨rfl,rfl,rfl⟩)⟩
 rintro vs pos c ⟨i,j,e,u,T,Y,X,L,rfl,rfl,rfl⟩;have q:a<e.size:=by omega
 push_cast [bO,b6,b8,c9]
 refine b9 [(9,false),(10,false),(0,false),(1,false)] (λ vs pos c=>∃F:Nat,i<=F/\F<=j+2/\scanUp (λ x=>!ltInt e[a]! x) e j i=scanUp (λ x=>!ltInt e[a]! x) e j F/\vs=[int .i64 F,int .i64 j,.own 1000000 0 0 n,int .i64 a]/\pos=[bO e m]/\c=[])
  (λ vs _ _=>match vs with | .r (.v (.int _ i))::_=>(j+1-i).toNat | _=>0) rfl ?_ ?_
 ·push_cast [bO,b6,b8]
  exact ⟨i,by omega,by omega,rfl,(by first | rfl | exact ⟨rfl,rfl⟩ | exact ⟨rfl,rfl,rfl⟩)⟩
 rintro vs pos c ⟨i2,I,h2,J,rfl,rfl,rfl⟩;have G:IntKind.i64.wrap ((i2:Int)+1)=(i2:Int)+1:=a5 (by omega);by_cases C:i2<=j
 ·have f:decide ((i2:Int)<=j)=true:=by simp; omega
  have h:i2<e.size:=by omega
  push_cast [bO,c9,b6,b8,f,G,d6 (m:=m) q,d6 (m:=m) h,zaa,zac,zab]
  repeat refine sI ?_
  refine d5 (ab6 e[a]! e[i2]!) rfl trivial ?_
  push_cast [bO,c9,b6,b8,f,G,d6 (m:=m) q,d6 (m:=m) h,zaa,zac,zab]
  repeat refine sI ?_
  refine b7 (λ hc=>?_) (λ hc=>?_)
  ·push_cast [bO,c9,b6,b8,f,G]
   refine ⟨⟨i2+1,by omega,by omega,?_,(by first | rfl | exact ⟨rfl,rfl⟩ | exact ⟨rfl,rfl,rfl⟩)⟩,by omega⟩;rw [J,scanUp,if_pos (by simp [C]; simpa using hc)]
  have o:scanUp (λ x=>!ltInt e[a]! x) e j i=i2:=by rw [J,scanUp,if_neg (by simp; intro _; simpa using hc)]
  push_cast [bO,c9,b6,b8]
  refine b9 [(9,false),(10,false),(0,false),(1,false)] (λ vs pos c=>∃p:Nat,p<=j/\i2<=p+2/\scanDown (λ x=>ltInt e[a]! x) e i2 j=scanDown (λ x=>ltInt e[a]! x) e i2 p/\vs=[int .i64 i2,int .i64 p,.own 1000000 0 0 n,int .i64 a]/\pos=[bO e m]/\c=[])
   (λ vs _ _=>match vs with | _ :: .r (.v (.int _ j))::_=>j.toNat | _=>0) rfl ?_ ?_
  ·push_cast [bO,b6,b8]
   exact ⟨j,by omega,by omega,rfl,(by first | rfl | exact ⟨rfl,rfl⟩ | exact ⟨rfl,rfl,rfl⟩)⟩
  rintro vs pos c ⟨j2,E,S,z,rfl,rfl,rfl⟩;by_cases l:i2<=j2
  ·obtain ⟨k,rfl⟩:∃k,j2=k+1:=⟨j2-1,by omega⟩
   have f:decide ((i2:Int)<=(k:Int)+1)=true:=by simp; omega
   have y:decide ((i2:Int)>(k:Int)+1)=false:=by simp; omega
   have D:IntKind.i64.wrap ((k:Int)+1-1)=(k:Int):=by rw [a5 (by omega)]; omega
   have H:k+1<e.size:=by omega
   have h:i2<e.size:=by omega
   push_cast [bO,c9,b6,b8,f,D,d6 (m:=m) q,d6 (m:=m) H,zaa,zac,zab]
   repeat refine sI ?_
   refine d5 (ab6 e[a]! e[k+1]!) rfl trivial ?_
   push_cast [bO,c9,b6,b8,f,D,d6 (m:=m) q,d6 (m:=m) H,zaa,zac,zab]
   repeat refine sI ?_
   refine b7 (λ hc=>?_) (λ hc=>?_)
   ·push_cast [bO,c9,b6,b8,f,D]
    refine ⟨⟨k,by omega,by omega,?_,(by first | rfl | exact ⟨rfl,rfl⟩ | exact ⟨rfl,rfl,rfl⟩)⟩,by omega⟩;rw [z,scanDown,if_pos (by simp [l,hc])]
   have g:scanDown (λ x=>ltInt e[a]! x) e i2 j=k+1:=by rw [z,scanDown,if_neg (by simp [hc])]
   have s:=ane o g I E u;rw [if_neg (by omega)] at s;have B:k+1<(e.setIfInBounds i2 e[k+1]!).size:=by simpa using H
   push_cast [bO,c9,b6,b8,y,D,G,d6 (m:=m) h,d6 (m:=m) H,d6 (m:=m) B,x8 (m:=m) h,x8 (m:=m) B,zaa,zac,zab]
   repeat refine sI ?_
   refine ⟨⟨i2+1,k,swp e i2 (k+1),by omega,by omega,by omega,by rw [ba]; exact X,by rw [L,s]; rfl,(by first | rfl | exact ⟨rfl,rfl⟩ | exact ⟨rfl,rfl,rfl⟩)⟩,by omega⟩
  have f:decide ((i2:Int)<=j2)=false:=by simp; omega
  have y:decide ((i2:Int)>j2)=true:=by simp; omega
  have g:scanDown (λ x=>ltInt e[a]! x) e i2 j=j2:=by
   rw [z];cases j2 with
   | zero=>rfl
   | succ k=>rw [scanDown,if_neg (by simp; omega)]
  have s:=ane o g I E u;rw [if_pos (by omega)] at s
  push_cast [bO,c9,b6,b8,f]
  repeat refine sI ?_
  try push_cast [bO,c9,b6,b8,y]
  rw [L,s]
  first | rfl | exact ⟨rfl,rfl⟩
 have f:decide ((i2:Int)<=j)=false:=by simp; omega
 have o:scanUp (λ x=>!ltInt e[a]! x) e j i=i2:=by rw [J,scanUp,if_neg (by simp; omega)]
 push_cast [bO,c9,b6,b8,f]
 repeat refine sI ?_
 refine b9 [(9,false),(10,false),(0,false),(1,false)] (λ vs pos c=>∃p:Nat,p<=j/\i2<=p+2/\scanDown (λ x=>ltInt e[a]! x) e i2 j=scanDown (λ x=>ltInt e[a]! x) e i2 p/\vs=[int .i64 i2,int .i64 p,.own 1000000 0 0 n,int .i64 a]/\pos=[bO e m]/\c=[])
  (λ vs _ _=>match vs with | _ :: .r (.v (.int _ j))::_=>j.toNat | _=>0) rfl ?_ ?_
 ·push_cast [bO,b6,b8]
  exact ⟨j,by omega,by omega,rfl,(by first | rfl | exact ⟨rfl,rfl⟩ | exact ⟨rfl,rfl,rfl⟩)⟩
 rintro vs pos c ⟨j2,E,S,z,rfl,rfl,rfl⟩;by_cases l:i2<=j2
 ·exact absurd l (by omega)
 have f:decide ((i2:Int)<=j2)=false:=by simp; omega
 have y:decide ((i2:Int)>j2)=true:=by simp; omega
 have g:scanDown (λ x=>ltInt e[a]! x) e i2 j=j2:=by
  rw [z];cases j2 with
  | zero=>rfl
  | succ k=>rw [scanDown,if_neg (by simp; omega)]
 have s:=ane o g I E u;rw [if_pos (by omega)] at s
 push_cast [bO,c9,b6,b8,f]
 repeat refine sI ?_
 try push_cast [bO,c9,b6,b8,y]
 rw [L,s]
 first | rfl | exact ⟨rfl,rfl⟩

open Go.Sort (swp ltInt scanUp scanDown partLoop partition)
theorem auk {a:Nat} {e:Array Int} (c:scanUp (λ x=>ltInt x e[a]!) e j i=i2) (b:scanDown (λ x=>!ltInt x e[a]!) e i2 j=j2) (g:i<=i2) (d:j2<=j) (f:1<=i) :
 partLoop ltInt a i j e=if i2>j2 then (j2,e) else partLoop ltInt a (i2+1) (j2-1) (swp e i2 j2):=by
 rw [partLoop];simp only [c,b];split
 ·rfl
 rw [dif_pos (by omega)]
theorem a7l (d:Array Int) (a b pv:Nat) (h0:a+1<b) (hb:b<=d.size) (X:pv<d.size) (hn:d.size<=100000) (m:Nat) :
 a8 P0 212 [.own 1000000 0 0 d.size,int .i64 a,int .i64 b,int .i64 pv] [bO d m] (.tup [int .i64 (partition ltInt d a b pv).1,bl (partition ltInt d a b pv).2.1]) [bO (partition ltInt d a b pv).2.2 m]:=by
 refine lm.t func212 ?_;have V:a<d.size:=by omega
 have M:pv<(d.setIfInBounds a d[pv]!).size:=by simpa using X
 have w1:IntKind.i64.wrap ((a:Int)+1)=(a:Int)+1:=a5 (by omega);obtain ⟨q,S⟩:∃q,b-1=q:=⟨_,rfl⟩
 have Y:IntKind.i64.wrap ((b:Int)-1)=(q:Int):=by rw [a5 (by omega)]; omega
 push_cast [lm,bO,c9,b6,b8,w1,Y,d6 (m:=m) V,d6 (m:=m) X,d6 (m:=m) M,x8 (m:=m) V,x8 (m:=m) M,zae,zad,zaa,zac,zab]
 repeat refine sI ?_
 rw [show (d.setIfInBounds a d[pv]!).setIfInBounds pv d[a]! = swp d a pv from rfl];have T:=ba d a pv;unfold partition;simp only [S];generalize hN:d.size=n at *;generalize swp d a pv=c at *;have g:a<c.size:=by omega
 refine b9 [(10,false),(11,false),(0,false),(1,false)] (λ vs pos f=>∃G:Nat,a+1<=G/\G<=q+2/\scanUp (λ x=>ltInt x c[a]!) c q (a+1)=scanUp (λ x=>ltInt x c[a]!) c q G/\vs=[int .i64 G,int .i64 q,.own 1000000 0 0 n,int .i64 a]/\pos=[bO c m]/\f=[])
  (λ vs _ _=>match vs with | .r (.v (.int _ i))::_=>((q:Int)+1-i).toNat | _=>0) rfl ?_ ?_
 ·push_cast [bO,b6,b8]
  exact ⟨a+1,by omega,by omega,rfl,(by first | rfl | exact ⟨rfl,rfl⟩ | exact ⟨rfl,rfl,rfl⟩)⟩
 rintro vs pos f ⟨i2,L,W,H,rfl,rfl,rfl⟩;have E:IntKind.i64.wrap ((i2:Int)+1)=(i2:Int)+1:=a5 (by omega);by_cases w:i2<=q
 ·have h:decide ((i2:Int)<=q)=true:=by simp; omega
  have p:i2<c.size:=by omega
  push_cast [bO,c9,b6,b8,h,E,d6 (m:=m) g,d6 (m:=m) p,zaa,zac,zab]
  repeat refine sI ?_
  refine d5 (ab6 c[i2]! c[a]!) rfl trivial ?_
  push_cast [bO,c9,b6,b8,h,E,d6 (m:=m) g,d6 (m:=m) p,zaa,zac,zab]
  repeat refine sI ?_
  refine b7 (λ hc=>?_) (λ hc=>?_)
  ·push_cast [bO,c9,b6,b8,h,E]
   refine ⟨⟨i2+1,by omega,by omega,?_,(by first | rfl | exact ⟨rfl,rfl⟩ | exact ⟨rfl,rfl,rfl⟩)⟩,by omega⟩;rw [H,scanUp,if_pos (by simp [w]; simpa using hc)]
  have s:scanUp (λ x=>ltInt x c[a]!) c q (a+1)=i2:=by rw [H,scanUp,if_neg (by simp; intro _; simpa using hc)]
  push_cast [bO,c9,b6,b8]
  refine b9 [(10,false),(11,false),(0,false),(1,false)] (λ vs pos f=>∃u:Nat,u<=q/\i2<=u+2/\scanDown (λ x=>!ltInt x c[a]!) c i2 q=scanDown (λ x=>!ltInt x c[a]!) c i2 u/\vs=[int .i64 i2,int .i64 u,.own 1000000 0 0 n,int .i64 a]/\pos=[bO c m]/\f=[])
   (λ vs _ _=>match vs with | _ :: .r (.v (.int _ j))::_=>j.toNat | _=>0) rfl ?_ ?_
  ·push_cast [bO,b6,b8]
   exact ⟨q,by omega,by omega,rfl,(by first | rfl | exact ⟨rfl,rfl⟩ | exact ⟨rfl,rfl,rfl⟩)⟩
  rintro vs pos f ⟨j2,J,Q,A,rfl,rfl,rfl⟩;by_cases l:i2<=j2
  ·obtain ⟨k,rfl⟩:∃k,j2=k+1:=⟨j2-1,by omega⟩
   have h:decide ((i2:Int)<=(k:Int)+1)=true:=by simp; omega
   have z:decide ((i2:Int)>(k:Int)+1)=false:=by simp; omega
   have D:IntKind.i64.wrap ((k:Int)+1-1)=(k:Int):=by rw [a5 (by omega)]; omega
   have F:k+1<c.size:=by omega
   have p:i2<c.size:=by omega
   push_cast [bO,c9,b6,b8,h,D,d6 (m:=m) g,d6 (m:=m) F,zaa,zac,zab]
   repeat refine sI ?_
   refine d5 (ab6 c[k+1]! c[a]!) rfl trivial ?_
   push_cast [bO,c9,b6,b8,h,D,d6 (m:=m) g,d6 (m:=m) F,zaa,zac,zab]
   repeat refine sI ?_
   refine b7 (λ hc=>?_) (λ hc=>?_)
   ·push_cast [bO,c9,b6,b8,h,D]
    refine ⟨⟨k,by omega,by omega,?_,(by first | rfl | exact ⟨rfl,rfl⟩ | exact ⟨rfl,rfl,rfl⟩)⟩,by omega⟩;rw [A,scanDown,if_pos (by simp [l]; simpa using hc)]
   have o:scanDown (λ x=>!ltInt x c[a]!) c i2 q=k+1:=by rw [A,scanDown,if_neg (by simp; intro _; simpa using hc)]
   have y:k+1<(c.setIfInBounds i2 c[k+1]!).size:=by simpa using F
   have U:¬i2>k+1:=by omega
   simp only [s,o,U,if_false,Nat.add_sub_cancel]
   push_cast [bO,c9,b6,b8,z,D,E,d6 (m:=m) p,d6 (m:=m) F,d6 (m:=m) y,x8 (m:=m) p,x8 (m:=m) y,zaa,zac,zab]
   repeat refine sI ?_
   rw [show (c.setIfInBounds i2 c[k+1]!).setIfInBounds (k+1) c[i2]! = swp c i2 (k+1) from rfl];obtain ⟨N,P⟩:∃N,partLoop ltInt a (i2+1) k (swp c i2 (k+1))=N:=⟨_,rfl⟩
   rw [P]
   refine b9 [(10,false),(11,false),(0,false),(1,false)] (λ vs pos f=>∃(i j:Nat) (e:Array Int),1<=i/\i<=j+2/\j<n/\e.size=n/\N=partLoop ltInt a i j e/\vs=[int .i64 i,int .i64 j,.own 1000000 0 0 n,int .i64 a]/\pos=[bO e m]/\f=[])
    (λ vs _ _=>match vs with | .r (.v (.int _ i)) :: .r (.v (.int _ j))::_=>(j+1-i).toNat | _=>0) rfl ?_ ?_
   ·push_cast [bO,b6,b8]
    exact ⟨i2+1,k,swp c i2 (k+1),by omega,by omega,by omega,by rw [ba]; exact T,P.symm,(by first | rfl | exact ⟨rfl,rfl⟩ | exact ⟨rfl,rfl,rfl⟩)⟩
   clear w l s o L W H h J Q z A hc F y p E D;rintro vs pos f ⟨i,j,e,K,Z,hj,he,O,rfl,rfl,rfl⟩;have g:a<e.size:=by omega
   push_cast [bO,b6,b8,c9]
   refine b9 [(10,false),(11,false),(0,false),(1,false)] (λ vs pos f=>∃G:Nat,i<=G/\G<=j+2/\scanUp (λ x=>ltInt x e[a]!) e j (i)=scanUp (λ x=>ltInt x e[a]!) e j G/\vs=[int .i64 G,int .i64 j,.own 1000000 0 0 n,int .i64 a]/\pos=[bO e m]/\f=[])
    (λ vs _ _=>match vs with | .r (.v (.int _ i))::_=>((j:Int)+1-i).toNat | _=>0) rfl ?_ ?_
   ·push_cast [bO,b6,b8]
    exact ⟨i,by omega,by omega,rfl,(by first | rfl | exact ⟨rfl,rfl⟩ | exact ⟨rfl,rfl,rfl⟩)⟩
   rintro vs pos f ⟨i2,L,W,H,rfl,rfl,rfl⟩;have E:IntKind.i64.wrap ((i2:Int)+1)=(i2:Int)+1:=a5 (by omega);by_cases w:i2<=j
   ·have h:decide ((i2:Int)<=j)=true:=by simp; omega
    have p:i2<e.size:=by omega
    push_cast [bO,c9,b6,b8,h,E,d6 (m:=m) g,d6 (m:=m) p,zaa,zac,zab]
    repeat refine sI ?_
    refine d5 (ab6 e[i2]! e[a]!) rfl trivial ?_
    push_cast [bO,c9,b6,b8,h,E,d6 (m:=m) g,d6 (m:=m) p,zaa,zac,zab]
    repeat refine sI ?_
    refine b7 (λ hc=>?_) (λ hc=>?_)
    ·push_cast [bO,c9,b6,b8,h,E]
     refine ⟨⟨i2+1,by omega,by omega,?_,(by first | rfl | exact ⟨rfl,rfl⟩ | exact ⟨rfl,rfl,rfl⟩)⟩,by omega⟩;rw [H,scanUp,if_pos (by simp [w]; simpa using hc)]
    have s:scanUp (λ x=>ltInt x e[a]!) e j (i)=i2:=by rw [H,scanUp,if_neg (by simp; intro _; simpa using hc)]
    push_cast [bO,c9,b6,b8]
    refine b9 [(10,false),(11,false),(0,false),(1,false)] (λ vs pos f=>∃u:Nat,u<=j/\i2<=u+2/\scanDown (λ x=>!ltInt x e[a]!) e i2 j=scanDown (λ x=>!ltInt x e[a]!) e i2 u/\vs=[int .i64 i2,int .i64 u,.own 1000000 0 0 n,int .i64 a]/\pos=[bO e m]/\f=[])
     (λ vs _ _=>match vs with | _ :: .r (.v (.int _ j))::_=>j.toNat | _=>0) rfl ?_ ?_
    ·push_cast [bO,b6,b8]
     exact ⟨j,by omega,by omega,rfl,(by first | rfl | exact ⟨rfl,rfl⟩ | exact ⟨rfl,rfl,rfl⟩)⟩
    rintro vs pos f ⟨j2,J,Q,A,rfl,rfl,rfl⟩;by_cases l:i2<=j2
    ·obtain ⟨k,rfl⟩:∃k,j2=k+1:=⟨j2-1,by omega⟩
     have h:decide ((i2:Int)<=(k:Int)+1)=true:=by simp; omega
     have z:decide ((i2:Int)>(k:Int)+1)=false:=by simp; omega
     have D:IntKind.i64.wrap ((k:Int)+1-1)=(k:Int):=by rw [a5 (by omega)]; omega
     have F:k+1<e.size:=by omega
     have p:i2<e.size:=by omega
     push_cast [bO,c9,b6,b8,h,D,d6 (m:=m) g,d6 (m:=m) F,zaa,zac,zab]
     repeat refine sI ?_
     refine d5 (ab6 e[k+1]! e[a]!) rfl trivial ?_
     push_cast [bO,c9,b6,b8,h,D,d6 (m:=m) g,d6 (m:=m) F,zaa,zac,zab]
     repeat refine sI ?_
     refine b7 (λ hc=>?_) (λ hc=>?_)
     ·push_cast [bO,c9,b6,b8,h,D]
      refine ⟨⟨k,by omega,by omega,?_,(by first | rfl | exact ⟨rfl,rfl⟩ | exact ⟨rfl,rfl,rfl⟩)⟩,by omega⟩;rw [A,scanDown,if_pos (by simp [l]; simpa using hc)]
     have o:scanDown (λ x=>!ltInt x e[a]!) e i2 j=k+1:=by rw [A,scanDown,if_neg (by simp; intro _; simpa using hc)]
     have y:k+1<(e.setIfInBounds i2 e[k+1]!).size:=by simpa using F
     have I:=auk s o L J K;rw [if_neg (by omega)] at I
     push_cast [bO,c9,b6,b8,z,D,E,d6 (m:=m) p,d6 (m:=m) F,d6 (m:=m) y,x8 (m:=m) p,x8 (m:=m) y,zaa,zac,zab]
     repeat refine sI ?_
     refine ⟨⟨i2+1,k,swp e i2 (k+1),by omega,by omega,by omega,by rw [ba]; exact he,by rw [O,I]; rfl,(by first | rfl | exact ⟨rfl,rfl⟩ | exact ⟨rfl,rfl,rfl⟩)⟩,by omega⟩
    have h:decide ((i2:Int)<=j2)=false:=by simp; omega
    have z:decide ((i2:Int)>j2)=true:=by simp; omega
    have o:scanDown (λ x=>!ltInt x e[a]!) e i2 j=j2:=by
     rw [A];cases j2 with
     | zero=>rfl
     | succ k=>rw [scanDown,if_neg (by simp; omega)]
    push_cast [bO,c9,b6,b8,h]
    repeat refine sI ?_
    have I:=auk s o L J K;rw [if_pos (by omega)] at I;have R:N=(j2,e):=by rw [O,I]
    clear O;subst R;have C:j2<e.size:=by omega
    have B:a<(e.setIfInBounds j2 e[a]!).size:=by simpa using g
    push_cast [bO,c9,b6,b8,z,d6 (m:=m) C,d6 (m:=m) g,d6 (m:=m) B,x8 (m:=m) C,x8 (m:=m) B,zaa,zac,zab]
    repeat refine sI ?_
    first | done | rfl | exact ⟨rfl,rfl⟩
   have h:decide ((i2:Int)<=j)=false:=by simp; omega
   have s:scanUp (λ x=>ltInt x e[a]!) e j (i)=i2:=by rw [H,scanUp,if_neg (by simp; omega)]
   push_cast [bO,c9,b6,b8,h]
   repeat refine sI ?_
   refine b9 [(10,false),(11,false),(0,false),(1,false)] (λ vs pos f=>∃u:Nat,u<=j/\i2<=u+2/\scanDown (λ x=>!ltInt x e[a]!) e i2 j=scanDown (λ x=>!ltInt x e[a]!) e i2 u/\vs=[int .i64 i2,int .i64 u,.own 1000000 0 0 n,int .i64 a]/\pos=[bO e m]/\f=[])
    (λ vs _ _=>match vs with | _ :: .r (.v (.int _ j))::_=>j.toNat | _=>0) rfl ?_ ?_
   ·push_cast [bO,b6,b8]
    exact ⟨j,by omega,by omega,rfl,(by first | rfl | exact ⟨rfl,rfl⟩ | exact ⟨rfl,rfl,rfl⟩)⟩
   rintro vs pos f ⟨j2,J,Q,A,rfl,rfl,rfl⟩;by_cases l:i2<=j2
   ·exact absurd l (by omega)
   have h:decide ((i2:Int)<=j2)=false:=by simp; omega
   have z:decide ((i2:Int)>j2)=true:=by simp; omega
   have o:scanDown (λ x=>!ltInt x e[a]!) e i2 j=j2:=by
    rw [A];cases j2 with
    | zero=>rfl
    | succ k=>rw [scanDown,if_neg (by simp; omega)]
   push_cast [bO,c9,b6,b8,h]
   repeat refine sI ?_
   have I:=auk s o L J K;rw [if_pos (by omega)] at I;have R:N=(j2,e):=by rw [O,I]
   clear O;subst R;have C:j2<e.size:=by omega
   have B:a<(e.setIfInBounds j2 e[a]!).size:=by simpa using g
   push_cast [bO,c9,b6,b8,z,d6 (m:=m) C,d6 (m:=m) g,d6 (m:=m) B,x8 (m:=m) C,x8 (m:=m) B,zaa,zac,zab]
   repeat refine sI ?_
   first | done | rfl | exact ⟨rfl,rfl⟩
  have h:decide ((i2:Int)<=j2)=false:=by simp; omega
  have z:decide ((i2:Int)>j2)=true:=by simp; omega
  have o:scanDown (λ x=>!ltInt x c[a]!) c i2 q=j2:=by
   rw [A];cases j2 with
   | zero=>rfl
   | succ k=>rw [scanDown,if_neg (by simp; omega)]
  push_cast [bO,c9,b6,b8,h]
  repeat refine sI ?_
  simp only [s,o,show i2>j2 from by omega,if_true];have C:j2<c.size:=by omega
  have B:a<(c.setIfInBounds j2 c[a]!).size:=by simpa using g
  push_cast [bO,c9,b6,b8,z,d6 (m:=m) C,d6 (m:=m) g,d6 (m:=m) B,x8 (m:=m) C,x8 (m:=m) B,zaa,zac,zab]
  repeat refine sI ?_
  first | done | rfl | exact ⟨rfl,rfl⟩
 have h:decide ((i2:Int)<=q)=false:=by simp; omega
 have s:scanUp (λ x=>ltInt x c[a]!) c q (a+1)=i2:=by rw [H,scanUp,if_neg (by simp; omega)]
 push_cast [bO,c9,b6,b8,h]
 repeat refine sI ?_
 refine b9 [(10,false),(11,false),(0,false),(1,false)] (λ vs pos f=>∃u:Nat,u<=q/\i2<=u+2/\scanDown (λ x=>!ltInt x c[a]!) c i2 q=scanDown (λ x=>!ltInt x c[a]!) c i2 u/\vs=[int .i64 i2,int .i64 u,.own 1000000 0 0 n,int .i64 a]/\pos=[bO c m]/\f=[])
  (λ vs _ _=>match vs with | _ :: .r (.v (.int _ j))::_=>j.toNat | _=>0) rfl ?_ ?_
 ·push_cast [bO,b6,b8]
  exact ⟨q,by omega,by omega,rfl,(by first | rfl | exact ⟨rfl,rfl⟩ | exact ⟨rfl,rfl,rfl⟩)⟩
 rintro vs pos f ⟨j2,J,Q,A,rfl,rfl,rfl⟩;by_cases l:i2<=j2
 ·exact absurd l (by omega)
 have h:decide ((i2:Int)<=j2)=false:=by simp; omega
 have z:decide ((i2:Int)>j2)=true:=by simp; omega
 have o:scanDown (λ x=>!ltInt x c[a]!) c i2 q=j2:=by
  rw [A];cases j2 with
  | zero=>rfl
  | succ k=>rw [scanDown,if_neg (by simp; omega)]
 push_cast [bO,c9,b6,b8,h]
 repeat refine sI ?_
 simp only [s,o,show i2>j2 from by omega,if_true];have C:j2<c.size:=by omega
 have B:a<(c.setIfInBounds j2 c[a]!).size:=by simpa using g
 push_cast [bO,c9,b6,b8,z,d6 (m:=m) C,d6 (m:=m) g,d6 (m:=m) B,x8 (m:=m) C,x8 (m:=m) B,zaa,zac,zab]
 repeat refine sI ?_
 first | done | rfl | exact ⟨rfl,rfl⟩

open Go.Sort (swp ltInt scanSorted partialIns partialInsertionSort)
def dz:Mk P0 f209:={ x:=_ }
theorem a1v {a b:Nat} (h:b-a<50):partialInsertionSort ltInt d a b=(d,decide (scanSorted ltInt d b (a+1)=b)):=by
 unfold partialInsertionSort;rw [partialIns];by_cases c:scanSorted ltInt d b (a+1)=b
 ·simp [c]
 simp [c,h]
theorem bj1 (d:Array Int) (a b:Nat) (x:a<b) (C:b<=d.size) (A:d.size<50) (m:Nat) :
 a8 P0 209 [.own 1000000 0 0 d.size,int .i64 a,int .i64 b] [bO d m] (bl (partialInsertionSort ltInt d a b).2) [bO d m]:=by
 refine dz.t func209 ?_;rw [a1v (by omega)];have y:IntKind.i64.wrap ((a:Int)+1)=(a:Int)+1:=a5 (by omega);have s:IntKind.i64.wrap ((b:Int)-a)=(b:Int)-a:=a5 (by omega)
 push_cast [dz,bO,c9,b6,b8,y,zae,zad,zaa,zac,zab]
 repeat refine sI ?_
 generalize hN:d.size=n at *
 refine b9 [(7,false),(8,false),(0,false),(1,false),(2,false)] (λ vs pos c=>vs=[int .i64 ((a:Int)+1),int .i64 0,.own 1000000 0 0 n,int .i64 a,int .i64 b]/\pos=[bO d m]/\c=[])
  (λ vs _ _=>0) rfl ?_ ?_
 ·push_cast [bO,b6,b8]
 rintro vs pos c ⟨rfl,rfl,rfl⟩;have q:decide ((0:Int)<5)=true:=by decide
 push_cast [bO,c9,b6,b8,q,zaa,zac,zab]
 refine b9 [(7,false),(8,false),(0,false),(1,false),(2,false)] (λ vs pos c=>∃i:Nat,a+1<=i/\i<=b/\scanSorted ltInt d b (a+1)=scanSorted ltInt d b i/\vs=[int .i64 i,int .i64 0,.own 1000000 0 0 n,int .i64 a,int .i64 b]/\pos=[bO d m]/\c=[])
  (λ vs _ _=>match vs with | .r (.v (.int _ i))::_=>(b-i).toNat | _=>0) rfl ?_ ?_
 ·push_cast [bO,b6,b8]
  exact ⟨a+1,by omega,by omega,rfl,(by first | rfl | exact ⟨rfl,rfl⟩ | exact ⟨rfl,rfl,rfl⟩)⟩
 rintro vs pos c ⟨i,z,B,o,rfl,rfl,rfl⟩;by_cases p:i<b
 ·obtain ⟨k,rfl⟩:∃k,i=k+1:=⟨i-1,by omega⟩
  have f:decide ((k:Int)+1<b)=true:=by simp; omega
  have l:decide ((k:Int)+1=b)=false:=by simp; omega
  have u:decide ((b:Int)-a<50)=true:=by simp; omega
  have h:IntKind.i64.wrap ((k:Int)+1+1)=(k:Int)+1+1:=a5 (by omega);have j:IntKind.i64.wrap ((k:Int)+1-1)=(k:Int):=by rw [a5 (by omega)]; omega
  have w:k<d.size:=by omega
  have g:k+1<d.size:=by omega
  push_cast [bO,c9,b6,b8,f,h,j,d6 (m:=m) w,d6 (m:=m) g,zaa,zac,zab]
  repeat refine sI ?_
  refine d5 (ab6 d[k+1]! d[k]!) rfl trivial ?_
  push_cast [bO,c9,b6,b8,f,h,j,d6 (m:=m) w,d6 (m:=m) g,zaa,zac,zab]
  repeat refine sI ?_
  refine b7 (λ hc=>?_) (λ hc=>?_)
  ·push_cast [bO,c9,b6,b8,f,h,j]
   refine ⟨⟨k+2,by omega,by omega,?_,(by first | rfl | exact ⟨rfl,rfl⟩ | exact ⟨rfl,rfl,rfl⟩)⟩,by omega⟩;rw [o,scanSorted,if_pos (by simp [p]; simpa using hc)]
  have e:scanSorted ltInt d b (a+1)=k+1:=by rw [o,scanSorted,if_neg (by simp; intro _; simpa using hc)]
  push_cast [bO,c9,b6,b8,f,l,u,s,h,j]
  refine b7 (λ hc=>?_) (λ hc=>?_)
  ·exfalso;simp at hc;omega
  push_cast [bO,c9,b6,b8,u,s]
  rw [e];simp;omega
 have f:decide ((i:Int)<b)=false:=by simp; omega
 have l:decide ((i:Int)=b)=true:=by simp; omega
 have e:scanSorted ltInt d b (a+1)=i:=by rw [o,scanSorted,if_neg (by simp; omega)]
 push_cast [bO,c9,b6,b8,f,l]
 repeat refine sI ?_
 refine b7 (λ hc=>?_) (λ hc=>?_)
 ·push_cast [bO,c9,b6,b8]
  rw [e];simp;omega
 exfalso;simp at hc;omega

open Go.Sort (swp ltInt bitsLen xorNext)
def vm:Mk P0 f237:={ x:=_ }
def yp:Mk P0 f238:={ x:=_ }
theorem a5x (x:Int):IntKind.u64.wrap x=x%18446744073709551616:=by simp [IntKind.wrap,IntKind.bits,IntKind.signed]
variable {x:Int}
theorem aar (h:0<=x/\x<18446744073709551616):IntKind.u64.wrap x=x:=by rw [a5x]; omega
theorem bdm (a:UInt64) (k:Nat) (b:k<64):IntKind.u64.wrap ((a.toNat:Int)*2^k)=((a <<< (UInt64.ofNat k)).toNat:Int):=by
 have c:(UInt64.ofNat k).toNat=k:=by simp; omega
 rw [UInt64.toNat_shiftLeft,c,Nat.mod_eq_of_lt b,Nat.shiftLeft_eq,a5x];simp
theorem bmg (a:UInt64) (k:Nat) (d:k<64):(a.toNat:Int).fdiv (2^k)=((a >>> (UInt64.ofNat k)).toNat:Int):=by
 have b:(UInt64.ofNat k).toNat=k:=by simp; omega
 rw [UInt64.toNat_shiftRight,b,Nat.mod_eq_of_lt d,Nat.shiftRight_eq_div_pow];have e:=a.toNat_lt;have c:((2^k:Nat):Int)=(2:Int)^k:=by simp
 rw [<- c,Int.fdiv_eq_ediv_of_nonneg _ (Int.natCast_nonneg _),<- Int.natCast_ediv]
theorem biw (a:UInt64):zaf IntKind.u64.bits (a.toNat:Int)=a.toBitVec:=by
 apply BitVec.eq_of_toNat_eq;rw [zbb];have:=a.toNat_lt;show ((a.toNat:Int)%((2^64:Nat):Int)).toNat=a.toNat;omega
theorem bmf (a b:UInt64):IntKind.u64.wrap ((zaf IntKind.u64.bits (a.toNat:Int) ^^^ zaf IntKind.u64.bits (b.toNat:Int)).toNat:Int)=((a ^^^ b).toNat:Int):=by
 rw [biw,biw];have h:(a.toBitVec ^^^ b.toBitVec).toNat=(a ^^^ b).toNat:=rfl;have:=(a ^^^ b).toNat_lt;refine (congrArg IntKind.u64.wrap (congrArg Int.ofNat h)).trans ?_;exact aar ⟨Int.natCast_nonneg _,Int.ofNat_lt.2 this⟩
theorem bgy (n:Nat) (d:n<64):a8 P0 214 [int .u64 n] [] (int .i64 (bitsLen n)) []:=by
 refine agu rfl (by decide) ?_;have b:decide ((n:Int)>=4294967296)=false:=by simp; omega
 have c:decide ((n:Int)>=65536)=false:=by simp; omega
 have a:decide ((n:Int)>=256)=false:=by simp; omega
 have w:IntKind.u8.wrap (n:Int)=n:=by simp [IntKind.wrap,IntKind.bits,IntKind.signed]; omega
 push_cast [agn,b,c,a,w,zaa,zad]
 refine ⟨⟨by omega,(show (n:Int)<((256:Nat):Int) by omega)⟩,?_⟩;refine congrArg (λ z=>AV.r (.v (.int .i64 z))) ?_;clear b c a w
 revert n
 decide +kernel
theorem az2 (n:Nat) (a:n<64):a8 P0 169 [int .u64 n] [] (int .i64 (bitsLen n)) []:=by
 refine ae4.t func169 ?_;have w:IntKind.u64.wrap (n:Int)=n:=aar (by omega)
 push_cast [ae4,w,zad]
 refine a6 (bgy n a) rfl trivial ?_
 push_cast
theorem bka (n:Nat) (a:n<64):a8 P0 237 [int .i64 n] [] (int .u64 (1 <<< bitsLen n:Nat)) []:=by
 refine vm.t func237 ?_;have w:IntKind.u64.wrap (n:Int)=n:=aar (by omega)
 push_cast [vm,w,zad]
 refine a6 (az2 n a) rfl trivial ?_
 push_cast
 refine ⟨by omega,?_⟩;refine congrArg (λ z=>AV.r (.v (.int .u64 z))) ?_;clear w
 revert n
 decide +kernel
theorem bkc (r:UInt64):a8 P0 238 [.ptr 1000000 0 0] [.box [int .u64 r.toNat]] (int .u64 (xorNext r).toNat) [.box [int .u64 (xorNext r).toNat]]:=by
 refine yp.t func238 ?_;have g:(min (zan 13) IntKind.u64.bits)=13:=rfl;have d:(min (zan 7) IntKind.u64.bits)=7:=rfl;have j:(min (zan 17) IntKind.u64.bits)=17:=rfl;have f:∀a:UInt64,a <<< (UInt64.ofNat 13)=a <<< 13:=λ _=>rfl;have i:∀a:UInt64,a >>> (UInt64.ofNat 7)=a >>> 7:=λ _=>rfl;have h:∀a:UInt64,a <<< (UInt64.ofNat 17)=a <<< 17:=λ _=>rfl;have e:=λ a=>bdm a 13 (by decide);have b:=λ a=>bmg a 7 (by decide);have c:=λ a=>bdm a 17 (by decide);simp only [yp,g,d,j,e,b,c,f,i,h,bmf,push_cast,↓reduceIte,reduceCtorEq,zE,zA,zS,zL,zD]
 repeat refine sI ?_
 rfl

open Go.Sort (swp ltInt bitsLen xorNext breakStep breakPatterns)
def ji:Mk P0 f206:={ x:=_ }
def brk (a l b:Nat):Nat->Nat->UInt64×Array Int->Array Int
 | 0,_,st=>st.2
 | s+1,idx,st=>brk a l b s (idx+1) (breakStep a l b st idx)
theorem bl1 {a b:Nat} (h:8<=b-a):breakPatterns d a b=brk a (b-a) (1 <<< bitsLen (b-a)) 3 (a+(b-a)/4*2-1) (UInt64.ofNat (b-a),d):=by
 unfold breakPatterns;simp only [show b-a>=8 from h,if_true]
 rfl
theorem a5d (x a:Nat) (k:Nat) (c:k<=62) (b:a=2^k) (hx:x<18446744073709551616):IntKind.u64.wrap ((zaf IntKind.u64.bits (x:Int) &&& zaf IntKind.u64.bits ((a:Int)-1)).toNat)=((x &&& (a-1):Nat):Int):=by
 rw [ac2 x ((a:Int)-1) k (by omega) (by rw [b]; simp) (Int.natCast_nonneg _) (by omega),b,Nat.and_two_pow_sub_one_eq_mod];simp
theorem bh1 (d:Array Int) (a b:Nat) (hl:8<=b-a) (hb:b<=d.size) (hn:d.size<50) (m:Nat) :
 a8 P0 206 [.own 1000000 0 0 d.size,int .i64 a,int .i64 b] [bO d m] (.tup []) [bO (breakPatterns d a b) m]:=by
 refine ji.t func206 ?_;rw [bl1 hl];have A:=Go.Sort.lt_two_pow_bitsLen (b-a);have p:=Go.Sort.two_pow_bitsLen_le (n:=b-a) (by omega);obtain ⟨l,J⟩:∃l,b-a=l:=⟨_,rfl⟩
 obtain ⟨q,hq⟩:∃q,l/4=q:=⟨_,rfl⟩
 obtain ⟨B,N⟩:∃B,bitsLen l=B:=⟨_,rfl⟩
 obtain ⟨f,y⟩:∃f,1 <<< B=f:=⟨_,rfl⟩
 have k:f=2^B:=by rw [<- y,Nat.shiftLeft_eq,Nat.one_mul]
 rw [J] at A p |-;rw [N] at A p;rw [N,y,hq]
 have C:B<=62:=by
  rcases Nat.lt_or_ge 62 B with h | h
  ·have:=zbc (n:=2) (by decide) (show 7<=B by omega);omega
  exact h
 rw [<- k] at A p;obtain ⟨j,P⟩:∃j,a+q*2-1=j:=⟨_,rfl⟩
 have X:IntKind.i64.wrap ((b:Int)-a)=(l:Int):=by rw [a5 (by omega)]; omega
 have R:(l:Int).tdiv 4=(q:Int):=by rw [zau (by omega)]; omega
 have u:IntKind.i64.wrap (q:Int)=(q:Int):=a5 (by omega);have K:IntKind.i64.wrap ((q:Int)*2)=(q:Int)*2:=a5 (by omega);have Q:IntKind.i64.wrap ((a:Int)+(q:Int)*2)=(a:Int)+(q:Int)*2:=a5 (by omega);have W:IntKind.i64.wrap ((a:Int)+(q:Int)*2-1)=(j:Int):=by rw [a5 (by omega)]; omega
 have w5:IntKind.i64.wrap ((a:Int)+(q:Int)*2+1)=(j:Int)+2:=by rw [a5 (by omega)]; omega
 have Z:IntKind.u64.wrap (l:Int)=(l:Int):=aar (by omega);have w7:IntKind.u64.wrap ((f:Int)-1)=(f:Int)-1:=aar (by omega);have U:decide ((l:Int)>=8)=true:=by simp; omega
 push_cast [ji,bO,c9,b6,b8,X,R,u,K,Q,W,Z,U,zae,zad,zaa,zac,zab]
 repeat refine sI ?_
 refine a6 (bka l (by omega)) rfl trivial ?_;rw [N,y]
 push_cast [bO,c9,b6,b8,X,R,u,K,Q,W,Z,U,zae,zad,zaa,zac,zab]
 repeat refine sI ?_
 generalize hN:d.size=n at *;obtain ⟨L,H⟩:∃L,brk a l f 3 j (UInt64.ofNat l,d)=L:=⟨_,rfl⟩
 rw [P,H]
 refine b9 [(9,false),(0,false),(1,false),(6,false),(7,false),(8,false)] (λ vs pos E=>∃(s idx:Nat) (r:UInt64) (e:Array Int),s+idx=j+3/\s<=3/\e.size=n/\L=brk a l f s idx (r,e)/\vs=[int .i64 idx,.own 1000000 0 0 n,int .i64 a,int .i64 l,.ptr 2000000 0 0,int .u64 f]/\pos=[bO e m]/\E=[.box [int .u64 r.toNat]])
  (λ vs _ _=>match vs with | .r (.v (.int _ i))::_=>((j:Int)+3-i).toNat | _=>0) rfl ?_ ?_
 ·push_cast [bO,b6,b8]
  refine ⟨3,j,UInt64.ofNat l,d,by omega,by omega,hN,H.symm,(by first | rfl | exact ⟨rfl,rfl⟩ | exact ⟨rfl,rfl,rfl⟩),?_⟩;have:(UInt64.ofNat l).toNat=l:=by simp; omega
  rw [this];exact ⟨rfl,rfl⟩
 rintro vs pos E ⟨s,idx,r,e,h1,h2,Y,M,rfl,rfl,rfl⟩
 push_cast [bO,c9,b6,b8,R,u,K,Q,w5,zaa,zac,zab]
 repeat refine sI ?_
 refine b7 (λ hc=>?_) (λ hc=>?_)
 ·obtain ⟨s',rfl⟩:∃s',s=s'+1:=⟨s-1,by simp at hc; omega⟩
  push_cast [bO,c9,b6,b8,zaa,zac,zab]
  refine a6 (bkc r) rfl ⟨rfl,trivial⟩ ?_;have hx:=(xorNext r).toNat_lt;have g:=a5d (xorNext r).toNat f B C k hx;obtain ⟨o,I⟩:∃o,(xorNext r).toNat &&& (f-1)=o:=⟨_,rfl⟩
  rw [I] at g;have h0:o<=f-1:=by rw [<- I]; exact Nat.and_le_right
  have wo:IntKind.i64.wrap (o:Int)=(o:Int):=a5 (by omega)
  push_cast [bO,c9,b6,b8,w7,g,wo,zaa,zac,zab]
  repeat refine sI ?_
  have c:idx<e.size:=by omega
  have V:IntKind.i64.wrap ((idx:Int)+1)=(idx:Int)+1:=a5 (by omega)
  have G:∀t:Nat,t<l->(breakStep a l f (r,e) idx)=(xorNext r,swp e idx (a+t))->brk a l f (s'+1) idx (r,e)=brk a l f s' (idx+1) (xorNext r,swp e idx (a+t)):=λ t T h=>by
   rw [brk,h]
  refine b7 (λ hc=>?_) (λ hc=>?_)
  ·have h4:l<=o:=by simp at hc; omega
   obtain ⟨t,rfl⟩:∃t,o=l+t:=⟨o-l,by omega⟩
   have T:t<l:=by omega
   have wt:IntKind.i64.wrap (((l+t:Nat):Int)-l)=(t:Int):=by rw [a5 (by omega)]; omega
   have z:IntKind.i64.wrap ((a:Int)+t)=((a+t:Nat):Int):=by rw [a5 (by omega)]; omega
   have F:a+t<e.size:=by omega
   have D:a+t<(e.setIfInBounds idx e[a+t]!).size:=by simpa using F
   have w:=G t T (by
    unfold breakStep;simp only [I];rw [if_pos (by omega)]
    simp)
   generalize O:a+t=x at *;generalize h3:l+t=h5 at *
   push_cast [bO,c9,b6,b8,wt,z,V,d6 (m:=m) c,d6 (m:=m) F,d6 (m:=m) D,x8 (m:=m) c,x8 (m:=m) D,zaa,zac,zab]
   repeat refine sI ?_
   refine ⟨⟨s',idx+1,xorNext r,swp e idx x,by omega,by omega,by rw [ba]; exact Y,by rw [M,w],(by first | rfl | exact ⟨rfl,rfl⟩ | exact ⟨rfl,rfl,rfl⟩)⟩,by omega⟩
  have S:o<l:=by simp at hc; omega
  have z:IntKind.i64.wrap ((a:Int)+o)=((a+o:Nat):Int):=by rw [a5 (by omega)]; omega
  have F:a+o<e.size:=by omega
  have D:a+o<(e.setIfInBounds idx e[a+o]!).size:=by simpa using F
  have w:=G o S (by
   unfold breakStep;simp only [I]
   rw [if_neg (by omega)])
  generalize O:a+o=x at *
  push_cast [bO,c9,b6,b8,z,V,d6 (m:=m) c,d6 (m:=m) F,d6 (m:=m) D,x8 (m:=m) c,x8 (m:=m) D,zaa,zac,zab]
  repeat refine sI ?_
  refine ⟨⟨s',idx+1,xorNext r,swp e idx x,by omega,by omega,by rw [ba]; exact Y,by rw [M,w],(by first | rfl | exact ⟨rfl,rfl⟩ | exact ⟨rfl,rfl,rfl⟩)⟩,by omega⟩
 have hs:s=0:=by simp at hc; omega
 subst hs
 push_cast [bO,c9,b6,b8,zaa,zac,zab]
 rw [M]
 rfl

open Go.Sort (swp ltInt bitsLen breakPatterns pdq insertionSort heapSort choosePivot Hint reverseRange partialInsertionSort partition partitionEqual Below PermIn SWO)
structure Rnd (e:Array Int) (a b limit:Nat) (wb wp:Bool) (d1:Array Int) (l1:Nat) (d2:Array Int) (pv:Nat) (hint:Hint) (F:Bool):Prop where
 g1:(if !wb then breakPatterns e a b else e)=d1
 g2:(if !wb then limit-1 else limit)=l1
 g3:(if (choosePivot ltInt d1 a b).2=.decreasing then reverseRange d1 a b else d1)=d2
 g4:(if (choosePivot ltInt d1 a b).2=.decreasing then (b-1)-((choosePivot ltInt d1 a b).1-a) else (choosePivot ltInt d1 a b).1)=pv
 g5:(if (choosePivot ltInt d1 a b).2=.decreasing then Hint.increasing else (choosePivot ltInt d1 a b).2)=hint
 g6:((wb&&wp&&decide (hint=.increasing))&&(partialInsertionSort ltInt d2 a b).2)=F
section
variable {e d1 d2:Array Int} {a b limit l1 pv:Nat} {wb wp F:Bool} {hint:Hint}
theorem a7k (h:b-a<=12):pdq ltInt e a b limit wb wp=insertionSort ltInt e a b:=by rw [pdq,if_pos h]
theorem bbg (h:¬b-a<=12) (c:limit=0):pdq ltInt e a b limit wb wp=heapSort ltInt e a b:=by rw [pdq,if_neg h,if_pos c]
theorem bms (d:b-a<50) (c:Bool):(if c=true then partialInsertionSort ltInt d2 a b else (d2,false))=(d2,c&&(partialInsertionSort ltInt d2 a b).2):=by
 cases c
 ·rfl
 simp only [if_true,Bool.true_and];rw [a1v d]
theorem Rnd.eq (R:Rnd e a b limit wb wp d1 l1 d2 pv hint F) (h:¬b-a<=12) (d:limit≠0) (c:b-a<50) :
 pdq ltInt e a b limit wb wp=if F=true then d2 else
  if (decide (a>0) && !ltInt d2[a-1]! d2[pv]!)=true then
   match partitionEqual ltInt d2 a b pv with
   | (mid,d4)=>if _h:a<mid/\mid<=b then pdq ltInt d4 mid b l1 wb wp else d4
  else
   match partition ltInt d2 a b pv with
   | (mid,ap,d4)=>
     if _h:a<=mid/\mid<b then
      if mid-a<b-mid then pdq ltInt (pdq ltInt d4 a mid l1 true true) (mid+1) b l1 (decide (mid-a>=(b-a)/8)) ap
      else pdq ltInt (pdq ltInt d4 (mid+1) b l1 true true) a mid l1 (decide (b-mid>=(b-a)/8)) ap
     else d4:=by
 rw [pdq,if_neg h,if_neg d];simp only [R.g1,R.g2,R.g3,R.g4,R.g5,bms c,R.g6]
theorem Rnd.facts (R:Rnd e a b limit wb wp d1 l1 d2 pv hint F) (h:a<b) (d:b<=e.size) (i:Below ltInt a b e) :
 d1.size=e.size/\d2.size=e.size/\l1<=limit/\Below ltInt a b d2/\a<=pv/\pv<b:=by
 have c:PermIn a b e d1:=by
  rw [<- R.g1];split
  ·exact Go.Sort.breakPatterns_holds e a b (by omega) d
  exact Go.Sort.permIn_refl e a b
 have f:b<=d1.size:=by rw [c.1]; exact d
 have g:PermIn a b d1 d2:=by
  rw [<- R.g3];split
  ·exact Go.Sort.reverseRange_holds d1 a b (by omega) f
  exact Go.Sort.permIn_refl d1 a b
 have hc:=Go.Sort.choosePivot_holds ltInt d1 a b h;refine ⟨c.1,g.1.trans c.1,by rw [<- R.g2]; split<;>omega,(i.perm d c).perm f g,?_,?_⟩
 ·rw [<- R.g4]; split<;>omega
 rw [<- R.g4]; split<;>omega
theorem Rnd.eqs (R:Rnd e a b limit wb wp d1 l1 d2 pv hint F) (h:¬b-a<=12) (n:b<=e.size) (l:Below ltInt a b e)
 (d:(decide (a>0) && !ltInt d2[a-1]! d2[pv]!)=true) {c:Nat} {f:Array Int} (hx:partitionEqual ltInt d2 a b pv=(c,f)) :
 a<c/\c<=b/\f.size=e.size/\Below ltInt c b f:=by
 obtain ⟨s,m,r,p,j,o⟩:=R.facts (by omega) n l;simp only [Bool.and_eq_true,decide_eq_true_eq,Bool.not_eq_true'] at d;obtain ⟨i,q,g,k,_⟩:=Go.Sort.round_eq Go.Sort.swo_ltInt (Go.Sort.partitionEqual_holds ltInt) d.1 j o (by omega) p d.2 hx;exact ⟨i,q,g.trans m,k⟩
theorem Rnd.parts (R:Rnd e a b limit wb wp d1 l1 d2 pv hint F) (h:¬b-a<=12) (t:b<=e.size) (r:Below ltInt a b e) {c:Nat} {q:Bool} {d:Array Int} (hx:partition ltInt d2 a b pv=(c,q,d)) :
 a<=c/\c<b/\d.size=e.size/\Below ltInt a c d/\Below ltInt (c+1) b d /\
 (pdq ltInt d a c l1 true true).size=e.size/\Below ltInt (c+1) b (pdq ltInt d a c l1 true true) /\
 (pdq ltInt d (c+1) b l1 true true).size=e.size/\Below ltInt a c (pdq ltInt d (c+1) b l1 true true):=by
 obtain ⟨w,k,v,n,s,m⟩:=R.facts (by omega) t r;obtain ⟨l,p,f,i,g,o,u⟩:=Go.Sort.round_part Go.Sort.swo_ltInt (Go.Sort.partition_holds ltInt) s m (by omega) n hx;have j:=Go.Sort.pdq_sorts ltInt Go.Sort.swo_ltInt d a c l1 true true l (by omega) i;have p2:=Go.Sort.pdq_sorts ltInt Go.Sort.swo_ltInt d (c+1) b l1 true true (by omega) (by omega) g;exact ⟨l,p,f.trans k,i,g,j.1.1.trans (f.trans k),(o _ j.1 j.2).1,p2.1.1.trans (f.trans k),(u _ p2.1 p2.2).1⟩
end

open Go.Sort (swp ltInt bitsLen breakPatterns pdq insertionSort heapSort choosePivot Hint reverseRange partialInsertionSort partition partitionEqual Below PermIn SWO)
def cb:Mk P0 f168:={ x:=_ }
theorem aov (i:Nat) (x y:Nat×Ob) (f:Obs):upd i x (upd i y f)=upd i x f:=by
 funext n;simp only [upd];split<;>rfl
def bdd (m N:Nat):Prop:=∀(d:Array Int) (a b c:Nat),b-a<=N->a<=b->b<=d.size->d.size<50->c<=100->Below ltInt a b d ->
 a8 P0 168 [.own 1000000 0 0 d.size,int .i64 a,int .i64 b,int .i64 c] [bO d m] (.tup []) [bO (pdq ltInt d a b c true true) m]
theorem uu {f g:Array Int} (h:g.size=f.size):ct [bO f m] [bO g m]:=⟨by rw [c9,c9,h],trivial⟩
theorem bbf (m N:Nat) (ih:∀N',N'<N->bdd m N'):bdd m N:=by
 intro d a b g hN K hb hn Y hB;refine cb.t func168 ?_;obtain ⟨RR,B⟩:∃RR,pdq ltInt d a b g true true=RR:=⟨_,rfl⟩
 rw [B]
 push_cast [cb,bO,c9,b6,b8,zae,zad,zaa,zac,zab]
 repeat refine sI ?_
 obtain ⟨n,hf⟩:∃n,d.size=n:=⟨_,rfl⟩
 rw [hf] at hb hn |-
 refine b9 [(8,false),(9,false),(0,false),(1,false),(2,false),(3,false)] (λ vs pos hj=>∃(a b g:Nat) (M T:Bool) (e:Array Int),a<=b/\b<=n/\e.size=n/\b-a<=N/\g<=100/\Below ltInt a b e/\RR=pdq ltInt e a b g M T/\vs=[bl M,bl T,.own 1000000 0 0 n,int .i64 a,int .i64 b,int .i64 g]/\pos=[bO e m]/\hj=[])
  (λ vs _ _=>match vs with | [_,_,_,.r (.v (.int _ a)),.r (.v (.int _ b)),_]=>(b-a).toNat | _=>0) rfl ?_ ?_
 ·push_cast [bO,b6,b8]
  exact ⟨a,b,g,true,true,d,K,hb,hf,hN,Y,hB,B.symm,(by first | rfl | exact ⟨rfl,rfl⟩ | exact ⟨rfl,rfl,rfl⟩)⟩
 clear B hB Y hN K hb hf;rintro vs pos hj ⟨a,b,g,M,T,e,K,hb,V,hN,Y,hB,B,rfl,rfl,rfl⟩;have w0:IntKind.i64.wrap ((b:Int)-a)=(b:Int)-a:=a5 (by omega);obtain ⟨l,hl⟩:∃l,b-a=l:=⟨_,rfl⟩
 have w0:IntKind.i64.wrap ((b:Int)-a)=(l:Int):=by rw [a5 (by omega)]; omega
 push_cast [bO,c9,b6,b8,w0,zaa,zac,zab]
 refine b7 (λ hc=>?_) (λ hc=>?_)
 ·have Q:b-a<=12:=by simp at hc; omega
  push_cast [bO,c9,b6,b8,zaa,zac,zab]
  have o:=bnh e a b K (by omega) (by omega) m;rw [V] at o;refine a6 o rfl (uu (Go.Sort.insertionSort_holds Go.Sort.swo_ltInt e a b K (by omega)).1.1) ?_;rw [B,a7k Q]
  push_cast [bO,c9,b6,b8,zaa,zac,zab]
 have Q:¬b-a<=12:=by simp at hc; omega
 push_cast [bO,c9,b6,b8,zaa,zac,zab]
 refine b7 (λ h6=>?_) (λ h6=>?_)
 ·have h0:g=0:=by simp at h6; omega
  push_cast [bO,c9,b6,b8,zaa,zac,zab]
  have o:=bk0 e a b (by omega) (by omega) (by omega) m;rw [V] at o;refine a6 o rfl (uu (Go.Sort.heapSort_holds Go.Sort.swo_ltInt e a b K (by omega)).1.1) ?_;rw [B,bbg Q h0]
  push_cast [bO,c9,b6,b8,zaa,zac,zab]
 have h0:g≠0:=by simp at h6; omega
 push_cast [bO,c9,b6,b8,zaa,zac,zab]
 refine al2 (λ E ob=>∃(U:Array Int) (I:Nat),(if !M then breakPatterns e a b else e)=U/\(if !M then g-1 else g)=I/\E 0=.own 1000000 0 0 n/\E 1=int .i64 a/\E 2=int .i64 b/\E 3=int .i64 I/\E 8=bl M/\E 9=bl T/\E 10=int .i64 l/\ob=upd 1000000 (0,bO U m) (λ _=>none)) ?_ (λ h7=>?_) (λ h7=>?_)
 ·rintro E ob ⟨U,I,q1,q2,q,s,u,z,p,w,i,rfl⟩
  have h2:U.size=n:=by
   rw [<- V,<- q1];split
   ·exact (Go.Sort.breakPatterns_holds e a b K (by omega)).1
   rfl
  push_cast [bO,c9,b6,b8,q,s,u,z,p,w,i,zaa,zac,zab]
  have o:=bgl U a b (by omega) (by omega) (by omega) m;rw [h2] at o;refine a6 o rfl (uu rfl) ?_;clear o;obtain ⟨c,h,h3⟩:∃c h,choosePivot ltInt U a b=(c,h):=⟨_,_,rfl⟩
  have hk:=Go.Sort.choosePivot_holds ltInt U a b (by omega);rw [h3] at hk |-;simp only at hk
  push_cast [bO,c9,b6,b8,q,s,u,z,p,w,i,zaa,zac,zab]
  refine al2 (λ E ob=>∃(C:Array Int) (pv:Nat) (A:Hint),(if h=.decreasing then reverseRange U a b else U)=C/\(if h=.decreasing then (b-1)-(c-a) else c)=pv/\(if h=.decreasing then Hint.increasing else h)=A/\E 0=.own 1000000 0 0 n/\E 1=int .i64 a/\E 2=int .i64 b/\E 3=int .i64 I/\E 8=bl M/\E 9=bl T/\E 10=int .i64 l/\E 11=int .i64 pv/\E 12=int .i64 (apd A)/\ob=upd 1000000 (0,bO C m) (λ _=>none)) ?_ (λ hi=>?_) (λ hi=>?_)
  ·clear q s u z p w i E;rintro E ob ⟨C,pv,A,q3,q4,q5,q,s,u,z,p,w,i,k,S,rfl⟩
   push_cast [bO,c9,b6,b8,q,s,u,z,p,w,i,k,S,zaa,zac,zab]
   have hG:(bif bif M then T else false then apd A == 1 else false)=(M&&T&&decide (A=.increasing)):=by cases M<;>cases T<;>cases A<;>rfl
   have R:Rnd e a b g M T U I C pv A ((M&&T&&decide (A=.increasing))&&(partialInsertionSort ltInt C a b).2):=⟨q1,q2,by rw [h3]; exact q3,by rw [h3]; exact q4,by rw [h3]; exact q5,rfl⟩
   obtain ⟨hs,h1,g2,g3,hu,hw⟩:=R.facts (by omega) (by omega) hB;have j:=R.eq Q h0 (by omega);refine al2 (λ E ob=>((M&&T&&decide (A=.increasing))&&(partialInsertionSort ltInt C a b).2)=false/\E 0=.own 1000000 0 0 n/\E 1=int .i64 a/\E 2=int .i64 b/\E 3=int .i64 I/\E 8=bl M/\E 9=bl T/\E 10=int .i64 l/\E 11=int .i64 pv/\ob=upd 1000000 (0,bO C m) (λ _=>none)) ?_ (λ Z=>?_) (λ Z=>?_)
   ·clear q s u z p w i k S E;rintro E ob ⟨hF,q,s,u,z,p,w,i,k,rfl⟩;rw [hF] at R j;rw [if_neg (by simp)] at j;clear hG hF;by_cases g1:0<a
    ·obtain ⟨D,rfl⟩:∃D,a=D+1:=⟨a-1,by omega⟩
     have g0:decide ((D:Int)+1>0)=true:=by rw [decide_eq_true_eq]; omega
     have wk:IntKind.i64.wrap ((D:Int)+1-1)=(D:Int):=by rw [a5 (by omega)]; omega
     have k1:D<C.size:=by omega
     have k2:pv<C.size:=by omega
     push_cast [bO,c9,b6,b8,g0,wk,q,s,u,z,p,w,i,k,d6 (m:=m) k1,d6 (m:=m) k2,zaa,zac,zab]
     repeat refine sI ?_
     refine d5 (ab6 C[D]! C[pv]!) rfl trivial ?_
     push_cast [bO,c9,b6,b8,g0,wk,q,s,u,z,p,w,i,k,d6 (m:=m) k1,d6 (m:=m) k2,zaa,zac,zab]
     repeat refine sI ?_
     refine b7 (λ h5=>?_) (λ h5=>?_)
     ·have J:(decide (D+1>0) && !ltInt C[D+1-1]! C[pv]!)=true:=by simpa using h5
      have o:=bbh C (D+1) b pv (by omega) (by omega) (by omega) (by omega) m;rw [h1,V] at o;obtain ⟨f,L,hx⟩:∃f L,partitionEqual ltInt C (D+1) b pv=(f,L):=⟨_,_,rfl⟩
      obtain ⟨r1,r2,r3,r4⟩:=R.eqs Q (by omega) hB J hx;rw [hx] at o j;simp only at o;rw [if_pos J] at j;simp only [dif_pos (show D+1<f/\f<=b from ⟨r1,r2⟩)] at j
      push_cast [bO,c9,b6,b8,g0,wk,q,s,u,z,p,w,i,k,zaa,zac,zab]
      refine a6 o rfl (uu (by omega)) ?_
      push_cast [bO,c9,b6,b8,g0,wk,q,s,u,z,p,w,i,k,zaa,zac,zab]
      exact ⟨⟨f,b,I,M,T,L,by omega,by omega,by omega,by omega,by omega,r4,by rw [B,j],(by first | rfl | exact ⟨rfl,rfl⟩ | exact ⟨rfl,rfl,rfl⟩)⟩,by omega⟩
     have J:¬(decide (D+1>0) && !ltInt C[D+1-1]! C[pv]!)=true:=by simpa using h5
     push_cast [bO,c9,b6,b8,g0,wk,q,s,u,z,p,w,i,k,zaa,zac,zab]
     have o:=a7l C (D+1) b pv (by omega) (by omega) (by omega) (by omega) m;rw [h1,V] at o;obtain ⟨f,ap,L,hx⟩:∃f ap L,partition ltInt C (D+1) b pv=(f,ap,L):=⟨_,_,_,rfl⟩
     obtain ⟨r1,r2,r3,r4,r5,r6,r7,r8,r9⟩:=R.parts Q (by omega) hB hx;rw [hx] at o j;simp only at o;refine a6 o rfl (uu (by omega)) ?_;rw [if_neg (by exact J)] at j;simp only [dif_pos (show (D+1)<=f/\f<b from ⟨r1,r2⟩)] at j;obtain ⟨G,h8⟩:∃G,(b-(D+1))/8=G:=⟨_,rfl⟩
     obtain ⟨x,ha⟩:∃x,f-(D+1)=x:=⟨_,rfl⟩
     obtain ⟨y,hh⟩:∃y,b-f=y:=⟨_,rfl⟩
     have wx:IntKind.i64.wrap ((f:Int)-((D:Int)+1))=(x:Int):=by rw [a5 (by omega)]; omega
     have wy:IntKind.i64.wrap ((b:Int)-f)=(y:Int):=by rw [a5 (by omega)]; omega
     have W:(l:Int).tdiv 8=(G:Int):=by rw [zau (by omega)]; omega
     have F:IntKind.i64.wrap (G:Int)=(G:Int):=a5 (by omega);have wm:IntKind.i64.wrap ((f:Int)+1)=((f+1:Nat):Int):=by rw [a5 (by omega)]; omega
     have dx:decide ((x:Int)>=(G:Int))=decide (x>=G):=by simp
     have X:decide ((y:Int)>=(G:Int))=decide (y>=G):=by simp
     rw [h8,ha,hh] at j;clear o
     push_cast [bO,c9,b6,b8,wx,wy,W,F,dx,X,q,s,u,z,p,w,i,k,zaa,zac,zab]
     repeat refine sI ?_
     refine b7 (λ P=>?_) (λ P=>?_)
     ·have O:x<y:=by simpa using P
      rw [if_pos O] at j;have o:=ih (f-(D+1)) (by omega) L (D+1) f I (by omega) r1 (by omega) (by omega) (by omega) r4;rw [r3,V] at o;generalize hg:f+1=H at *
      push_cast [bO,c9,b6,b8,wx,wy,wm,W,F,dx,X,q,s,u,z,p,w,i,k,zaa,zac,zab]
      refine a6 o rfl (uu (by omega)) ?_
      push_cast [bO,c9,b6,b8,wx,wy,wm,W,F,dx,X,q,s,u,z,p,w,i,k,zaa,zac,zab]
      exact ⟨⟨H,b,I,decide (x>=G),ap,pdq ltInt L (D+1) f I true true,by omega,by omega,by omega,by omega,by omega,r7,by rw [B,j],(by first | rfl | exact ⟨rfl,rfl⟩ | exact ⟨rfl,rfl,rfl⟩)⟩,by omega⟩
     have O:¬x<y:=by simpa using P
     rw [if_neg O] at j;have o:=ih (b-(f+1)) (by omega) L (f+1) b I (by omega) (by omega) (by omega) (by omega) (by omega) r5;rw [r3,V] at o;generalize hg:f+1=H at *
     push_cast [bO,c9,b6,b8,wx,wy,wm,W,F,dx,X,q,s,u,z,p,w,i,k,zaa,zac,zab]
     refine a6 o rfl (uu (by omega)) ?_
     push_cast [bO,c9,b6,b8,wx,wy,wm,W,F,dx,X,q,s,u,z,p,w,i,k,zaa,zac,zab]
     exact ⟨⟨(D+1),f,I,decide (y>=G),ap,pdq ltInt L H b I true true,by omega,by omega,by omega,by omega,by omega,r9,by rw [B,j],(by first | rfl | exact ⟨rfl,rfl⟩ | exact ⟨rfl,rfl,rfl⟩)⟩,by omega⟩
    obtain rfl:a=0:=by omega
    have g0:decide (((0:Nat):Int)>0)=false:=by decide
    have hr:decide ((0:Int)>0)=false:=by decide
    have wk:True:=trivial;have J:¬(decide (0>0) && !ltInt C[0-1]! C[pv]!)=true:=by simp
    push_cast [bO,c9,b6,b8,g0,hr,q,s,u,z,p,w,i,k,zaa,zac,zab]
    repeat refine sI ?_
    try push_cast [bO,c9,b6,b8,g0,wk,q,s,u,z,p,w,i,k,zaa,zac,zab]
    have o:=a7l C 0 b pv (by omega) (by omega) (by omega) (by omega) m;rw [h1,V] at o;obtain ⟨f,ap,L,hx⟩:∃f ap L,partition ltInt C 0 b pv=(f,ap,L):=⟨_,_,_,rfl⟩
    obtain ⟨r1,r2,r3,r4,r5,r6,r7,r8,r9⟩:=R.parts Q (by omega) hB hx;rw [hx] at o j;simp only at o;refine a6 o rfl (uu (by omega)) ?_;rw [if_neg (by exact J)] at j;simp only [dif_pos (show 0<=f/\f<b from ⟨r1,r2⟩)] at j;obtain ⟨G,h8⟩:∃G,(b-0)/8=G:=⟨_,rfl⟩
    obtain ⟨x,ha⟩:∃x,f-0=x:=⟨_,rfl⟩
    obtain ⟨y,hh⟩:∃y,b-f=y:=⟨_,rfl⟩
    have wx:IntKind.i64.wrap ((f:Int)-0)=(x:Int):=by rw [a5 (by omega)]; omega
    have wy:IntKind.i64.wrap ((b:Int)-f)=(y:Int):=by rw [a5 (by omega)]; omega
    have W:(l:Int).tdiv 8=(G:Int):=by rw [zau (by omega)]; omega
    have F:IntKind.i64.wrap (G:Int)=(G:Int):=a5 (by omega);have wm:IntKind.i64.wrap ((f:Int)+1)=((f+1:Nat):Int):=by rw [a5 (by omega)]; omega
    have dx:decide ((x:Int)>=(G:Int))=decide (x>=G):=by simp
    have X:decide ((y:Int)>=(G:Int))=decide (y>=G):=by simp
    rw [h8,ha,hh] at j;clear o
    push_cast [bO,c9,b6,b8,wx,wy,W,F,dx,X,q,s,u,z,p,w,i,k,zaa,zac,zab]
    repeat refine sI ?_
    refine b7 (λ P=>?_) (λ P=>?_)
    ·have O:x<y:=by simpa using P
     rw [if_pos O] at j;have o:=ih (f-0) (by omega) L 0 f I (by omega) r1 (by omega) (by omega) (by omega) r4;rw [r3,V] at o;generalize hg:f+1=H at *
     push_cast [bO,c9,b6,b8,wx,wy,wm,W,F,dx,X,q,s,u,z,p,w,i,k,zaa,zac,zab]
     refine a6 o rfl (uu (by omega)) ?_
     push_cast [bO,c9,b6,b8,wx,wy,wm,W,F,dx,X,q,s,u,z,p,w,i,k,zaa,zac,zab]
     exact ⟨⟨H,b,I,decide (x>=G),ap,pdq ltInt L 0 f I true true,by omega,by omega,by omega,by omega,by omega,r7,by rw [B,j],(by first | rfl | exact ⟨rfl,rfl⟩ | exact ⟨rfl,rfl,rfl⟩)⟩,by omega⟩
    have O:¬x<y:=by simpa using P
    rw [if_neg O] at j;have o:=ih (b-(f+1)) (by omega) L (f+1) b I (by omega) (by omega) (by omega) (by omega) (by omega) r5;rw [r3,V] at o;generalize hg:f+1=H at *
    push_cast [bO,c9,b6,b8,wx,wy,wm,W,F,dx,X,q,s,u,z,p,w,i,k,zaa,zac,zab]
    refine a6 o rfl (uu (by omega)) ?_
    push_cast [bO,c9,b6,b8,wx,wy,wm,W,F,dx,X,q,s,u,z,p,w,i,k,zaa,zac,zab]
    exact ⟨⟨0,f,I,decide (y>=G),ap,pdq ltInt L H b I true true,by omega,by omega,by omega,by omega,by omega,r9,by rw [B,j],(by first | rfl | exact ⟨rfl,rfl⟩ | exact ⟨rfl,rfl,rfl⟩)⟩,by omega⟩
   ·rw [hG] at Z;have o:=bj1 C a b (by omega) (by omega) (by omega) m;rw [h1,V] at o
    push_cast [bO,c9,b6,b8,q,s,u,z,p,w,i,k,S,zaa,zac,zab]
    refine a6 o rfl (uu rfl) ?_
    push_cast [bO,c9,b6,b8,q,s,u,z,p,w,i,k,S,zaa,zac,zab]
    refine b7 (λ h9=>?_) (λ h9=>?_)
    ·rw [Z,h9] at j;simp only [Bool.and_self,if_true] at j
     push_cast [bO,c9,b6,b8,zaa,zac,zab]
     rw [B,j]
    push_cast [bO,c9,b6,b8,aov,q,s,u,z,p,w,i,k,S,zaa,zac,zab]
    rw [h9]; simp
   rw [hG] at Z
   push_cast [bO,c9,b6,b8,q,s,u,z,p,w,i,k,S,zaa,zac,zab]
   rw [Z]; simp
  ·have hd:h=.decreasing:=by cases h<;>simp [apd] at hi |-
   subst hd;have o:=bmq U a b (by omega) (by omega) (by omega) (by omega) m;rw [h2] at o;have hm:IntKind.i64.wrap ((b:Int)-1)=(b:Int)-1:=a5 (by omega);have ho:IntKind.i64.wrap ((c:Int)-a)=(c:Int)-a:=a5 (by omega);have hq:IntKind.i64.wrap ((b:Int)-1-((c:Int)-a))=(((b-1)-(c-a):Nat):Int):=by rw [a5 (by omega)]; omega
   generalize hz:(b-1)-(c-a)=pv at *
   push_cast [bO,c9,b6,b8,q,s,u,z,p,w,i,zaa,zac,zab]
   refine a6 o rfl (uu (Go.Sort.reverseRange_holds U a b (by omega) (by omega)).1) ?_
   push_cast [bO,c9,b6,b8,hm,ho,hq,q,s,u,z,p,w,i,zaa,zac,zab]
   refine ⟨_,_,_,rfl,rfl,rfl,?_⟩;simp only [aov];exact ⟨trivial,rfl,trivial⟩
  have hd:h≠.decreasing:=by rintro rfl; simp [apd] at hi
  push_cast [bO,c9,b6,b8,q,s,u,z,p,w,i,zaa,zac,zab]
  refine ⟨_,_,_,rfl,rfl,rfl,?_⟩;rw [if_neg hd,if_neg hd,if_neg hd];simp only [aov,and_self]
 ·have h4:M=false:=by simpa using h7
  subst h4;have wl:IntKind.i64.wrap ((g:Int)-1)=((g-1:Nat):Int):=by rw [a5 (by omega)]; omega
  push_cast [bO,c9,b6,b8,zaa,zac,zab]
  have o:=bh1 e a b (by omega) (by omega) (by omega) m;rw [V] at o;have h2:=(Go.Sort.breakPatterns_holds e a b K (by omega)).1;refine a6 o rfl (uu h2) ?_;generalize hp:g-1=I at *
  push_cast [bO,c9,b6,b8,wl,zaa,zac,zab]
  refine ⟨_,_,rfl,rfl,?_⟩;simp only [aov,and_self]
  first | done | simpa using hp
 have h4:M=true:=by simpa using h7
 subst h4
 push_cast [bO,c9,b6,b8,zaa,zac,zab]
 refine ⟨_,_,rfl,rfl,?_⟩;exact ⟨rfl,rfl⟩

open Go.Sort (swp ltInt bitsLen pdq sort Below)
def dk:Mk P0 f119:={ x:=_ }
theorem bmu (m:Nat):∀N,bdd m N:=by
 intro N
 induction N using Nat.strongRecOn with
 | _ N ih=>exact bbf m N ih
def zx (ws:List Int):List Int:=ws.mergeSort (λ x y=>decide (x<=y))
def be (ws:List Int):List RV:=ws.map λ n=>RV.v (.int .u64 n)
def j7 (ws:List Int):Ob:=.row 1 (.v (.int .u64 0)) true true (be ws)
theorem aqp (ws:List Int):(zx ws).length=ws.length:=List.length_mergeSort ..
theorem az1 (ws:List Int) (m:Nat):kb (ws.map λ n=>Value.int .u64 n) m=bc ws.toArray m:=by
 simp [kb,bc,bu,Function.comp_def]
theorem j8 (ws:List Int):(be ws).length=ws.length:=by simp [be]
theorem bff (d:Array Int) (a:d.size<50) (m:Nat):a8 P0 119 [.own 1000000 0 0 d.size] [bO d m] (.tup []) [bO (sort ltInt d) m]:=by
 refine dk.t func119 ?_;have c:bitsLen d.size<=6:=(Go.Sort.bitsLen_le_iff d.size 6).2 (by omega);have w:IntKind.u64.wrap (d.size:Int)=d.size:=aar (by omega)
 push_cast [dk,bO,c9,b6,b8,w,zae,zad,zaa,zac,zab]
 refine a6 (az2 d.size (by omega)) rfl trivial ?_
 push_cast [bO,c9,b6,b8,w,zae,zad,zaa,zac,zab]
 have b:=bmu m d.size d 0 d.size (bitsLen d.size) (by omega) (by omega) (by omega) a (by omega) (.inl rfl);refine a6 b rfl (uu (Go.Sort.pdq_sorts ltInt Go.Sort.swo_ltInt d 0 d.size _ true true (by omega) (by omega) (.inl rfl)).1.1) ?_
 push_cast [bO,c9,b6,b8,w,zae,zad,zaa,zac,zab]
 rfl
def vu (ws:List Int):List Value:=ws.map λ n=>Value.int .u64 n
theorem a5r (ws:List Int):(vu ws).length=ws.length:=by simp [vu]
theorem a5q (ws:List Int):(vu ws).map RV.v=be ws:=by simp [vu,be,Function.comp_def]
theorem bi9 (ws:List Int) (a:ws.length<50) (m:Nat):a8 P0 119 [.own 1000000 0 0 ws.length] [.box (kb (vu ws) m)] (.tup []) [.box (kb (vu (zx ws)) m)]:=by
 have:=bff ws.toArray (by simpa using a) m;unfold vu;rw [az1,az1]
 have e:(zx ws).toArray=sort ltInt ws.toArray:=by
  have:=Go.Sort.sortInt ws;unfold zx;rw [<- this]
 rw [e];simpa [bO] using this
theorem bmm (ws a:List Int) (h:a.length=ws.length) (m:Nat):ct [.box (kb (vu ws) m)] [.box (kb (vu a) m)]:=⟨by simp [kb,a5r,h],trivial⟩
theorem anv (a:List Value) (m:Nat):o6 (kb a m)=[]:=anw _ λ x hx=>by
 rcases zat.1 hx with hx | hx
 ·obtain ⟨n,_,rfl⟩:=zam.1 hx
  rfl
 rw [(List.mem_replicate.1 hx).2]; rfl
theorem azc (F:Ren) (a:List Value) (m:Nat):imL F (kb a m)=kb a m:=vt F _ (anv a m)
theorem bg1:a8 P0 204 [.r (.sl 1 []),int .i64 0,int .i64 0] [] (.tup []) []:=by
 refine am.t func204 ?_;have g:decide (IntKind.i64.wrap (0+1)<0)=false:=by decide
 simp only [am,push_cast,↓reduceIte,reduceCtorEq,zA];refine b9 [(6,false),(2,false)] (λ vs pos a=>vs=[int .i64 (IntKind.i64.wrap (0+1)),int .i64 0]/\pos=[]/\a=[]) (λ _ _ _=>0) rfl ?_ ?_
 ·simp only [push_cast,↓reduceIte,reduceCtorEq,zE,zA]
 rintro vs pos a ⟨rfl,rfl,rfl⟩;simp only [g,push_cast,↓reduceIte,zE,zA,zL]
theorem bgn:a8 P0 168 [.r (.sl 1 []),int .i64 0,int .i64 0,int .i64 0] [] (.tup []) []:=by
 refine cb.t func168 ?_;have g:decide ((0:Int)<=12)=true:=by decide
 have w:IntKind.i64.wrap (0-0)=0:=rfl;simp only [cb,push_cast,zA];refine b9 [(8,false),(9,false),(0,false),(1,false),(2,false),(3,false)] (λ vs pos a=>vs=[bl true,bl true,.r (.sl 1 []),int .i64 0,int .i64 0,int .i64 0]/\pos=[]/\a=[]) (λ _ _ _=>0) rfl ?_ ?_
 ·simp only [push_cast,↓reduceIte,reduceCtorEq,zE,zA]
 rintro vs pos a ⟨rfl,rfl,rfl⟩;simp only [w,g,push_cast,↓reduceIte,reduceCtorEq,zE,zL];refine a6 bg1 rfl trivial ?_;simp only [push_cast,zA]
theorem baj:a8 P0 119 [.r (.sl 1 [])] [] (.tup []) []:=by
 refine dk.t func119 ?_
 push_cast [dk,zae,zad]
 refine a6 (az2 0 (by decide)) rfl trivial ?_
 push_cast
 refine a6 bgn rfl trivial ?_
 push_cast

def gh:Mk P0 f69:={ x:=_ }
theorem ah5:a0c 69 2 gh:=apf func69
def kI (e:MapEntry):Int:=match e.key with | .int _ n=>n | _=>0
def beh (es:List MapEntry) (c:Nat):Prop:=(∀e∈es,e.key=.int .u64 (kI e))/\(es.map (·.born)).Nodup/\∀e∈es,e.born<c
theorem bhr {f:Nat->Nat} {es:List MapEntry} {c:Nat} (h:CM f es c):beh es c:=by
 obtain ⟨ws,b,i,j⟩:=h.ex;refine ⟨λ e g=>?_,b.nd,b.lt⟩;have:(e.key,e.val)∈ws.map cnE:=by rw [<- b.kv]; exact zam.2 ⟨e,g,rfl⟩
 obtain ⟨a,_,d⟩:=zam.1 this;simp only [ent,Prod.mk.injEq] at d;simp [kI,<- d.1]
variable {seen:List Nat}
theorem auq {es:List MapEntry} {e:MapEntry} (b:e∈go es seen):(go es (seen++[e.born])).length<(go es seen).length:=by
 have a:go es (seen++[e.born])=(go es seen).filter λ x=>!(x.born == e.born):=by
  unfold go;rw [List.filter_filter];apply List.filter_congr;intro x _;simp only [List.contains_eq_mem,zat,List.mem_singleton,Bool.decide_or,Bool.not_or,Bool.and_comm];by_cases hx:x.born=e.born<;>simp [hx]
 rw [a]
 have:((go es seen).filter λ x=>!(x.born == e.born)).length<(go es seen).length:=by
  rw [List.length_filter_lt_length_iff_exists];exact ⟨e,b,by simp⟩
 exact this
structure Vis (es V:List MapEntry) (seen:List Nat):Prop where
 s:seen=V.map (·.born)
 sub:∀e∈V,e∈es
 nd:seen.Nodup
 b:V.length+(go es seen).length<=es.length
theorem bet (es:List MapEntry):Vis es [] []:=⟨rfl,by simp,by simp,by simp only [zad,zab]; exact List.length_filter_le ..⟩
variable {V:List MapEntry}
theorem Vis.add {es:List MapEntry} (h:Vis es V seen) {e:MapEntry} (f:e∈go es seen):Vis es (V++[e]) (seen++[e.born]):=by
 obtain ⟨g,c⟩:=List.mem_filter.1 f;refine ⟨by rw [h.s]; simp,λ x hx=>?_,?_,by have:=h.b; have:=auq f; simp only [zai,zbg]; omega⟩
 ·rcases zat.1 hx with hx | hx
  ·exact h.sub x hx
  simp at hx; subst hx; exact g
 rw [List.nodup_append];refine ⟨h.nd,by simp,λ a i b d=>?_⟩;simp at d;subst d;rintro rfl;simp at c;exact c i
theorem Vis.all {es:List MapEntry} (h:Vis es V seen) (d:(es.map (·.born)).Nodup) (m:go es seen=[]):V.Perm es:=by
 have k:V.Nodup:=by
  have:=h.nd;rw [h.s] at this;exact (List.pairwise_map.1 this).imp λ {a b} c e=>c (by rw [e])
 have l:es.Nodup:=(List.pairwise_map.1 d).imp λ {a b} c e=>c (by rw [e]);refine (List.perm_ext_iff_of_nodup k l).2 λ x=>⟨h.sub x,λ hx=>?_⟩
 have:¬x∈go es seen:=by rw [m]; simp
 unfold go at this;rw [List.mem_filter,h.s] at this;simp only [hx,true_and,Bool.not_eq_true',List.contains_eq_mem,decide_eq_false_iff_not,Classical.not_not,zam] at this;obtain ⟨y,hy,e⟩:=this;have f:=h.sub y hy;obtain ⟨i,hi⟩:=zav hx;obtain ⟨j,g⟩:=zav f;have:=asy d (i:=i) (j:=j) (x:=x.born) (by simp [hi]) (by simp [g,e]);subst this;rw [hi] at g;cases g;exact hy
theorem awj {es:List MapEntry} (a:(es.map (·.born)).Nodup) {e:MapEntry} (d:e∈es) (seen:List Nat):azp es (seen++[e.born])=some e:=by
 unfold azp;simp only [List.getLast?_append,List.getLast?_singleton,Option.some_or];cases hf:es.find? λ x=>x.born == e.born with
 | none=>
   have:=List.find?_eq_none.1 hf e d;simp at this
 | some y=>
   have hy:=List.mem_of_find?_eq_some hf;have c:=List.find?_some hf;simp at c;obtain ⟨i,hi⟩:=zav d;obtain ⟨j,b⟩:=zav hy;have:=asy a (i:=i) (j:=j) (x:=e.born) (by simp [hi]) (by simp [b,c]);subst this;rw [hi] at b;exact b.symm
theorem avh {a b:List Int} (h:a.Perm b):zx a=zx b:=by
 have d:(zx a).Perm (zx b):=((List.mergeSort_perm a _).trans h).trans (List.mergeSort_perm b _).symm;have tr:∀x y z:Int,decide (x<=y)=true->decide (y<=z)=true->decide (x<=z)=true:=by simp; omega
 have c:∀x y:Int,(decide (x<=y)||decide (y<=x))=true:=by simp; omega
 have g:=List.pairwise_mergeSort tr c a;have e:=List.pairwise_mergeSort tr c b;refine List.Perm.eq_of_pairwise (le:=λ x y=>decide (x<=y)=true) (λ x y _ _ d f=>by simp at d f; omega) g e d
variable {args:List AV} {po:List Ob}
theorem bhw {D:AV->List Ob->Prop} (a:args.length=2) (b:po.length<=1000)
 (h:run P0 po.length (arr po.length [(4,false,none)] D) [.c gh.1.2] ⟨qu 0 args,ob0 po⟩):apq P0 69 args po D:=
 amw (fn:=f69) (c:=(f69.body).getD .skip) (pc:=gh.1.2) (rs:=[(4,false,none)]) func69 rfl (by decide) (by kernel_rfl) (by rw [a]; decide) rfl (by kernel_rfl) (by kernel_rfl) (by decide) b (a0a h)
theorem bfa (V:List MapEntry) (x:Int):zaj V.length (be (V.map kI))++[RV.v (.int .u64 x)]=be (V.map kI++[x]):=by
 rw [zaw (by simp [be])];simp [be]
section
variable {es:List MapEntry} {c:Nat} {ns:List (List Ky)} {ce:Nat->List MapEntry} {cc:Nat->Nat}
theorem a4w {r:Nat} (H:r<13) {E:List MapEntry} {C:Nat} (l:ce r=E) (eC:cc r=C) (h:beh E C) (G:E.length<50) (p:E≠[]) :
 apq P0 69 [.ptr 1000000 0 0,int .i64 r] (z5 es c ns ce cc) λ v os=>∃m,v=.own 1000016 0 0 E.length/\os=z5 es c ns ce cc++[.box (kb (vu (zx (E.map kI))) m)]:=by
 refine bhw rfl (by simp [z5]) ?_;have A:decide ((r:Int)<0)=false:=by simp
 have D:decide ((r:Int)>=13)=false:=by simp; omega
 obtain ⟨K,o⟩:∃K,zx (E.map kI)=K:=⟨_,rfl⟩
 rw [o];obtain ⟨M,n⟩:∃M,1000003+r=M:=⟨_,rfl⟩
 push_cast [gh,z5,A,D,zae,zad]
 rcases (show r=0\/r=1\/r=2\/r=3\/r=4\/r=5\/r=6\/r=7\/r=8\/r=9\/r=10\/r=11\/r=12 by omega) with rfl | rfl | rfl | rfl | rfl | rfl | rfl | rfl | rfl | rfl | rfl | rfl | rfl<;>(
  simp only [Nat.reduceAdd] at n
  push_cast [l,eC,Int.toNat_zero,Int.reduceToNat]
  repeat refine sI ?_
  refine b9 [(5,false),(19,false)] (λ vs pos e=>∃(V:List MapEntry) (seen:List Nat),Vis E V seen/\pos=z5 es c ns ce cc/\∃k,C<=k /\
   (V=[]/\vs=[.nils 1 (.v (.int .u64 0)),.ptr 2000000 0 0]/\e=[.iter (.mp M 0) C seen k] \/
    V≠[]/\vs=[.own 2000000 0 0 V.length,.ptr 2000001 0 0]/\e=[j7 (V.map kI),.iter (.mp M 0) C seen k]))
   (λ _ _ e=>match e with | [.iter _ _ seen _]=>(go E seen).length | [_,.iter _ _ seen _]=>(go E seen).length | _=>0) rfl ?_ ?_
  ·push_cast [z5,l,eC,<- n]
   exact ⟨[],[],bet _,C,zah _,by simp⟩
  rintro vs pos e ⟨V,seen,f,rfl,k,j,⟨u,rfl,rfl⟩ | ⟨u,rfl,rfl⟩⟩
  ·subst u
   push_cast [z5,l,eC,<- n]
   have F:seen=[]:=f.s;refine ayq h.2.2 j (λ i=>?_) (λ d a=>?_)
   ·exfalso;rw [F] at i;unfold go at i;simp at i;exact p (List.eq_nil_iff_forall_not_mem.2 λ x hx=>by simpa using i x hx)
   have w:d.key=.int .u64 (kI d):=h.1 d ((f.add a).sub d (by simp));have t:=awj h.2.1 ((f.add a).sub d (by simp)) seen
   push_cast [w,t,agk,Option.isSome_some]
   repeat refine sI ?_
   exact ⟨⟨[d],_,f.add a,C,zah _,.inr ⟨by simp,rfl,rfl⟩⟩,auq a⟩
  push_cast [z5,l,eC,<- n]
  refine ayq h.2.2 j (λ i=>?_) (λ d a=>?_)
  ·push_cast [j7,be]
   have z:=f.all h.2.1 i;have g:=z.length_eq;refine a9m 2000000 0 (.v (.int .u64 0)) (vu (V.map kI)) (by rw [a5q]; rfl) (by simpa [vu] using u) (λ m=>?_);rw [show zao (λ x=>AV.r (RV.v x)) (vu (V.map kI))++List.replicate m AV.undef=kb (vu (V.map kI)) m from rfl];have q:=bi9 (V.map kI) (by simp; omega) m;rw [avh (z.map kI),o] at q;simp only [zaq] at q
   push_cast [j7,be,anv,azc]
   refine a6 q rfl (bmm _ _ (by rw [<- o,aqp,zaq,zaq,g]) m) ?_
   push_cast [j7,be,anv,azc,g]
   exact ⟨m,by simp⟩
  have w:d.key=.int .u64 (kI d):=h.1 d ((f.add a).sub d (by simp));have t:=awj h.2.1 ((f.add a).sub d (by simp)) seen;have y:=(f.add a).b;simp only [zai,zbg] at y;have B:=g7
  push_cast [w,t,agk,Option.isSome_some,j7,bfa]
  repeat refine sI ?_
  exact ⟨⟨V++[d],_,f.add a,C,zah _,.inr ⟨by simp,by simp,by simp [be]⟩⟩,auq a⟩)
theorem a4y {r:Nat} (j:r<13) (e:ce r=[]) :
 a8 P0 69 [.ptr 1000000 0 0,int .i64 r] (z5 es c ns ce cc) (.nils 1 (.v (.int .u64 0))) (z5 es c ns ce cc):=by
 refine ah5 rfl (by simp [z5]) ?_;have f:decide ((r:Int)<0)=false:=by simp
 have g:decide ((r:Int)>=13)=false:=by simp; omega
 obtain ⟨M,d⟩:∃M,1000003+r=M:=⟨_,rfl⟩
 obtain ⟨C,eC⟩:∃C,cc r=C:=⟨_,rfl⟩
 push_cast [gh,z5,f,g,zae,zad]
 rcases (show r=0\/r=1\/r=2\/r=3\/r=4\/r=5\/r=6\/r=7\/r=8\/r=9\/r=10\/r=11\/r=12 by omega) with rfl | rfl | rfl | rfl | rfl | rfl | rfl | rfl | rfl | rfl | rfl | rfl | rfl<;>(
  simp only [Nat.reduceAdd] at d
  push_cast [e,eC,Int.toNat_zero,Int.reduceToNat]
  repeat refine sI ?_
  refine b9 [(5,false),(19,false)] (λ vs pos a=>vs=[.nils 1 (.v (.int .u64 0)),.ptr 2000000 0 0]/\pos=z5 es c ns ce cc/\a=[.iter (.mp M 0) C [] C])
   (λ _ _ _=>0) rfl ?_ ?_
  ·push_cast [z5,e,eC,<- d]
  rintro vs pos a ⟨rfl,rfl,rfl⟩
  push_cast [z5,e,eC,<- d]
  refine ayq (by simp) (zah _) (λ h=>?_) (λ i b=>?_)
  ·push_cast
   refine a6 baj rfl trivial ?_
   push_cast
  simp [go] at b)
end

def dd:List Nat->List Nat
 | []=>[]
 | a::l=>if a∈dd l then dd l else a::dd l
theorem atl {w:Nat}:∀{l:List Nat},w∈dd l↔w∈l
 | []=>by simp [dd]
 | a::l=>by
   rw [dd];split
   ·rename_i h;rw [atl,zax];constructor
    ·exact .inr
    rintro (rfl | h2)
    ·exact atl.1 h
    exact h2
   rw [zax,zax,atl]
theorem al1:∀(l:List Nat),(dd l).Nodup
 | []=>by simp [dd]
 | a::l=>by
   rw [dd];split
   ·exact al1 l
   rename_i h;exact List.nodup_cons.2 ⟨h,al1 l⟩
theorem a89:∀(l:List Nat),(dd l).length<=l.length
 | []=>by simp [dd]
 | a::l=>by
   have:=a89 l;rw [dd];split<;>simp<;>omega
def aj3 (L:List Pt) (r:Nat):List Nat:=dd (L.map (·.w r))
variable {r:Nat}
theorem ag2 {L:List Pt} {w:Nat}:w∈aj3 L r↔∃p∈L,p.w r=w:=by unfold aj3; rw [atl,zam]
def asI (ws:List Nat):List Int:=ws.map λ n:Nat=>(n:Int)
def bk (L:List Pt) (r:Nat):List Int:=zx (asI (aj3 L r))
theorem azu {L:List Pt} {es:List MapEntry} {c:Nat} (h:CM (cnt L r) es c):(es.map kI).Perm (asI (aj3 L r)):=by
 obtain ⟨ws,g,f,d⟩:=h.ex
 have e:es.map kI=asI (ws.map (·.1)):=by
  have:=congrArg (zao λ q:Value×Value=>match q.1 with | .int _ n=>n | _=>(0:Int)) g.kv;simp only [List.map_map,Function.comp_def,ent] at this;unfold asI;rw [List.map_map];exact this
 rw [e];refine List.Perm.map _ ((List.perm_ext_iff_of_nodup f (al1 _)).2 λ w=>?_);rw [show dd (L.map (·.w r))=aj3 L r from rfl,ag2,zam];constructor
 ·rintro ⟨a,i,rfl⟩;have:=((d a.1 a.2).1 i).2;unfold cnt at this;rw [List.countP_pos_iff] at this;obtain ⟨p,b,e⟩:=this;exact ⟨p,b,by simpa using e⟩
 rintro ⟨p,b,rfl⟩;refine ⟨(p.w r,_),(d _ _).2 ⟨rfl,?_⟩,rfl⟩;unfold cnt;rw [List.countP_pos_iff];exact ⟨p,b,by simp⟩
theorem aho (L:List Pt) (r:Nat):(bk L r).length<=L.length:=by
 unfold bk asI;rw [aqp,zaq];exact Nat.le_trans (a89 _) (by simp)
theorem bll {L:List Pt} {es:List MapEntry} {c:Nat} (h:CM (cnt L r) es c):es.length=(bk L r).length:=by
 have:=(azu h).length_eq;unfold bk;rw [aqp,<- this,zaq]
section
variable {L:List Pt} {es:List MapEntry} {c:Nat} {ns:List (List Ky)} {ce:Nat->List MapEntry} {cc:Nat->Nat}
theorem bcv (h:StL L es c ns ce cc) (m:L.length<50) (r:Nat) (g:r<13) :
 a8 P0 69 [.ptr 1000000 0 0,int .i64 r] (z5 es c ns ce cc) (.own 1000016 0 0 (bk L r).length) (z5 es c ns ce cc++[j7 (bk L r)]):=by
 have e:=h.cm r g;have k:=bhr e;have b:=bll e;have j:=aho L r;have f:zx ((ce r).map kI)=bk L r:=avh (azu e);have i:∀o∈z5 es c ns ce cc,imO (vd 16) o=o:=(SF L).shut ⟨es,c,ns,ce,cc,h,rfl⟩;by_cases d:ce r=[]
 ·have l:bk L r=[]:=List.length_eq_zero_iff.1 (by rw [<- b,d]; rfl);rw [l];have a:=a4y (es:=es) (c:=c) (ns:=ns) (cc:=cc) g d;exact bgt (os:=z5 es c ns ce cc) (by simp [z5]) i a
 have a:=a4w (es:=es) (c:=c) (ns:=ns) g rfl rfl k (by omega) d;rw [f,b] at a
 have:=bme (os:=z5 es c ns ce cc) (ys:=vu (bk L r)) (z:=.v (.int .u64 0)) (a5r _) (by simp [z5]) i (λ y hy=>by
  obtain ⟨n,_,rfl⟩:=zam.1 hy
  rfl) a
 rw [a5q] at this;exact this
end
theorem bhv (L:List Pt) (b:L.length<50) (r:Nat) (d:r<13):a8 P0 69 [.ptr 1000000 0 0,int .i64 r] [.abs (sT L)] (.own 1000001 0 0 (bk L r).length) [.abs (sT L),j7 (bk L r)]:=
 bbi (F:=SF L) (F':=SF L) rfl (ex:=[j7 (bk L r)]) (λ os h=>by
  obtain ⟨es,c,ns,e,cc,h,rfl⟩:=h;exact ⟨_,⟨_,_,_,_,_,h,rfl⟩,bcv h b r d⟩) rfl (by
  intro o a;simp at a;subst a;intro x hx;obtain ⟨n,_,rfl⟩:=zam.1 hx
  trivial) (by simp [bj])

def zn:Mk P0 f37:={ x:=_ }
def tw (t:Til) (n:Int):Bool:=tch (s7 n.toNat t.r.toNat) t.r.toNat (2^(30-t.z).toNat) t.x t.y
def bg (L:List Pt) (t:Til):List Int:=(bk L t.r.toNat).filter (tw t)
theorem ats {L:List Pt} {n:Int} (h:(bk L r)[i]?=some n):∃p∈L,n=((p.w r:Nat):Int):=by
 have a:=zbd h;unfold bk zx at a;rw [List.mem_mergeSort] at a;obtain ⟨w,c,rfl⟩:=zam.1 a;obtain ⟨p,b,e⟩:=ag2.1 c;exact ⟨p,b,by rw [e]⟩
variable {ws:List Int}
theorem aj {n:Int} (h:ws[i]?=some n) (z:RV):(be ws).getD ((i:Int)).toNat z=.v (.int .u64 n):=by
 simp [List.getD,be,h]
theorem y7 {n:Int} (h:ws[i]?=some n) (z:RV):(be ws).getD (0+((i:Int)).toNat) z=.v (.int .u64 n):=by rw [zab]; exact aj h z
theorem ajm {C:List Int} {f:Int->Bool} {n:Int} (h:C[i]?=some n):(C.take (i+1)).filter f=(C.take i).filter f++(if f n then [n] else []):=by
 rw [List.take_add_one,h,List.filter_append];simp only [Option.toList_some,List.filter_cons,List.filter_nil]
variable {res:AV} {ro:List Ob}
theorem axl (L:List Pt) (X:L.length<50) (I:∀p∈L,p.ok) (t:Til) (ht:t.ok) (l:tis t=true) (hf:cn t=false)
 (g:(bg L t=[]/\res=.tup [.nils 1 (.v (.int .u64 0)),int .i64 0]/\ro=[.abs (sT L)])\/(bg L t≠[]/\res=.tup [.own 1000001 0 0 (bg L t).length,int .i64 0]/\ro=[.abs (sT L),j7 (bg L t)])) :
 a8 P0 37 [t.v,.ptr 1000000 0 0] [.abs (sT L)] res ro:=by
 refine zn.t func37 ?_;have hb:0<=t.z/\t.z<=18/\0<=t.r/\t.r<=12/\0<=t.x/\t.x<2^t.z.toNat/\0<=t.y/\t.y<2^t.z.toNat:=by simpa [tis] using l
 have hO:=bbl t ht;rw [l,hf] at hO;simp only [if_true,Bool.false_eq_true,if_false] at hO;have Y:((0:Int) != 0)=false:=rfl
 push_cast [zn,Til.v,zae,zad]
 refine b5 (as':=[t.v]) rfl ?_;refine a6 hO rfl trivial ?_
 push_cast [Y]
 refine b5 (as':=[t.v]) rfl ?_;refine a6 (azg t l) rfl trivial ?_
 push_cast [bxv]
 obtain ⟨R,O⟩:∃R:Nat,t.r=R:=⟨t.r.toNat,by omega⟩
 have N:=bhv L X R (by omega);rw [O];have V:=aho L R;have u:=λ i n h=>ats (L:=L) (r:=R) (i:=i) (n:=n) h;have Q:bg L t=(bk L R).filter (tw t):=by unfold bg; rw [O,zaa]
 rw [Q] at g;generalize bk L R=C at *;refine a6 N rfl ⟨rfl,trivial⟩ ?_
 push_cast [j7]
 obtain ⟨B,F⟩:∃B,bxv (t.x*2^(30-t.z).toNat) (t.y*2^(30-t.z).toNat) ((t.x+1)*2^(30-t.z).toNat) ((t.y+1)*2^(30-t.z).toNat)=.r B:=⟨_,rfl⟩
 have k:ab9 P0 68=true:=rfl;have W:=g7;have o:=aav l;have h1:=xk (show 0<=t.z/\t.z<=18 by omega)
 have A:∀p∈L,a8 P0 68 [.r B,cel R (s7 (p.w R) R)] [] (bl (tw t ((p.w R:Nat):Int))) []:=λ p H=>by
  have c:=I p H;have T:=mf p.x p.y R c.2.1.1 c.2.1.2 (by omega);obtain ⟨c1,c2,U,c4⟩:=nh R _ T;have P:p.w R=y6 R (g8 p.x p.y R):=rfl;have S:s7 (p.w R) R=g8 p.x p.y R:=by rw [P,U]
  have Z:=aq7 p.x p.y R (by omega)
  have:=ate (g8 p.x p.y R) (R:Int) (by omega) (by rw [zaa]; exact T) (t.x*2^(30-t.z).toNat) (t.y*2^(30-t.z).toNat) ((t.x+1)*2^(30-t.z).toNat) ((t.y+1)*2^(30-t.z).toNat)
   (by rw [zaa]; exact rz (by omega) c.2.1 Z) ⟨o.1.1,by rw [Int.add_mul]; omega,o.1.2⟩ ⟨o.2.1,by rw [Int.add_mul]; omega,o.2.2⟩
  rw [F] at this
  have e:tw t ((p.w R:Nat):Int)=ca (g8 p.x p.y R) R (3*(t.x*2^(30-t.z).toNat)) (3*(t.y*2^(30-t.z).toNat)) (3*((t.x+1)*2^(30-t.z).toNat)) (3*((t.y+1)*2^(30-t.z).toNat)):=by
   unfold tw tch;rw [zaa,O,zaa,S]
  rw [e,S];rw [zaa] at this;exact this
 refine b9 [(26,false),(25,false),(24,false),(7,false),(8,false)] (λ vs pos D=>∃i:Nat,i<=C.length/\pos=[.abs (sT L)] /\
  ((C.take i).filter (tw t)=[]/\vs=[int .i64 i,int .i64 C.length,.own 2000000 0 0 C.length,.fn (.func 68) [.r B] 1,.nils 1 (.v (.int .u64 0))]/\D=[j7 C] \/
   (C.take i).filter (tw t)≠[]/\vs=[int .i64 i,int .i64 C.length,.own 2000000 0 0 C.length,.fn (.func 68) [.r B] 1,.own 2000001 0 0 ((C.take i).filter (tw t)).length]/\D=[j7 C,j7 ((C.take i).filter (tw t))]))
  (λ vs _ _=>match vs with | .r (.v (.int _ j))::_=>(C.length-j).toNat | _=>0) rfl ?_ ?_
 ·unfold bxv at F;cases F
  push_cast [j7]
  exact ⟨0,by omega,by simp⟩
 rintro vs pos D ⟨i,hi,rfl,⟨m,rfl,rfl⟩ | ⟨m,rfl,rfl⟩⟩
 ·have M:True:=trivial
  push_cast [j7]
  refine b7 (λ h=>?_) (λ h=>?_)
  ·have G:i<C.length:=by simpa using h
   obtain ⟨n,s⟩:∃n,C[i]?=some n:=⟨C[i],by simp [G]⟩
   obtain ⟨p,H,rfl⟩:=u i n s;have c:=I p H;have b:=Pt.w_res c (show R<13 by omega);have d:=auv (p.w R) b.2.2 b.1;rw [b.2.1] at d;have J:IntKind.i64.wrap ((i:Int)+1)=(i:Int)+1:=a5 (by omega);have E:=A p H;have a:=ajm (f:=tw t) s
   push_cast [aj s,y7 s,j7,j8,k]
   repeat refine sI ?_
   refine a6 d rfl trivial ?_
   push_cast [cel,k,j7]
   refine b5 (as':=[.r B,cel R (s7 (p.w R) R)]) rfl ?_;refine a6 E rfl trivial ?_
   push_cast [j7]
   refine b7 (λ hc=>?_) (λ hc=>?_)
   ·rw [if_pos hc] at a
    push_cast [J,j7,j8]
    repeat refine sI ?_
    exact ⟨⟨i+1,by omega,.inr ⟨by rw [a]; simp,by rw [a,m]; rfl,by rw [a,m]; rfl⟩⟩,by omega⟩
   rw [if_neg (by rw [hc]; simp)] at a
   push_cast [J,j7,j8]
   exact ⟨⟨i+1,by omega,.inl ⟨by rw [a,m]; rfl,by simp⟩⟩,by omega⟩
  have q:i=C.length:=by
   have:¬i<C.length:=by simpa using h
   omega
  rw [q,zar] at m;rcases g with ⟨K,rfl,rfl⟩ | ⟨K,rfl,rfl⟩
  ·push_cast
  exact absurd m K
 have M:((C.take i).filter (tw t)).length<=50:=Nat.le_trans (List.length_filter_le ..) (by simp; omega)
 push_cast [j7]
 refine b7 (λ h=>?_) (λ h=>?_)
 ·have G:i<C.length:=by simpa using h
  obtain ⟨n,s⟩:∃n,C[i]?=some n:=⟨C[i],by simp [G]⟩
  obtain ⟨p,H,rfl⟩:=u i n s;have c:=I p H;have b:=Pt.w_res c (show R<13 by omega);have d:=auv (p.w R) b.2.2 b.1;rw [b.2.1] at d;have J:IntKind.i64.wrap ((i:Int)+1)=(i:Int)+1:=a5 (by omega);have E:=A p H;have a:=ajm (f:=tw t) s
  push_cast [aj s,y7 s,j7,j8,k]
  repeat refine sI ?_
  refine a6 d rfl trivial ?_
  push_cast [cel,k,j7]
  refine b5 (as':=[.r B,cel R (s7 (p.w R) R)]) rfl ?_;refine a6 E rfl trivial ?_
  push_cast [j7]
  refine b7 (λ hc=>?_) (λ hc=>?_)
  ·rw [if_pos hc] at a
   push_cast [J,j7,j8]
   repeat refine sI ?_
   exact ⟨⟨i+1,by omega,.inr ⟨by rw [a]; simp,by rw [a]; simp,by rw [a]; simp only [be,List.map_append]; rw [zaw (by simp)]; rfl⟩⟩,by omega⟩
  rw [if_neg (by rw [hc]; simp)] at a
  push_cast [J,j7,j8]
  exact ⟨⟨i+1,by omega,.inr ⟨by rw [a]; simpa using m,by rw [a]; simp,by rw [a]; simp [be]⟩⟩,by omega⟩
 have q:i=C.length:=by
  have:¬i<C.length:=by simpa using h
  omega
 rw [q,zar] at m;rw [q,zar];rcases g with ⟨K,rfl,rfl⟩ | ⟨K,rfl,rfl⟩
 ·exact absurd K m
 push_cast [j7]

def agy:Mk P0 f93:={ x:=_ }
def mh (x:Int) (S:List Int):Nat:=(S.takeWhile λ y=>decide (y<x)).length
def mz (x:Int) (S:List Int):List Int:=if S[mh x S]?=some x then S else S.take (mh x S)++x::S.drop (mh x S)
def qj (ws:List Int):List Int:=ws.foldl (λ S x=>mz x S) []
def Up (S:List Int):Prop:=S.Pairwise (· < ·)
theorem bhm (x:Int) (S:List Int):mh x S<=S.length:=(List.takeWhile_sublist _).length_le
theorem au4 {x:Int}:∀{S:List Int} {j:Nat} {y:Int},j<mh x S->S[j]?=some y->y<x
 | [],j,y,h,hy=>by simp at hy
 | a::S,j,y,h,hy=>by
   unfold mh at h;rw [List.takeWhile_cons] at h;by_cases b:a<x
   ·simp only [b,decide_true,if_true,zae] at h;cases j with
    | zero=>simp at hy; omega
    | succ j=>exact au4 (S:=S) (j:=j) (by unfold mh; omega) (by simpa using hy)
   simp [b] at h
theorem apk {x:Int}:∀{S:List Int},Up S->∀{j:Nat} {y:Int},mh x S<=j->S[j]?=some y->x<=y
 | [],_,j,y,h,hy=>by simp at hy
 | a::S,hS,j,y,h,hy=>by
   have c:=List.pairwise_cons.1 hS;unfold mh at h;rw [List.takeWhile_cons] at h;by_cases d:a<x
   ·simp only [d,decide_true,if_true,zae] at h;obtain ⟨b,rfl⟩:∃b,j=b+1:=⟨j-1,by omega⟩
    exact apk (S:=S) c.2 (j:=b) (by unfold mh; omega) (by simpa using hy)
   cases j with
   | zero=>simp at hy; omega
   | succ j=>
     have:=c.1 y (zbd (by simpa using hy));omega
variable {S:List Int} {k:Nat}
theorem bhn (c:Up S) (f:k<=S.length) (e:∀j y,j<k->S[j]?=some y->y<x) (d:∀j y,k<=j->S[j]?=some y->x<=y):mh x S=k:=by
 have hc:=bhm x S;rcases Nat.lt_trichotomy (mh x S) k with h | h | h
 ·obtain ⟨y,hy⟩:∃y,S[mh x S]?=some y:=⟨S[mh x S]'(by omega),by simp [show mh x S<S.length by omega]⟩
  have a:=e _ y h hy;have b:=apk c (zah _) hy;omega
 ·exact h
 obtain ⟨y,hy⟩:∃y,S[k]?=some y:=⟨S[k]'(by omega),by simp [show k<S.length by omega]⟩
 have a:=au4 h hy;have b:=d k y (zah _) hy;omega
theorem bb1 {y:Int}:y∈mz x S↔y=x\/y∈S:=by
 unfold mz;split
 ·rename_i h;constructor
  ·exact .inr
  rintro (rfl | h2)
  ·exact zbd h
  exact h2
 rw [zat,zax]
 conv=>rhs; rw [<- List.take_append_drop (mh x S) S,zat]
 constructor
 ·rintro (h | h | h)
  ·exact .inr (.inl h)
  ·exact .inl h
  exact .inr (.inr h)
 rintro (h | h | h)
 ·exact .inr (.inl h)
 ·exact .inl h
 exact .inr (.inr h)
theorem bg2 (d:Up S):Up (mz x S):=by
 unfold mz;split
 ·exact d
 rename_i i
 have h:∀y∈S.take (mh x S),y<x:=λ y hy=>by
  obtain ⟨j,c⟩:=zav hy;rw [List.getElem?_take] at c;split at c
  ·exact au4 (by assumption) c
  cases c
 have g:∀y∈S.drop (mh x S),x<y:=λ y hy=>by
  obtain ⟨j,c⟩:=zav hy;rw [List.getElem?_drop] at c;have p:=apk (x:=x) d (by omega) c
  have q:x≠y:=λ e=>by
   subst e;have f:mh x S<S.length:=by have:=(zak.1 c).1; omega
   obtain ⟨z,m⟩:∃z,S[mh x S]?=some z:=⟨S[mh x S],by simp [f]⟩
   have r:=apk (x:=x) d (zah _) m;by_cases k:j=0
   ·subst k; exact i c
   have o:=(zbh.1 d) (mh x S) (mh x S+j) f (by have:=(zak.1 c).1; omega) (by omega);rw [(zak.1 m).2,(zak.1 c).2] at o;omega
  omega
 unfold Up at *;rw [List.pairwise_append,List.pairwise_cons];refine ⟨d.sublist (List.take_sublist ..),⟨g,d.sublist (List.drop_sublist ..)⟩,λ a n b l=>?_⟩;rcases zax.1 l with rfl | l
 ·exact h a n
 have:=h a n;have:=g b l;omega
theorem aiz:∀(ws S:List Int),Up S->Up (ws.foldl (λ S x=>mz x S) S)/\∀y,y∈ws.foldl (λ S x=>mz x S) S↔y∈S\/y∈ws
 | [],S,h=>⟨h,by simp⟩
 | x::ws,S,h=>by
   obtain ⟨b,a⟩:=aiz ws (mz x S) (bg2 h);refine ⟨b,λ y=>?_⟩;rw [List.foldl_cons,a,bb1,zax];constructor
   ·rintro ((h | h) | h)
    ·exact .inr (.inl h)
    ·exact .inl h
    exact .inr (.inr h)
   rintro (h | h | h)
   ·exact .inl (.inr h)
   ·exact .inl (.inl h)
   exact .inr h
theorem bb2 (x:Int) (S:List Int):(mz x S).length<=S.length+1:=by
 unfold mz;split
 ·omega
 rw [zai,zae,zbe,zas];omega

section
variable {P:Program} {f:FuncId}
theorem bbr {os:List Ob} {sz:Nat} {z:RV} {y:Value} (h2:po.length<=os.length) (R:∀o∈os,imO (vd os.length) o=o)
 (h:a8 P f args po (.tup [.nils sz z,.r (.v y)]) os):a8 P f args po (.tup [.own (1000000+os.length) 0 0 0,.r (.v y)]) (os++[.row sz z true true []]):=by
 intro w p ρ B N hB hM T t;refine (h w p ρ B N hB hM T t).mono ?_;rintro e K ⟨c,ρ',rfl,m,hr⟩
 obtain ⟨cs,rfl,M,G⟩:∃cs:Array Value,c=.tuple cs/\cs.size=2/\∀(i:Nat) (x:AV) (d:Value),([.nils sz z,.r (.v y)]:List AV)[i]?=some x->cs[i]?=some d->RelA K (g9 B (ob0 os) ρ' K) (ob0 os) ρ' x d:=by
  cases hr with
  | tup _ cs hl h=>exact ⟨cs,rfl,hl,h⟩
 have I:∀(x:Ob) (i:Nat) (o:Ob),os[i]?=some o->ob0 (os++[x]) (1000000+i)=some (0,o):=λ x i o g=>l7 (by rw [zay (zak.1 g).1]; exact g);have U:∀x:Ob,ob0 (os++[x]) (1000000+os.length)=some (0,x):=λ x=>l7 (by simp)
 have J:∀(y:Ob) (id:Nat) (x:Nat×Ob),ob0 (os++[y]) id=some x->(∃i o,i<os.length/\id=1000000+i/\os[i]?=some o/\x=(0,o))\/(id=1000000+os.length/\x=(0,y)):=λ y id x hx=>by
  obtain ⟨i,hi,rfl,g,hv⟩:=eg hx;by_cases E:i<os.length
  ·rw [zay E] at g;exact .inl ⟨i,x.2,E,rfl,g,by rw [<- hv]⟩
  have:i=os.length:=by simp at hi; omega
  subst this;rw [List.getElem?_append_right (zah _)] at g;simp at g;exact .inr ⟨rfl,by rw [g,<- hv]⟩
 obtain ⟨a,L,X,r3,r4⟩:∃a:Pl->Option Nat,(∀i,i<os.length->a (.o (1000000+i))=ρ' (.o (1000000+i)))/\(∀i j,i<os.length->a (.s (1000000+i) j)=ρ' (.s (1000000+i) j))/\a (.o (1000000+os.length))=none/\(∀j,a (.s (1000000+os.length) j)=none):=
  ⟨fun | .o i=>if i=1000000+os.length then none else ρ' (.o i) | .s i j=>if i=1000000+os.length then none else ρ' (.s i j),λ i hi=>by simp only; rw [if_neg (by omega)],λ i j hi=>by simp only; rw [if_neg (by omega)],by simp,by simp⟩
 have n:∀(id:Nat) (x:Nat×Ob) (b:Nat),ob0 (os++[Ob.row sz z true true []]) id=some x->foot a id x.2 b->ob0 os id=some x/\foot ρ' id x.2 b:=λ id x b hx l=>by
  rcases J _ id x hx with ⟨i,o,hi,rfl,g,rfl⟩ | ⟨rfl,rfl⟩
  ·refine ⟨l7 g,?_⟩;rcases l with q | ⟨S,j,q⟩
   ·exact .inl (by rw [<- L i hi]; exact q)
   exact .inr ⟨S,j,by rw [<- X i j hi]; exact q⟩
  rcases l with q | ⟨S,j,q⟩
  ·rw [r3] at q; cases q
  cases S
 have k:∀c,g9 B (ob0 os) ρ' K c->g9 B (ob0 (os++[Ob.row sz z true true []])) a K c:=λ c hc=>⟨hc.1,λ ⟨id,v,o,g1,g2,g3⟩=>by
  obtain ⟨C,D⟩:=n id _ c g1 g3
  exact hc.2.1 ⟨id,v,o,C,g2,D⟩,hc.2.2⟩
 have hF:ago (ob0 os) (ob0 (os++[Ob.row sz z true true []])) ρ' a (vd os.length):=λ id ver j u l=>by
  unfold vd at l;split at l
  ·rename_i hc;cases l;obtain ⟨rfl,h1,h3⟩:=hc;obtain ⟨q,rfl⟩:∃q,id=1000000+q:=⟨id-1000000,by omega⟩
   have Z:os[q]?=some (os[q]'(by omega)):=by simp [show q<os.length by omega]
   exact ⟨_,_,l7 Z,I _ q _ Z,L q (by omega),bt.refl _⟩
  cases l
 refine ⟨_,a,rfl,⟨λ id v o hx=>?_,λ id F x x' b hx W l O=>?_,m.keeps,λ id v o b hx l=>?_,λ id b hp=>?_⟩,?_⟩
 ·rcases J _ id _ hx with ⟨i,o',hi,rfl,g,A⟩ | ⟨rfl,A⟩
  ·cases A;have:=(m.obj (1000000+i) 0 o (l7 g)).im k hF (i:=1000000+i) (L i hi) (λ j=>X i j hi)
   rwa [R o (zbd g)] at this
  cases A;exact .inl ⟨rfl,r3,rfl⟩
 ·obtain ⟨C,D⟩:=n id x b hx l;obtain ⟨V,Q⟩:=n F x' b W O;exact m.inj id F x x' b C V D Q
 ·obtain ⟨C,D⟩:=n id _ b hx l;exact m.own id v o b C D
 ·obtain ⟨C,o,D,q3⟩:=m.pin id b hp;obtain ⟨i,hi,rfl,g,_⟩:=eg D;exact ⟨by rw [L i hi]; exact C,o,I _ i o g,q3⟩
 refine .tup _ cs M λ i x d hx Y=>?_
 match i,hx with
 | 0,hx=>
   simp at hx;subst hx;have H:=G 0 _ d rfl Y;cases H;exact .own _ _ _ _ _ rfl ⟨0,_,U _,zah _,λ _=>⟨none,0,rfl,zah _,by simp,by simp,by simp⟩⟩
 | 1,hx=>
   simp at hx;subst hx;have H:=G 1 _ d rfl Y;cases H with
   | r H=>exact .r (H.mono λ b hb=>⟨k b hb,rfl⟩)
end
theorem a97 (L:List Pt) (e:L.length<50) (a:∀p∈L,p.ok) (t:Til) (d:t.ok) (b:tis t=true) (c:cn t=false) :
 a8 P0 37 [t.v,.ptr 1000000 0 0] [.abs (sT L)] (.tup [.own 1000001 0 0 (bg L t).length,int .i64 0]) [.abs (sT L),j7 (bg L t)]:=by
 by_cases h:bg L t=[]
 ·have:=bbr (os:=[.abs (sT L)]) (by simp) (by simp [imO]) (axl L e a t d b c (.inl ⟨h,rfl,rfl⟩));rw [h];exact this
 exact axl L e a t d b c (.inr ⟨h,rfl,rfl⟩)

variable {M:List RV}
theorem bf9 {z x:RV} (h:r<=M.length) :
 (d9 (M++[z]) (r+1) ((((M++[z]).drop r).take (M.length+1-r)).take (M.length+1-(r+1)))).set r x=M.take r++x::M.drop r:=by
 have g:(((M++[z]).drop r).take (M.length+1-r)).take (M.length+1-(r+1))=M.drop r:=by
  rw [List.take_take,Nat.min_eq_left (by omega),List.drop_append_of_le_length h,List.take_append_of_le_length (by rw [zas]; omega),zaw (by rw [zas]; omega)]
 rw [g];apply List.ext_getElem?;intro j;have a:(M++[z]).length=M.length+1:=by simp
 have b:(M.drop r).length=M.length-r:=by simp
 rw [List.getElem?_set,m7 (by rw [a,b]; omega),a,cg (by rw [a,b]; omega),b,List.getElem?_append (l₁:=M.take r)];have f:(M.take r).length=r:=by simp; omega
 rw [f];by_cases d:r=j
 ·subst d;rw [if_pos rfl,if_pos (by omega),if_neg (by omega)];simp
 rw [if_neg d];by_cases c:j<r
 ·rw [if_neg (by omega),if_pos c,zay (by omega),List.getElem?_take,if_pos c]
 rw [if_neg c];obtain ⟨m,rfl⟩:∃m,j=r+1+m:=⟨j-(r+1),by omega⟩
 rw [show r+1+m-r=m+1 by omega,List.getElem?_cons_succ];by_cases e:r+1+m<r+1+(M.length-r)
 ·rw [if_pos ⟨by omega,e⟩,show r+1+m-(r+1)=m by omega]
 rw [if_neg (by omega),zbf (by rw [a]; omega),zbf (by rw [b]; omega)]
variable {n:Nat}
theorem bax (z:RV) (c:M.length=n) (h:r<=n) :
 ∃W,spl (M++[z]) (0+((r:Int)+1).toNat) (zaj ((n:Int)+1-((r:Int)+1)).toNat (zaj ((n:Int)+1-(r:Int)).toNat (zap (0+((r:Int)).toNat) (M++[z]))))=W /\
  W.length=n+1/\(∀x,W.set r x=M.take r++x::M.drop r)/\W[r]?=(M++[z])[r]?:=by
 refine ⟨_,rfl,?_⟩;subst c;have f:0+((r:Int)+1).toNat=r+1:=by omega
 have d:((M.length:Int)+1-((r:Int)+1)).toNat=M.length+1-(r+1):=by omega
 have g:((M.length:Int)+1-(r:Int)).toNat=M.length+1-r:=by omega
 have e:0+((r:Int)).toNat=r:=by omega
 rw [f,d,g,e];unfold spl;have b:(M++[z]).length=M.length+1:=by simp
 have a:r+1+(zaj (M.length+1-(r+1)) (zaj (M.length+1-r) (zap r (M++[z])))).length<=(M++[z]).length:=by
  rw [zbe,zbe,zas,b];omega
 refine ⟨by rw [m7 a,b],λ x=>bf9 h,?_⟩;rw [cg a,if_neg (by omega)]
theorem axs (C:List Int):zaj C.length (be C)=be C:=zaw (by rw [j8]; omega)
theorem a1c (ws:List Int) (k:Nat):∃x:Int,(be ws).getD k (.v (.int .u64 0))=.v (.int .u64 x):=by
 rw [List.getD_eq_getElem?_getD];unfold be;rw [List.getElem?_map];cases ws[k]? with
 | none=>exact ⟨0,rfl⟩
 | some x=>exact ⟨x,rfl⟩
theorem bg0 (S:List Int) (h:r<=S.length) :
 ∃(W:List RV) (g:Int),spl (be S++[.v (.int .u64 0)]) (0+((r:Int)+1).toNat) (zaj ((S.length:Int)+1-((r:Int)+1)).toNat (zaj ((S.length:Int)+1-(r:Int)).toNat (zap (0+((r:Int)).toNat) (be S++[.v (.int .u64 0)]))))=W /\
  W.getD (0+((r:Int)).toNat) (.v (.int .u64 0))=.v (.int .u64 g)/\∀x:Int,W.set (0+((r:Int)).toNat) (.v (.int .u64 x))=be (S.take r++x::S.drop r):=by
 obtain ⟨W,d,f,b,c⟩:=bax (M:=be S) (.v (.int .u64 0)) (r:=r) (n:=S.length) (j8 S) h
 obtain ⟨g,e⟩:∃g:Int,W[r]?=some (.v (.int .u64 g)):=by
  rw [c];by_cases a:r<S.length
  ·exact ⟨S[r],by rw [zay (by rw [j8]; exact a)]; simp [be,a]⟩
  exact ⟨0,by rw [List.getElem?_append_right (by rw [j8]; omega),j8]; simp [show r-S.length=0 by omega]⟩
 refine ⟨W,g,d,by simp [List.getD,e],λ x=>?_⟩;rw [show 0+((r:Int)).toNat=r by omega,b];simp [be,List.map_take,List.map_drop]
theorem awe (h:mz x S=S.take r++x::S.drop r) (a:r<=S.length):mz x S≠[]/\(mz x S).length=S.length+1:=by
 rw [h];refine ⟨by simp,?_⟩;rw [zai,zae,zbe,zas];omega
theorem avn (h:ws[i]?=some x):qj (ws.take (i+1))=mz x (qj (ws.take i)):=by
 unfold qj;rw [List.take_add_one,h,List.foldl_append]
 rfl
theorem ax3 (ws:List Int):(qj ws).length<=ws.length:=by
 have a:∀(l S:List Int),(l.foldl (λ S x=>mz x S) S).length<=S.length+l.length:=λ l=>by
  induction l with
  | nil=>intro S; simp
  | cons x l ih=>
    intro S;have:=ih (mz x S);have:=bb2 x S;simp only [List.foldl_cons,zae];omega
 have:=a ws [];unfold qj;simpa using this
theorem bfj (ws:List Int):Up (qj ws):=(aiz ws [] List.Pairwise.nil).1
theorem bdo (ws:List Int) (hl:ws.length<=1000)
 (q:(qj ws=[]/\res=.nils 1 (.v (.int .u64 0))/\ro=[])\/(qj ws≠[]/\res=.own 1000000 0 0 (qj ws).length/\ro=[j7 (qj ws)])) :
 a8 P0 93 [.r (.sl 1 (be ws))] [] res ro:=by
 refine agy.t func93 ?_;have h2:=g7;simp only [agy,push_cast]
 refine b9 [(4,false),(0,false),(3,false)] (λ vs pos f=>∃i:Nat,i<=ws.length/\pos=[] /\
  (qj (ws.take i)=[]/\vs=[int .i64 i,.r (.sl 1 (be ws)),.nils 1 (.v (.int .u64 0))]/\f=[] \/
   qj (ws.take i)≠[]/\vs=[int .i64 i,.r (.sl 1 (be ws)),.own 2000000 0 0 (qj (ws.take i)).length]/\f=[j7 (qj (ws.take i))]))
  (λ vs _ _=>match vs with | .r (.v (.int _ j))::_=>(ws.length-j).toNat | _=>0) rfl ?_ ?_
 ·simp only [push_cast,↓reduceIte,reduceCtorEq,zE,zA];exact ⟨0,by omega,.inl ⟨rfl,rfl⟩⟩
 rintro vs pos f ⟨i,hi,rfl,⟨z,rfl,rfl⟩ | ⟨z,rfl,rfl⟩⟩
 ·simp only [j8,push_cast,↓reduceIte,reduceCtorEq,zE];refine b7 (λ h=>?_) (λ h=>?_)
  ·have A:i<ws.length:=by simpa using h
   obtain ⟨x,hx⟩:∃x,ws[i]?=some x:=⟨ws[i],by simp [A]⟩
   have B:IntKind.i64.wrap ((i:Int)+1)=(i:Int)+1:=a5 (by omega);have k:=avn hx;rw [z] at k;have F:qj (ws.take (i+1))=[x]:=by rw [k]; rfl
   have d0:decide ((0:Int)<0)=false:=by decide
   simp only [push_cast,↓reduceIte,reduceCtorEq,zE];refine b9 [(5,false),(6,false),(4,false),(0,false),(3,false)] (λ vs pos f=>vs=[int .i64 0,int .i64 0,int .i64 i,.r (.sl 1 (be ws)),.nils 1 (.v (.int .u64 0))]/\pos=[]/\f=[]) (λ _ _ _=>0) rfl ?_ ?_
   ·simp only [push_cast,↓reduceIte,reduceCtorEq,zE,zA]
   rintro vs pos f ⟨rfl,rfl,rfl⟩;simp only [d0,aj hx,j8,B,push_cast,↓reduceIte,reduceCtorEq,zE,zA,zL,zD,zM]
   repeat refine sI ?_
   have M:IntKind.i64.wrap (0+1)=1:=rfl;have R:spl [RV.v (Value.int IntKind.u64 0)] (0+zan 1) (zaj (1-1:Int).toNat (zaj (1-0:Int).toNat (zap (0+zan 0) [RV.v (Value.int IntKind.u64 0)])))=[RV.v (Value.int IntKind.u64 0)]:=rfl;simp only [M,R];refine ⟨⟨i+1,by omega,.inr ⟨by rw [F]; simp,?_⟩⟩,by omega⟩;rw [F];exact ⟨rfl,rfl⟩
  have d:i=ws.length:=by
   have:¬i<ws.length:=by simpa using h
   omega
  rw [d,zar] at z;rcases q with ⟨I,rfl,rfl⟩ | ⟨I,rfl,rfl⟩
  ·simp only [push_cast,↓reduceIte,reduceCtorEq,zE,zA]
  exact absurd z I
 have h4:=ax3 (ws.take i);have h1:(ws.take i).length<=1000:=by simp; omega
 have u:=bfj (ws.take i);simp only [j8,j7,push_cast,↓reduceIte,reduceCtorEq,zE];refine b7 (λ h=>?_) (λ h=>?_)
 ·have A:i<ws.length:=by simpa using h
  obtain ⟨x,hx⟩:∃x,ws[i]?=some x:=⟨ws[i],by simp [A]⟩
  have B:IntKind.i64.wrap ((i:Int)+1)=(i:Int)+1:=a5 (by omega);have k:=avn hx;have h3:=k;generalize qj (ws.take i)=S at *;simp only [push_cast,↓reduceIte,reduceCtorEq,zE]
  refine b9 [(5,false),(6,false),(4,false),(0,false),(3,false)] (λ vs pos f=>∃lo hi:Nat,lo<=hi/\hi<=S.length/\(∀j y,j<lo->S[j]?=some y->y<x)/\(∀j y,hi<=j->S[j]?=some y->x<=y) /\
   vs=[int .i64 lo,int .i64 hi,int .i64 i,.r (.sl 1 (be ws)),.own 2000000 0 0 S.length]/\pos=[]/\f=[j7 S])
   (λ vs _ _=>match vs with | .r (.v (.int _ a)) :: .r (.v (.int _ b))::_=>(b-a).toNat | _=>0) rfl ?_ ?_
  ·simp only [j7,push_cast,↓reduceIte,reduceCtorEq,zE,zA,zL,zD];refine ⟨0,S.length,by omega,by omega,λ j y N=>by omega,λ j y N hy=>?_,rfl⟩;rw [zbf (by omega)] at hy;cases hy
  rintro vs pos f ⟨lo,d,g1,J,g3,g4,rfl,rfl,rfl⟩;simp only [j7,push_cast,↓reduceIte,zE];refine b7 (λ hc=>?_) (λ hc=>?_)
  ·have H:lo<d:=by simpa using hc
   obtain ⟨m,hm⟩:∃m,(lo+d)/2=m:=⟨_,rfl⟩
   have w1:IntKind.i64.wrap ((lo:Int)+d)=(lo:Int)+d:=a5 (by omega);have O:((lo:Int)+d).tdiv 2=(m:Int):=by rw [zau (by omega)]; omega
   have Z:IntKind.i64.wrap (m:Int)=(m:Int):=a5 (by omega);have w4:IntKind.i64.wrap ((m:Int)+1)=(m:Int)+1:=a5 (by omega);obtain ⟨ym,g⟩:∃y,S[m]?=some y:=⟨S[m]'(by omega),by simp [show m<S.length by omega]⟩
   simp only [w1,O,Z,aj hx,y7 g,j8,push_cast,↓reduceIte,reduceCtorEq,zE,zA,zL]
   repeat refine sI ?_
   refine b7 (λ T=>?_) (λ T=>?_)
   ·have L:ym<x:=by simpa using T
    simp only [w4,push_cast,↓reduceIte,reduceCtorEq,zE,zA,zL,zD];refine ⟨⟨m+1,d,by omega,by omega,λ j y N hy=>?_,g4,by simp⟩,by omega⟩;by_cases w:j=m
    ·subst w; rw [g] at hy; cases hy; exact L
    have:=(zbh.1 u) j m (zak.1 hy).1 (zak.1 g).1 (by omega);rw [(zak.1 hy).2,(zak.1 g).2] at this;omega
   have P:x<=ym:=by simpa using T
   simp only [push_cast,↓reduceIte,reduceCtorEq,zE,zA,zL,zD];refine ⟨⟨lo,m,by omega,by omega,g3,λ j y N hy=>?_,by simp⟩,by omega⟩;by_cases w:j=m
   ·subst w; rw [g] at hy; cases hy; exact P
   have:=(zbh.1 u) m j (zak.1 g).1 (zak.1 hy).1 (by omega);rw [(zak.1 hy).2,(zak.1 g).2] at this;omega
  have H:lo=d:=by
   have:¬lo<d:=by simpa using hc
   omega
  subst H;have o:=bhn u J g3 g4;have Y:IntKind.i64.wrap ((lo:Int)+1)=(lo:Int)+1:=a5 (by omega);obtain ⟨W,gw,G,C,E⟩:=bg0 S J;by_cases D:lo<S.length
  ·obtain ⟨V,l⟩:∃y,S[lo]?=some y:=⟨S[lo],by simp [D]⟩
   have K:decide ((lo:Int)<S.length)=true:=by simp; omega
   by_cases p:V=x
   ·have Q:(V == x)=true:=by simp [p]
    have c:mz x S=S:=by unfold mz; rw [o,l,p,if_pos rfl]
    simp only [K,Q,B,aj hx,y7 l,j8,push_cast,↓reduceIte,reduceCtorEq,zE,zA,zL,zD]
    repeat refine sI ?_
    exact ⟨⟨i+1,by omega,.inr ⟨by rw [k,c]; exact z,by rw [k,c]; rfl,by rw [k,c]⟩⟩,by omega⟩
   have Q:(V == x)=false:=by simp [p]
   have c:mz x S=S.take lo++x::S.drop lo:=by unfold mz; rw [o,l,if_neg (λ e=>p (Option.some.inj e))]
   obtain ⟨s,n⟩:=awe c J;simp only [K,Q,B,Y,aj hx,y7 l,j8,axs,G,C,push_cast,↓reduceIte,reduceCtorEq,zE,zA,zL,zD]
   repeat refine sI ?_
   rw [E];exact ⟨⟨i+1,by omega,.inr ⟨by rw [k]; exact s,by rw [k,n]; simp,by rw [k,c]⟩⟩,by omega⟩
  have K:decide ((lo:Int)<S.length)=false:=by simp; omega
  have c:mz x S=S.take lo++x::S.drop lo:=by unfold mz; rw [o,zbf (by omega),if_neg (by simp)]
  obtain ⟨s,n⟩:=awe c J;obtain ⟨x0,U⟩:=a1c S (0+((lo:Int)).toNat);obtain ⟨x1,X⟩:=a1c S ((lo:Int)).toNat;simp only [K,B,Y,U,aj hx,j8,axs,G,C,push_cast,↓reduceIte,reduceCtorEq,zE,zA,zL,zD]
  repeat refine sI ?_
  rw [E];exact ⟨⟨i+1,by omega,.inr ⟨by rw [k]; exact s,by rw [k,n]; simp,by rw [k,c]⟩⟩,by omega⟩
 have d:i=ws.length:=by
  have:¬i<ws.length:=by simpa using h
  omega
 rw [d,zar] at z |-;rcases q with ⟨I,rfl,rfl⟩ | ⟨I,rfl,rfl⟩
 ·exact absurd I z
 simp only [j7,push_cast,↓reduceIte,reduceCtorEq,zE,zA,zL,zD]

open Go.RowKit
def zig (n:Int):Int:=if 0<=n then 2*n else -2*n-1
theorem axa (x:BitVec 64):(x ^^^ zaf 64 18446744073709551615).toNat=18446744073709551615-x.toNat:=by
 have h:zaf 64 18446744073709551615=BitVec.allOnes 64:=by decide
 rw [h,BitVec.xor_allOnes,BitVec.toNat_not]
theorem a92 (n:Int) (d:-9223372036854775808<=n) (c:n<=9223372036854775807) :
 bits BinOp.xor IntKind.u64 (IntKind.u64.wrap (wrap64 (n*2))) (IntKind.u64.wrap (n/9223372036854775808))=zig n:=by
 have e:IntKind.u64.wrap (wrap64 (n*2))=(n*2)%18446744073709551616:=by
  rw [IntKind.wrap_u64]; unfold wrap64; omega
 rw [e];unfold zig;by_cases h:0<=n
 ·have a:n/9223372036854775808=0:=by omega
  rw [a,if_pos h,u64_xor _ _ (by omega) (by omega) (by decide) (by decide)];have b:(IntKind.u64.wrap 0).toNat=0:=by decide
  rw [b,Nat.xor_zero];omega
 have a:n/9223372036854775808=-1:=by omega
 have b:IntKind.u64.wrap (-1)=18446744073709551615:=by decide
 rw [a,if_neg h,b];show IntKind.u64.wrap ((zaf 64 _ ^^^ zaf 64 18446744073709551615).toNat:Int) = _;rw [axa,zbb,IntKind.wrap_u64];omega
def vi:Nat->Nat->List UInt8
 | 0,_=>[]
 | f+1,n=>if n<128 then [zal n] else zal (n%128+128)::vi f (n/128)
def n6 (n:Nat):List UInt8:=vi 10 n
theorem a99 (f:Nat):∀n,(vi f n).length<=f:=by
 induction f with
 | zero=>intro n; exact zah _
 | succ f ih=>
   intro n;rw [vi];split
   ·simp
   have:=ih (n/128); simp; omega
theorem cj (n:Nat):(n6 n).length<=10:=a99 10 n
theorem ah2 {f:Nat} (h:127<n) (b:n<128^f):∃a,f=a+1/\1<=a/\n/128<128^a/\vi f n=zal (n%128+128)::vi a (n/128):=by
 match f with
 | 0=>simp at b; omega
 | a+1=>
   refine ⟨a,rfl,?_,?_,?_⟩
   ·match a with
    | 0=>simp at b; omega
    | k+1=>omega
   ·rw [Nat.pow_succ] at b;omega
   rw [vi,if_neg (by omega)]
theorem abh {f:Nat} (h:n<=127) (a:1<=f):vi f n=[zal n]:=by
 match f with
 | f'+1=>rw [vi,if_pos (by omega)]
def jk:Nat->Nat->List UInt8->Nat×Nat
 | _,_,[]=>(0,0)
 | i,n,c::t=>
   if (i=9/\1<c.toNat)\/(0<i/\c.toNat=0) then (0,0)
   else if c.toNat<128 then (n+c.toNat%128*2^(7*i),i+1) else jk (i+1) (n+c.toNat%128*2^(7*i)) t
def take (l:List UInt8):Nat×Nat:=jk 0 0 l
theorem ar1 (k m:Nat) (bs:List UInt8) (h:bs.length<=k):jk k m (bs.drop k)=(0,0):=by
 rw [List.drop_eq_nil_of_le h]; rfl
variable {bs:List UInt8}
theorem aql {b:Nat} (h:k<bs.length) (a:bs[k].toNat=b) (hc:(k=9/\1<b)\/(0<k/\b=0)):jk k m (bs.drop k)=(0,0):=by
 rw [zbi h,jk,a,if_pos hc]
theorem avg {b:Nat} (h:k<bs.length) (c:bs[k].toNat=b) (hc:¬((k=9/\1<b)\/(0<k/\b=0))) (a:b<128) :
 jk k m (bs.drop k)=(m+b%128*2^(7*k),k+1):=by
 rw [zbi h,jk,c,if_neg hc,if_pos a]
theorem axt {b:Nat} (h:k<bs.length) (c:bs[k].toNat=b) (hc:¬((k=9/\1<b)\/(0<k/\b=0))) (a:¬b<128) :
 jk k m (bs.drop k)=jk (k+1) (m+b%128*2^(7*k)) (bs.drop (k+1)):=by
 rw [zbi h,jk,c,if_neg hc,if_neg a]
theorem avf {b:Nat} (o:k<=9) (j:m<2^(7*k)) (i:b<256) (a:k=9->b<=1) :
 bits BinOp.or IntKind.u64 (m:Int) (IntKind.u64.wrap (IntKind.u64.wrap (bits BinOp.and IntKind.u8 (b:Int) 127)*2^(7*k)))=((m+b%128*2^(7*k):Nat):Int):=by
 have g:bits BinOp.and IntKind.u8 (b:Int) 127=((b%128:Nat):Int):=by
  have:=u8_and_nat b 127 i (by decide);rw [nat_mask7] at this;exact this
 have l:2^(7*k)<=2^63:=zbc (by decide) (by omega)
 have n:b%128*2^(7*k)<=2^63:=by
  by_cases h:k=9
  ·have:=a h;exact Nat.le_trans (zbj _ (show b%128<=1 by omega)) (by omega)
  have c:2^(7*k)<=2^56:=zbc (by decide) (by omega);exact Nat.le_trans (Nat.mul_le_mul (show b%128<=127 by omega) c) (by decide)
 have d:IntKind.u64.wrap ((b%128:Nat):Int)=((b%128:Nat):Int):=by rw [IntKind.wrap_u64]; omega
 have e:IntKind.u64.wrap (((b%128:Nat):Int)*2^(7*k))=((b%128*2^(7*k):Nat):Int):=by
  have f:((b%128:Nat):Int)*2^(7*k)=((b%128*2^(7*k):Nat):Int):=by simp
  rw [f,IntKind.wrap_u64];generalize b%128*2^(7*k)=x at *;omega
 rw [g,d,e,u64_or_nat _ _ (by omega) (by omega)];congr 1;rw [Nat.or_comm,nat_join (7*k) _ _ (Nat.mul_mod_left _ _) j,Nat.add_comm]
theorem ae7 {b:Nat} (a:m<2^(7*k)):m+b%128*2^(7*k)<2^(7*(k+1)):=by
 have h:b%128*2^(7*k)<=127*2^(7*k):=zbj _ (by omega);rw [show 7*(k+1)=7*k+7 from by omega,Nat.pow_add];omega
theorem a0g:∀(l:List UInt8) (i n:Nat),i<=9->n<2^(7*i)->(jk i n l).1<18446744073709551616/\(jk i n l).2<=10/\((jk i n l).2=0\/(jk i n l).2<=i+l.length):=by
 intro l
 induction l with
 | nil=>intro i n _ _; simp [jk]
 | cons c t ih=>
   intro i n hi f;have hc:=c.toNat_lt;rw [jk];split
   ·simp
   rename_i j;split
   ·rename_i g;refine ⟨?_,by simp; omega,by simp⟩;have:=ae7 (k:=i) (m:=n) (b:=c.toNat) f;by_cases e:i=9
    ·subst e;have o:c.toNat<=1:=by omega
     have h:c.toNat%128*2^(7*9)<=1*2^(7*9):=zbj _ (by omega);simp only at h |-;omega
    have:2^(7*(i+1))<=2^63:=zbc (by decide) (by omega);simp only;omega
   rename_i g;have e:i≠9:=by omega
   obtain ⟨a,b,d⟩:=ih (i+1) _ (by omega) (ae7 (k:=i) (m:=n) (b:=c.toNat) f);refine ⟨a,b,?_⟩;simp only [zae];omega
theorem gc (l:List UInt8):(take l).1<18446744073709551616/\(take l).2<=10/\(take l).2<=l.length:=by
 obtain ⟨a,b,c⟩:=a0g l 0 0 (by omega) (by decide);unfold take;exact ⟨a,b,by omega⟩
abbrev Fld:=Nat×Nat×Nat×List UInt8
def y9 (l:List UInt8):Option (Fld×Nat):=
 if (take l).2=0\/(take l).1/8<1\/1000<(take l).1/8 then none
 else if (take (l.drop (take l).2)).2=0 then none
 else if (take l).1%8=0 then some (((take l).1/8,0,(take (l.drop (take l).2)).1,[]),(take l).2+(take (l.drop (take l).2)).2)
 else if (take l).1%8=2/\(take (l.drop (take l).2)).1<=l.length-(take l).2-(take (l.drop (take l).2)).2 then
  some (((take l).1/8,2,0,(l.drop ((take l).2+(take (l.drop (take l).2)).2)).take (take (l.drop (take l).2)).1),(take l).2+(take (l.drop (take l).2)).2+(take (l.drop (take l).2)).1)
 else none
def fw:Nat->List UInt8->Option (List Nat)
 | _,[]=>some []
 | 0,_::_=>none
 | f+1,c::l=>if (take (c::l)).2=0 then none else (fw f ((c::l).drop (take (c::l)).2)).map ((take (c::l)).1 :: ·)
def fo (l:List UInt8):Option (List Nat):=fw l.length l
def ix:Nat->List UInt8->Option (List Fld)
 | _,[]=>some []
 | 0,_::_=>none
 | f+1,c::l=>match y9 (c::l) with
   | none=>none
   | some (x,k)=>(ix f ((c::l).drop k)).map (x :: ·)
def u7 (l:List UInt8):Option (List Fld):=ix l.length l
theorem lj (f:Nat):fw f []=some []:=by cases f<;>rfl
variable {l:List UInt8}
theorem ah1 {f:Nat} (h:0<l.length) (a:(take l).2=0):fw f l=none:=by
 match f,l,h with
 | 0,c::l,_=>rfl
 | f+1,c::l,_=>rw [fw,if_pos a]
theorem adw {f:Nat} (h:0<l.length) (b:l.length<=f) (e:take l=(n,k)) (d:k≠0):∃a,f=a+1/\fw f l=(fw a (l.drop k)).map (n :: ·):=by
 match f,l,h with
 | 0,c::l,_=>simp at b
 | f+1,c::l,_=>exact ⟨f,rfl,by rw [fw,e,if_neg d]⟩
theorem ln (f:Nat):ix f []=some []:=by cases f<;>rfl
theorem ale {f:Nat} (h:0<l.length) (a:y9 l=none):ix f l=none:=by
 match f,l,h with
 | 0,c::l,_=>rfl
 | f+1,c::l,_=>rw [ix,a]
theorem vn {f:Nat} {x:Fld} (h:0<l.length) (b:l.length<=f) (d:y9 l=some (x,k)):∃a,f=a+1/\ix f l=(ix a (l.drop k)).map (x :: ·):=by
 match f,l,h with
 | 0,c::l,_=>simp at b
 | f+1,c::l,_=>exact ⟨f,rfl,by rw [ix,d]⟩
theorem ab0 {x:Fld} (h:y9 l=some (x,k)):2<=k/\k<=l.length:=by
 obtain ⟨_,_,b⟩:=gc l;obtain ⟨_,_,a⟩:=gc (l.drop (take l).2);rw [zas] at a;unfold y9 at h;split at h
 ·cases h
 split at h
 ·cases h
 split at h
 ·simp only [Option.some.injEq,Prod.mk.injEq] at h;omega
 split at h
 ·simp only [Option.some.injEq,Prod.mk.injEq] at h;omega
 cases h
theorem ags (h:n<256):(zal n).toNat=n:=by simp; omega
theorem a52:∀(f i n m:Nat) (a:List UInt8),1<=f->i<=9->n<128^f->(0<i->0<n)->m<2^(7*i)->m+n*2^(7*i)<18446744073709551616 ->
 jk i m (vi f n++a)=(m+n*2^(7*i),i+(vi f n).length):=by
 intro f
 induction f with
 | zero=>intro i n m a h; omega
 | succ f ih=>
   intro i n m a _ hi d s l g
   have j:i=9->n<=1:=by
    rintro rfl;rw [show 2^(7*9)=9223372036854775808 from by decide] at g;omega
   rw [vi];split
   ·rename_i c;rw [List.singleton_append,jk,ags (by omega),if_neg (by omega),if_pos c,Nat.mod_eq_of_lt c]
    rfl
   rename_i c;have o:i≠9:=λ h=>by have:=j h; omega
   have e:(zal (n%128+128)).toNat=n%128+128:=ags (by omega);have r:(n%128+128)%128=n%128:=by omega
   rw [List.cons_append,jk,e,if_neg (by omega),if_neg (by omega),r]
   have b:m+n%128*2^(7*i)+n/128*2^(7*(i+1))=m+n*2^(7*i):=by
    rw [show 7*(i+1)=7*i+7 from by omega,Nat.pow_add];generalize 2^(7*i)=p;have:n/128*(p*2^7)=(n/128*128)*p:=by rw [Nat.mul_comm p,<- Nat.mul_assoc]
    rw [this,Nat.add_assoc,<- Nat.add_mul];congr 2;omega
   have q:1<=f:=by
    match f with
    | 0=>simp at d; omega
    | k+1=>omega
   rw [ih (i+1) (n/128) _ a q (by omega) (by rw [Nat.pow_succ] at d; omega) (by omega) (ae7 l) (by rw [b]; exact g),b];simp;omega
theorem ak6 (n:Nat) (a:List UInt8) (h:n<18446744073709551616):take (n6 n++a)=(n,(n6 n).length):=by
 unfold take n6;rw [a52 10 0 n 0 a (by omega) (by omega) (Nat.lt_of_lt_of_le h (by decide)) (by omega) (by decide) (by simpa using h)];simp
theorem a98 (f n:Nat) (h:1<=f):0<(vi f n).length:=by
 match f with
 | f+1=>rw [vi]; split<;>simp
theorem ak1 (n:Nat):0<(n6 n).length:=a98 10 n (by omega)
theorem a3a (h:0<l.length) (b:take l=(n,k)) (a:k≠0):fo l=(fw (l.length-1) (l.drop k)).map (n :: ·):=by
 obtain ⟨d,c,e⟩:=adw h (zah _) b a;unfold fo;rw [e];congr 1;congr 1;omega

open Go.RowKit
def bk2:Nat->Nat->Nat
 | 0,_=>0
 | f+1,m=>if m=0 then 0 else 1+bk2 f (m/128)
theorem a5c {b:Nat} (d:b<256):bits BinOp.and IntKind.u64 (b:Int) 127=IntKind.u64.wrap (bits BinOp.and IntKind.u8 (b:Int) 127):=by
 have a:=u8_and_nat b 127 d (by decide);have c:=u64_and_nat b 127 (by omega) (by decide);rw [show ((127:Nat):Int)=127 from rfl,nat_mask7] at a c;rw [a,c,IntKind.wrap_u64];omega
theorem a0f {b:Nat} (d:k<=9) (e:m<2^(7*k)) (a:b<256) (c:k=9->b<=1) :
 bits BinOp.or IntKind.u64 (m:Int) (IntKind.u64.wrap (bits BinOp.and IntKind.u64 (b:Int) 127*2^(7*k)))=((m+b%128*2^(7*k):Nat):Int):=by
 rw [a5c a];exact avf d e a c
variable {tag:Nat}
theorem a32 (a:take l=(tag,k)) (h:k=0\/tag/8<1\/1000<tag/8):y9 l=none:=by
 unfold y9; rw [a,if_pos h]
theorem asp (b:take l=(tag,k)) (a:take (l.drop k)=(n,0)):y9 l=none:=by
 unfold y9; rw [b]; simp only [a]; split<;>rfl
theorem aso (c:take l=(tag,k)) (a:tag%8≠0) (b:tag%8≠2):y9 l=none:=by
 unfold y9; rw [c]; simp only [if_neg a,b,false_and,if_false]; split<;>(try rfl); split<;>rfl
theorem asn (c:take l=(tag,k)) (b:take (l.drop k)=(n,j)) (a:tag%8≠0) (d:l.length-k-j<n):y9 l=none:=by
 unfold y9; rw [c]; simp only [b,if_neg a];rw [if_neg (show ¬(tag%8=2/\n<=l.length-k-j) by omega)];split<;>(try rfl); split<;>rfl
theorem ayo (b:take l=(tag,k)) (a:take (l.drop k)=(n,j)) (c:¬(k=0\/tag/8<1\/1000<tag/8)) (e:j≠0) (d:tag%8=0) :
 y9 l=some ((tag/8,0,n,[]),k+j):=by
 unfold y9; rw [b]; simp only [a,if_neg c,if_neg e,if_pos d]
theorem av8 (c:take l=(tag,k)) (a:take (l.drop k)=(n,j)) (d:¬(k=0\/tag/8<1\/1000<tag/8)) (f:j≠0) (e:tag%8=2) (b:n<=l.length-k-j) :
 y9 l=some ((tag/8,2,0,(l.drop (k+j)).take n),k+j+n):=by
 unfold y9; rw [c]; simp only [a,if_neg d,if_neg f,e];rw [if_neg (by omega),if_pos ⟨trivial,b⟩]

def av4:Mk P0 f102:={ x:=_ }
def asg:Mk P0 f101:={ x:=_ }
def pw:Mk P0 f103:={ x:=_ }
def asi:Mk P0 f31:={ x:=_ }
def asj:Mk P0 f33:={ x:=_ }
def ask:Mk P0 f55:={ x:=_ }
def anb:Mk P0 f79:={ x:=_ }
def ap3:Mk P0 f56:={ x:=_ }
def ap0:Mk P0 f189:={ x:=_ }
def ap1:Mk P0 f148:={ x:=_ }
def ash:Mk P0 f147:={ x:=_ }
def ap2:Mk P0 f89:={ x:=_ }
def okB (f:Int):Bool:=decide (1<=f/\f<=1000)
theorem bec (f:Int):a8 P0 102 [int .i64 f] [] (bl (okB f)) []:=by
 refine av4.t func102 ?_
 push_cast [av4,zad]
 repeat refine And.intro (by simp +contextual) ?_
 refine ic ?_;simp [okB]
theorem bdy (l:List UInt8) (a:l.length<=140737488355328):a8 P0 101 [sb l] [] (.ptr 1000000 0 0) [.box [.own 1000001 0 0 l.length],rm l]:=by
 refine asg.t func101 ?_
 push_cast [asg,zad]
 have:=g7;refine ⟨by simp,by omega,by rw [zab]⟩
theorem bmw:∀x:Fin 128,(zaf 8 (x.val:Int) ||| zaf 8 128).toNat=x.val+128:=by decide +kernel
theorem ann (U:Int) (b:0<=U) (a:U<18446744073709551616) :
 RV.v (.int .u8 (IntKind.u8.wrap ((zaf IntKind.u8.bits (IntKind.u8.wrap (IntKind.u64.wrap ((zaf IntKind.u64.bits U &&& zaf IntKind.u64.bits 127).toNat))) ||| zaf IntKind.u8.bits 128).toNat)))=by8 (zal (U.toNat%128+128)):=by
 rw [ac2 U 127 7 (by decide) (by decide) b a,IntKind.wrap_u8 (U%2^7)];have e:U%2^7%256=((U.toNat%128:Nat):Int):=by omega
 have:=bmw ⟨U.toNat%128,Nat.mod_lt _ (by decide)⟩;simp only at this;rw [e,show IntKind.u8.bits=8 from rfl,this,IntKind.wrap_u8];simp only [by8];congr 2
theorem afe (U:Int) (b:0<=U) (a:U<=127):RV.v (.int .u8 (IntKind.u8.wrap U))=by8 (zal U.toNat):=by
 rw [IntKind.wrap_u8];simp only [by8];congr 2;simp;omega
theorem ams (l:List UInt8) (n:Int) (p:0<=n) (x:n<18446744073709551616) (A:l.length<=140000000000000) :
 a8 P0 103 [.ptr 1000000 0 0,int .u64 n] [.box [.own 1000001 0 0 l.length],rm l] (.tup []) [.box [.own 1000001 0 0 (l++n6 n.toNat).length],rm (l++n6 n.toNat)]:=by
 refine pw.t func103 ?_;simp only [pw,push_cast,zA];have k:=g7
 refine b9 [(0,false),(1,false)] (λ vs pos a=>∃(U:Int) (f:Nat) (r:List UInt8),0<=U/\U<18446744073709551616/\1<=f/\f<=10/\U.toNat<128^f/\r++vi f U.toNat=l++n6 n.toNat /\
  vs=[.ptr 1000000 0 0,int .u64 U]/\pos=[.box [.own 1000001 0 0 r.length],rm r]/\a=[])
  (λ vs _ _=>match vs with | [_,.r (.v (.int _ j))]=>j.toNat | _=>0) rfl ?_ ?_
 ·simp only [push_cast,↓reduceIte,reduceCtorEq,zB,zE,zA,zS,zL,zD];exact ⟨n,10,l,p,x,by decide,by decide,by omega,rfl,rfl,rfl⟩
 rintro vs pos a ⟨U,f,r,m,o,y,q,z,b,rfl,rfl,rfl⟩
 have u:r.length<=l.length+10:=by
  have c:=congrArg zaz b;have B:=cj n.toNat;rw [zai,zai] at c;omega
 simp only [push_cast,↓reduceIte,reduceCtorEq,zA];refine b7 (λ h=>?_) (λ h=>?_)
 ·have c:127<U:=by simpa using h
  obtain ⟨s,rfl,d,g,hv⟩:=ah2 (f:=f) (n:=U.toNat) (by omega) z;have w:U.fdiv (2^min (zan 7) IntKind.u64.bits)=U/128:=ak9 U 7 (by decide);have i:(U/128).toNat=U.toNat/128:=by omega
  simp only [w,push_cast,↓reduceIte,reduceCtorEq,zB,zE,zA,zS,zL,zD];rw [ann U m o];refine ⟨by simp,by omega,by omega,⟨U/128,s,r++[zal (U.toNat%128+128)],by omega,by omega,d,by omega,by rw [i]; exact g,?_,rfl,by simp⟩,by omega⟩;rw [<- b,hv,i,zba]; rfl
 have c:U<=127:=by
  have:¬(U>127):=by simpa using h
  omega
 have hv:=abh (f:=f) (n:=U.toNat) (by omega) y;rw [hv] at b;simp only [<- b,push_cast,↓reduceIte,reduceCtorEq,zB,zE,zA,zS,zL,zD];rw [afe U m c]
 have e:r.length+1=l.length+(n6 n.toNat).length:=by
  have:=congrArg zaz b;simpa using this
 refine ⟨by simp,by omega,?_⟩;rw [e];simp

open Go Go.RowKit
theorem bek (n:Int) (s:0<=n) (x:n<18446744073709551616) :
 a8 P0 103 [.ptr 1000000 0 0,int .u64 n] [.box [.nils 1 (.v (.int .u8 0))]] (.tup []) [.box [.own 1000001 0 0 (n6 n.toNat).length],rm (n6 n.toNat)]:=by
 refine pw.t func103 ?_;simp only [pw,push_cast,zA];have m:=g7
 refine b9 [(0,false),(1,false)] (λ vs pos c=>∃(U:Int) (f:Nat) (r:List UInt8),0<=U/\U<18446744073709551616/\1<=f/\f<=10/\U.toNat<128^f/\r++vi f U.toNat=n6 n.toNat /\
  vs=[.ptr 1000000 0 0,int .u64 U]/\((r=[]/\pos=[.box [.nils 1 (.v (.int .u8 0))]]/\c=[])\/(pos=[.box [.own 2000000 0 0 r.length]]/\c=[rm r])))
  (λ vs _ _=>match vs with | [_,.r (.v (.int _ j))]=>j.toNat | _=>0) rfl ?_ ?_
 ·simp only [push_cast,↓reduceIte,reduceCtorEq,zA,zS,zL,zD];exact ⟨n,10,[],s,x,by decide,by decide,by omega,rfl,rfl,.inl rfl⟩
 rintro vs pos c ⟨U,f,r,i,l,p,u,q,e,rfl,hc⟩
 have w:r.length<=10:=by
  have a:=congrArg zaz e;have y:=cj n.toNat;rw [zai] at a;omega
 have o:U.fdiv (2^min (zan 7) IntKind.u64.bits)=U/128:=ak9 U 7 (by decide);have g:(U/128).toNat=U.toNat/128:=by omega
 rcases hc with ⟨rfl,rfl,rfl⟩ | ⟨rfl,rfl⟩
 ·simp only [push_cast,↓reduceIte,reduceCtorEq];refine b7 (λ h=>?_) (λ h=>?_)
  ·have a:127<U:=by simpa using h
   obtain ⟨k,rfl,b,d,hv⟩:=ah2 (f:=f) (n:=U.toNat) (by omega) q;simp only [o,push_cast,↓reduceIte,reduceCtorEq,zB,zE,zA,zS,zL,zD,zM];rw [ann U i l];refine ⟨by simp,by omega,by omega,⟨U/128,k,[zal (U.toNat%128+128)],by omega,by omega,b,by omega,by rw [g]; exact d,?_,rfl,.inr ⟨rfl,rfl⟩⟩,by omega⟩;rw [<- e,hv,g]; rfl
  have a:U<=127:=by
   have:¬(U>127):=by simpa using h
   omega
  have hv:=abh (f:=f) (n:=U.toNat) (by omega) p;rw [hv] at e;simp only [<- e,push_cast,↓reduceIte,reduceCtorEq,zB,zE,zA,zS,zL,zD,zM];rw [afe U i a];refine ⟨by simp,by omega,?_⟩;simp
 simp only [push_cast,↓reduceIte,reduceCtorEq];refine b7 (λ h=>?_) (λ h=>?_)
 ·have a:127<U:=by simpa using h
  obtain ⟨k,rfl,b,d,hv⟩:=ah2 (f:=f) (n:=U.toNat) (by omega) q;simp only [o,push_cast,↓reduceIte,reduceCtorEq,zB,zE,zA,zS,zL,zD];rw [ann U i l];refine ⟨by simp,by omega,by omega,⟨U/128,k,r++[zal (U.toNat%128+128)],by omega,by omega,b,by omega,by rw [g]; exact d,?_,rfl,.inr ⟨by simp,by simp⟩⟩,by omega⟩;rw [<- e,hv,g,zba]; rfl
 have a:U<=127:=by
  have:¬(U>127):=by simpa using h
  omega
 have hv:=abh (f:=f) (n:=U.toNat) (by omega) p;rw [hv] at e;simp only [<- e,push_cast,↓reduceIte,reduceCtorEq,zB,zE,zA,zS,zL,zD];rw [afe U i a];refine ⟨by simp,by omega,?_⟩;simp
theorem bio (n:Int) (a:c7 n):IntKind.u64.wrap ((zaf IntKind.u64.bits (IntKind.u64.wrap (IntKind.i64.wrap (n*2))) ^^^ zaf IntKind.u64.bits (IntKind.u64.wrap (n/9223372036854775808))).toNat)=zig n:=by
 have:=a92 n a.1 a.2;rw [show wrap64 (n*2)=IntKind.i64.wrap (n*2) by rw [IntKind.wrap_i64]; unfold wrap64; omega] at this;exact this
theorem ars (n:Int) (b:c7 n):a8 P0 31 [int .i64 n] [] (int .u64 (zig n)) []:=by
 refine asi.t func31 ?_;simp only [asi,push_cast,↓reduceIte,reduceCtorEq,zE,zA];have a:n.fdiv (2^min (zan 63) IntKind.i64.bits)=n/9223372036854775808:=bdn n 63 (by decide);have c:n*2^min (zan 1) IntKind.i64.bits=n*2:=rfl;refine ⟨by decide,by decide,?_⟩;rw [a,c,bio n b]
def q9 (f n:Int):List UInt8:=if okB f then n6 (f*8).toNat++n6 n.toNat else []
def zag (n:Int):Int:=if n%2=0 then n/2 else -(n/2)-1
theorem bip (n:Int) (b:0<=n) (a:n<18446744073709551616):IntKind.i64.wrap ((zaf IntKind.i64.bits (IntKind.i64.wrap (n/2)) ^^^ zaf IntKind.i64.bits (IntKind.i64.wrap (0-IntKind.i64.wrap (n%2)))).toNat)=zag n:=by
 rw [show IntKind.i64.bits=64 from rfl,a5 (x:=n/2) (by omega),a5 (x:=n%2) (by omega),a5 (x:=0-n%2) (by omega)];unfold zag;split
 ·rename_i h;rw [h,show (0:Int)-0=0 by omega,show zaf 64 0=0#64 from rfl,BitVec.xor_zero,zbb,IntKind.wrap_i64];omega
 rename_i h;rw [show n%2=1 by omega,show zaf 64 (0-1)=zaf 64 18446744073709551615 by decide,axa,zbb,IntKind.wrap_i64];omega
theorem bde (n:Int) (c:0<=n) (b:n<18446744073709551616):a8 P0 33 [int .u64 n] [] (int .i64 (zag n)) []:=by
 refine asj.t func33 ?_;simp only [asj,push_cast,↓reduceIte,reduceCtorEq,zE,zA];have d:n.fdiv (2^min (zan 1) IntKind.u64.bits)=n/2:=ak9 n 1 (by decide);have a:=ac2 n 1 1 (by decide) (by decide) c b;rw [show (2:Int)^1=2 from rfl] at a;refine ⟨by decide,?_⟩;rw [d,a,bip n c b]
theorem ahu (n:Int):zag (zig n)=n:=by unfold zag zig; split<;>split<;>omega
theorem aru (n:Int) (b:0<=n) (a:n<18446744073709551616):c7 (zag n):=by unfold zag c7; split<;>omega
theorem asr (l:List UInt8) (f n:Int) (h:c7 f) (g:0<=n) (c:n<18446744073709551616) (i:l.length<=130000000000000) :
 a8 P0 55 [sb l,int .i64 f,int .u64 n] [] (.own 1000000 0 0 (l++q9 f n).length) [rm (l++q9 f n)]:=by
 refine ask.t func55 ?_
 push_cast [ask,zad]
 refine a6 (bdy l (by omega)) rfl trivial ?_
 push_cast
 refine a6 (bec f) rfl trivial ?_;cases hk:okB f with
 | false=>
   push_cast [q9,hk]
   rw [Nat.add_zero]
 | true=>
   have k:1<=f/\f<=1000:=by simpa [okB] using hk
   have b:IntKind.u64.wrap f=f:=by rw [IntKind.wrap_u64]; omega
   have a:IntKind.u64.wrap (f*8)=f*8:=by rw [IntKind.wrap_u64]; omega
   push_cast [q9,hk,b,a]
   refine ⟨by kernel_rfl,?_⟩;refine a6 (ams l (f*8) (by omega) (by omega) (by omega)) rfl ⟨rfl,trivial⟩ ?_;have j:=cj (f*8).toNat;have e:(l++n6 (f*8).toNat).length<=140000000000000:=by rw [zai]; omega
   generalize d:l++n6 (f*8).toNat=m at e
   push_cast [hk,b,a]
   refine ⟨by kernel_rfl,?_⟩;refine a6 (ams m n g c (by omega)) rfl ⟨rfl,trivial⟩ ?_;rw [<- d,zba]
   push_cast
def l8 (f:Int) (x:List UInt8):List UInt8:=if okB f then n6 (f*8+2).toNat++(n6 x.length++x) else []
theorem aeq (l:List UInt8) (f:Int) (x:List UInt8) (v:c7 f) (hx:x.length<=1000000000000) (s:l.length<=130000000000000) :
 a8 P0 79 [sb l,int .i64 f,sb x] [] (.own 1000000 0 0 (l++l8 f x).length) [rm (l++l8 f x)]:=by
 refine anb.t func79 ?_
 push_cast [anb,zad]
 refine a6 (bdy l (by omega)) rfl trivial ?_
 push_cast
 refine a6 (bec f) rfl trivial ?_;have g:=g7;cases hk:okB f with
 | false=>
   push_cast [l8,hk]
   rw [Nat.add_zero]
 | true=>
   have r:1<=f/\f<=1000:=by simpa [okB] using hk
   have h:IntKind.u64.wrap f=f:=by rw [IntKind.wrap_u64]; omega
   have i:IntKind.u64.wrap (f*8)=f*8:=by rw [IntKind.wrap_u64]; omega
   have q:IntKind.u64.wrap (f*8+2)=f*8+2:=by rw [IntKind.wrap_u64]; omega
   obtain ⟨X,c,p,u⟩:∃X:Int,X=x.length/\0<=X/\X<=1000000000000:=⟨_,rfl,by omega,by omega⟩
   have n:IntKind.u64.wrap X=X:=by rw [IntKind.wrap_u64]; omega
   have k:n6 x.length=n6 X.toNat:=by rw [c]; rfl
   push_cast [l8,hk,h,i,q,k,<- c]
   refine ⟨by kernel_rfl,?_⟩;refine a6 (ams l (f*8+2) (by omega) (by omega) (by omega)) rfl ⟨rfl,trivial⟩ ?_;have w:=cj (f*8+2).toNat;have j:(l++n6 (f*8+2).toNat).length<=130000000000010:=by rw [zai]; omega
   rw [<- zba l];generalize e:l++n6 (f*8+2).toNat=m at j;have d:=congrArg zaz e;rw [zai] at d;clear e
   push_cast [hk,h,i,n,<- c]
   refine ⟨by kernel_rfl,?_⟩;refine a6 (ams m X p (by omega) (by omega)) rfl ⟨rfl,trivial⟩ ?_;have y:=cj X.toNat;have o:(m++n6 X.toNat).length<=130000000000020:=by rw [zai]; omega
   rw [<- zba m];generalize a:m++n6 X.toNat=m2 at o;have b:=congrArg zaz a;rw [zai] at b;clear a
   push_cast [<- c]
   refine ⟨by omega,?_⟩;simp;omega
theorem a7m (l:List UInt8) (f:Int) (ns:List Int) (s:c7 f) (u:∀n∈ns,0<=n/\n<18446744073709551616) (x:ns.length<=1000000000) (o:l.length<=130000000000000) :
 a8 P0 56 [sb l,int .i64 f,.r (.sl 1 (ns.map λ n=>.v (.int .u64 n)))] [] (.own 1000000 0 0 (l++l8 f (ns.flatMap λ n=>n6 n.toNat)).length) [rm (l++l8 f (ns.flatMap λ n=>n6 n.toNat))]:=by
 refine ap3.t func56 ?_
 push_cast [ap3,zad]
 have p:=g7;obtain ⟨N,hN,B,A⟩:∃N:Int,N=ns.length/\0<=N/\N<=1000000000:=⟨_,rfl,by omega,by omega⟩
 simp only [<- hN]
 have d:∀i:Nat,((ns.take i).flatMap λ n=>n6 n.toNat).length<=10*i:=λ i=>by
  induction i with
  | zero=>simp
  | succ i ih=>
    rw [List.take_add_one,zbk,zai]
    have:((ns[i]?.toList).flatMap λ n=>n6 n.toNat).length<=10:=by
     cases ns[i]? with
     | none=>simp
     | some n=>simpa using cj n.toNat
    omega
 refine b9 [(0,false),(1,false),(7,false),(12,false),(13,false),(14,false)] (λ vs pos b=>∃(i:Int) (r:List UInt8),0<=i/\i<=N/\r=(ns.take i.toNat).flatMap (λ n=>n6 n.toNat) /\
  vs=[sb l,int .i64 f,.ptr 2000000 0 0,.r (.sl 1 (ns.map λ n=>.v (.int .u64 n))),int .i64 N,int .i64 i]/\pos=[] /\
  ((r=[]/\b=[.box [.nils 1 (.v (.int .u8 0))]])\/b=[.box [.own 2000001 0 0 r.length],rm r]))
  (λ vs _ _=>match vs with | [_,_,_,_,_,.r (.v (.int _ j))]=>(N-j).toNat | _=>0) rfl ?_ ?_
 ·push_cast
  exact ⟨0,[],by omega,by omega,rfl,rfl,.inl rfl⟩
 rintro vs pos b ⟨i,r,w,z,c,rfl,rfl,hc⟩;have g:=d i.toNat;rw [<- c] at g;rcases hc with ⟨rfl,rfl⟩ | rfl
 ·push_cast
  refine b7 (λ h=>?_) (λ h=>?_)
  ·have hi:i<N:=by simpa using h
   have a:i.toNat<ns.length:=by omega
   have e:=u _ (List.getElem_mem a);have k:(zao (λ n=>RV.v (.int .u64 n)) ns).getD i.toNat (.v (.int .u64 0))=.v (.int .u64 ns[i.toNat]):=by simp [List.getD,a]
   have m:IntKind.i64.wrap (i+1)=i+1:=a5 (by omega)
   push_cast [k,<- hN]
   refine ⟨⟨w,hi⟩,?_⟩;refine a6 (bek _ e.1 e.2) rfl ⟨rfl,trivial⟩ ?_
   push_cast [m]
   refine ⟨⟨i+1,n6 (ns[i.toNat]).toNat,by omega,by omega,?_,rfl,.inr rfl⟩,by omega⟩;rw [show (i+1).toNat=i.toNat+1 by omega,List.take_succ_eq_append_getElem a,zbk,<- c];simp
  have hi:i=N:=by
   have:¬i<N:=by simpa using h
   omega
  rw [hi,show N.toNat=ns.length by omega,zar] at c
  push_cast
  refine b5 (as':=[sb l,int .i64 f,sb []]) rfl ?_;refine a6 (aeq l f [] s (by simp) o) rfl trivial ?_;rw [<- c]
  push_cast
 push_cast
 refine b7 (λ h=>?_) (λ h=>?_)
 ·have hi:i<N:=by simpa using h
  have a:i.toNat<ns.length:=by omega
  have e:=u _ (List.getElem_mem a);have k:(zao (λ n=>RV.v (.int .u64 n)) ns).getD i.toNat (.v (.int .u64 0))=.v (.int .u64 ns[i.toNat]):=by simp [List.getD,a]
  have m:IntKind.i64.wrap (i+1)=i+1:=a5 (by omega)
  push_cast [k,<- hN]
  refine ⟨⟨w,hi⟩,?_⟩;refine a6 (ams r _ e.1 e.2 (by omega)) rfl ⟨rfl,trivial⟩ ?_;generalize y:r++n6 (ns[i.toNat]).toNat=q
  push_cast [m]
  refine ⟨⟨i+1,q,by omega,by omega,?_,rfl,.inr rfl⟩,by omega⟩;rw [show (i+1).toNat=i.toNat+1 by omega,List.take_succ_eq_append_getElem a,zbk,<- c,<- y];simp
 have hi:i=N:=by
  have:¬i<N:=by simpa using h
  omega
 rw [hi,show N.toNat=ns.length by omega,zar] at c
 push_cast [<- c]
 refine j9 ?_
 push_cast
 refine b5 (as':=[sb l,int .i64 f,sb r]) rfl ?_;refine a6 (aeq l f r s (by omega) o) rfl trivial ?_
 push_cast

open Go Go.RowKit
theorem bmk {U i C:Int} {b:Nat} (e:U=m) (hi:i=k) (f:C=b) (h:k<=9) (j:m<2^(7*k)) (g:b<256) (a:k=9->b<=1) :
 IntKind.u64.wrap ((zaf IntKind.u64.bits U ||| zaf IntKind.u64.bits (IntKind.u64.wrap (IntKind.u64.wrap (IntKind.u8.wrap ((zaf IntKind.u8.bits C &&& zaf IntKind.u8.bits 127).toNat))*2^min (IntKind.u64.wrap (IntKind.i64.wrap (7*i))).toNat IntKind.u64.bits))).toNat)=((m+b%128*2^(7*k):Nat):Int):=by
 have d:IntKind.i64.wrap (7*i)=7*i:=a5 (by omega);have c:IntKind.u64.wrap (7*i)=7*i:=by rw [IntKind.wrap_u64]; omega
 rw [d,c,show (7*i).toNat=7*k by omega,show min (7*k) IntKind.u64.bits=7*k from Nat.min_eq_left (by simp [IntKind.bits]; omega),e,f];exact avf h j g a
theorem bcc (l:List UInt8) (i:Nat) (z:RV) (hi:i<l.length):(zao by8 l).getD i z=.v (.int .u8 (l[i].toNat:Int)):=by
 simp [List.getD,hi,by8]
theorem amz (l:List UInt8) (J:l.length<=140737488355328):a8 P0 189 [sb l] [] (.tup [int .u64 (take l).1,int .i64 (take l).2]) []:=by
 refine ap0.t func189 ?_;obtain ⟨N,hN,L,K⟩:∃N:Int,N=l.length/\0<=N/\N<=140737488355328:=⟨_,rfl,by omega,by omega⟩
 push_cast [ap0,zad,<- hN]
 refine b9 [(4,false),(7,false),(8,false),(9,false)] (λ vs pos n=>∃(i U:Int) (k m:Nat),i=k/\U=m/\k<=l.length/\k<=9/\m<2^(7*k)/\take l=jk k m (l.drop k) /\
  vs=[int .u64 U,sb l,int .i64 N,int .i64 i]/\pos=[]/\n=[])
  (λ vs _ _=>match vs with | [_,_,_,.r (.v (.int _ j))]=>(N-j).toNat | _=>0) rfl ?_ ?_
 ·push_cast
  exact ⟨0,0,0,0,rfl,rfl,by omega,by omega,by decide,rfl,rfl⟩
 rintro vs pos n ⟨i,U,k,m,w,z,F,s,B,q,rfl,rfl,rfl⟩
 push_cast
 refine b7 (λ h=>?_) (λ h=>?_)
 ·have hi:i<N:=by simpa using h
  have a:k<l.length:=by omega
  have y:i.toNat=k:=by omega
  obtain ⟨b,p⟩:∃b,l[k].toNat=b:=⟨_,rfl⟩
  have A:b<256:=by rw [<- p]; exact l[k].toNat_lt
  obtain ⟨C,D⟩:∃C:Int,C=b:=⟨_,rfl⟩
  have H:(zao by8 l).getD i.toNat (.v (.int .u8 0))=.v (.int .u8 C):=by
   rw [y,bcc l k _ a,D,p]
  have E:IntKind.i64.wrap (i+1)=i+1:=a5 (by omega)
  push_cast [H]
  refine ⟨⟨by omega,by omega⟩,?_⟩
  repeat refine And.intro (by by_cases c:i=9<;>by_cases c2:C>1<;>by_cases d:i>0<;>by_cases o:C=0<;>simp [c,c2,d,o]<;>omega) ?_
  refine b7 (λ x=>?_) (λ x=>?_)
  ·have hc:(k=9/\1<b)\/(0<k/\b=0):=by
    by_cases c:i=9<;>by_cases c2:C>1<;>by_cases d:i>0<;>by_cases o:C=0<;>simp [c,c2,d,o] at x<;>omega
   push_cast
   rw [q,aql a p hc]
   rfl
  have hc:¬((k=9/\1<b)\/(0<k/\b=0)):=by
   intro hc;by_cases c:i=9<;>by_cases c2:C>1<;>by_cases d:i>0<;>by_cases o:C=0<;>simp [c,c2,d,o] at x<;>omega
  have hv:=bmk z w D s B A (λ I=>by omega);have g:=ae7 (b:=b) B;have f:0<=IntKind.u64.wrap (IntKind.i64.wrap (7*i)):=by rw [IntKind.wrap_u64]; omega
  generalize e:m+b%128*2^(7*k)=m' at hv g;generalize G:((m':Nat):Int)=V at hv
  push_cast [hv]
  by_cases c:C<128
  ·have u:decide (C<128)=true:=by simp [c]
   push_cast [u,E]
   refine ⟨f,?_⟩;rw [q,avg a p hc (by omega),e];refine congrArg AV.tup ?_;rw [<- G,show i+1=((k+1:Nat):Int) by omega]
  have u:decide (C<128)=false:=by simp; omega
  push_cast [u,E]
  refine ⟨f,⟨i+1,V,k+1,m',by omega,by omega,by omega,by omega,g,?_,rfl⟩,by omega⟩;rw [q,axt a p hc (by omega),e]
 have hi:¬i<N:=by simpa using h
 push_cast
 rw [q,ar1 k m l (by omega)]
 rfl
theorem ll (h:x=n):x.toNat=n:=by omega
def jf (ns:List Nat):List RV:=ns.map λ n:Nat=>RV.v (.int .u64 (n:Int))
abbrev aug (ns:List Nat):Ob:=.row 1 (.v (.int .u64 0)) true true (jf ns)
def ag4:Option (List Nat)->AV
 | none=>.tup [.nils 1 (.v (.int .u64 0)),int .i64 10]
 | some []=>.tup [.nils 1 (.v (.int .u64 0)),int .i64 0]
 | some (n::ns)=>.tup [.own 1000000 0 0 (n::ns).length,int .i64 0]
def ag5:Option (List Nat)->List Ob
 | none=>[]
 | some []=>[]
 | some (n::ns)=>[aug (n::ns)]
theorem av9 (ns:List Nat) (n:Nat):jf ns++[.v (.int .u64 (n:Int))]=jf (ns++[n]):=by simp [jf]
theorem bbp (ns:List Nat):(jf ns).length=ns.length:=by simp [jf]
theorem aiv (ns:List Nat):zaj ns.length (jf ns)=jf ns:=zaw (by rw [bbp]; exact zah _)
theorem aii (l:List UInt8) (k:Nat):zap k (zao by8 l)=zao by8 (l.drop k):=by rw [List.map_drop]
theorem biu (l:List UInt8) (D:l.length<=1000000000):a8 P0 148 [sb l] [] (ag4 (fo l)) (ag5 (fo l)):=by
 refine ap1.t func148 ?_
 push_cast [ap1,zad]
 have A:=g7
 refine b9 [(0,false),(4,false)] (λ vs pos g=>∃(r:List UInt8) (f:Nat) (ns:List Nat),r.length<=f/\r.length+ns.length<=l.length/\fo l=(fw f r).map (ns ++ ·)/\pos=[] /\
  ((ns=[]/\vs=[sb r,.nils 1 (.v (.int .u64 0))]/\g=[])\/(ns≠[]/\vs=[sb r,.own 2000000 0 0 ns.length]/\g=[aug ns])))
  (λ vs _ _=>match vs with | .r (.sl _ xs)::_=>xs.length | _=>0) rfl ?_ ?_
 ·push_cast
  refine ⟨l,l.length,[],zah _,by simp,?_,.inl ⟨rfl,rfl⟩⟩;show fw l.length l = _;cases fw l.length l<;>simp
 rintro vs pos g ⟨r,f,ns,B,p,hv,rfl,hc⟩;obtain ⟨R,b,E⟩:∃R:Int,R=r.length/\0<=R:=⟨_,rfl,by omega⟩
 have F:=gc r;obtain ⟨U,s⟩:∃U:Int,U=(take r).1:=⟨_,rfl⟩
 obtain ⟨K,u⟩:∃K:Int,K=(take r).2:=⟨_,rfl⟩
 have j:zap (take r).2 (zaj R.toNat (bys r))=bys (r.drop (take r).2):=by
  rw [zaw (by simp; omega)];exact aii r _
 have z:(r.drop (take r).2).length=r.length-(take r).2:=zas;have e:jf ns++[.v (.int .u64 U)]=jf (ns++[(take r).1]):=by rw [s]; exact av9 _ _
 rcases hc with ⟨rfl,rfl,rfl⟩ | ⟨o,rfl,rfl⟩
 ·push_cast [<- b]
  refine b7 (λ h=>?_) (λ h=>?_)
  ·have a:0<r.length:=by
    have:R>0:=by simpa using h
    omega
   push_cast [<- b]
   refine a6 (amz r (by omega)) rfl trivial ?_;rw [<- s,<- u]
   push_cast [<- b]
   by_cases q:K=0
   ·have i:(K == 0)=true:=by simp [q]
    push_cast [i]
    rw [hv,ah1 a (by omega)];exact ⟨rfl,rfl⟩
   have i:(K == 0)=false:=by simp [q]
   obtain ⟨y,w,d⟩:=adw (n:=(take r).1) (k:=(take r).2) a B rfl (by omega)
   push_cast [i,<- b,aii,ll u]
   rw [j];refine ⟨by simp,by omega,⟨by omega,by omega,by omega⟩,⟨r.drop (take r).2,y,[(take r).1],by omega,by simp only [zae,zad] at p |-; omega,?_,.inr ⟨by simp,rfl,by rw [s]; rfl⟩⟩,by simp only [zaq]; omega⟩;rw [hv,d,Option.map_map];congr 1
  have a:r=[]:=by
   have:¬R>0:=by simpa using h
   exact List.eq_nil_of_length_eq_zero (by omega)
  push_cast
  rw [hv,a,lj];exact ⟨rfl,rfl⟩
 push_cast [<- b]
 have c:∀m:List Nat,m≠[]->ag4 (some m)=.tup [.own 1000000 0 0 m.length,int .i64 0]/\ag5 (some m)=[aug m]:=λ m C=>by
  cases m with
  | nil=>exact absurd rfl C
  | cons=>exact ⟨rfl,rfl⟩
 refine b7 (λ h=>?_) (λ h=>?_)
 ·have a:0<r.length:=by
   have:R>0:=by simpa using h
   omega
  push_cast [<- b]
  refine a6 (amz r (by omega)) rfl trivial ?_;rw [<- s,<- u]
  push_cast [<- b]
  by_cases q:K=0
  ·have i:(K == 0)=true:=by simp [q]
   push_cast [i]
   rw [hv,ah1 a (by omega)];exact ⟨rfl,rfl⟩
  have i:(K == 0)=false:=by simp [q]
  obtain ⟨y,w,d⟩:=adw (n:=(take r).1) (k:=(take r).2) a B rfl (by omega)
  push_cast [i,<- b,aii,ll u,aiv]
  rw [j,e];refine ⟨by simp,by omega,⟨by omega,by omega,by omega⟩,⟨r.drop (take r).2,y,ns++[(take r).1],by omega,by rw [zai,z,zbg]; omega,?_,.inr ⟨by simp,by simp,rfl⟩⟩,by simp only [zaq]; omega⟩;rw [hv,d,Option.map_map];congr 1;funext x;simp
 have a:r=[]:=by
  have:¬R>0:=by simpa using h
  exact List.eq_nil_of_length_eq_zero (by omega)
 push_cast
 rw [hv,a,lj,Option.map_some,List.append_nil,(c ns o).1,(c ns o).2];exact ⟨rfl,rfl⟩

end
end Go.Ev

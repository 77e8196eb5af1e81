import Derived.Below
import Derived.Test.YtocfnfcflljooaaGreatM4
open List renaming mem_of_getElem? → zaa, getElem?_eq_some_iff → zab, getElem?_append_left → zae, getElem?_map → zaf, append_eq_nil_iff → zaj, getElem?_append_right → zak
open Nat renaming le_refl → zac
open BitVec renaming ofInt → zad, toNat_ofInt → zag
open Int renaming emod_nonneg → zah, toNat_of_nonneg → zai
open Option renaming map_eq_some_iff → zal
namespace Go.Ev
set_option maxHeartbeats 8000000
set_option maxRecDepth 100000
open Go Go.RowKit
set_option linter.unusedSectionVars false
set_option linter.unnecessarySimpa false
set_option linter.unusedSimpArgs false
set_option linter.unusedVariables false
abbrev aok (w:World):Nat->Prop:=j8 (λ _=>True) (ob0 []) (λ _=>none) w
abbrev Rel0 (w:World):AV->Value->Prop:=RelA w (aok w) (ob0 []) (λ _=>none)
variable {args:List AV} {cargs:Array Value}
theorem vi {P:Program} {f:FuncId} {res:AV} (h:a9 P f args [] res []) (w:World) (j:Gl P w λ _=>False) (p:cargs.size=args.length)
 (n:∀(i:Nat) (x:AV) (c:Value),args[i]?=some x->cargs[i]?=some c->Rel0 w x c):Calls P f cargs w λ e w'=>∃c,e=.returned c/\Below w.heap.size w w'/\∃ρ',RelA w' (j8 (λ _=>True) (ob0 []) ρ' w') (ob0 []) ρ' res c:=by
 have d:∀b,¬ic (ob0 []) (λ _=>none) b:=λ b ⟨_,_,h,_⟩=>by simp [obs] at h
 refine (h w cargs (λ _=>none) (λ _=>True) (j.keep λ g _ _=>⟨rfl,λ q=>d g q⟩) (λ _ _=>trivial) ⟨λ id v o h=>by simp [obs] at h,λ id m x x' b h=>by simp [obs] at h,Keeps.refl _ _,λ id v o b h=>by simp [obs] at h,λ id b h=>by simp at h⟩ p n).mono ?_;rintro e w' ⟨c,ρ',rfl,a,l⟩;exact ⟨c,rfl,⟨a.keeps.os,a.keeps.tape,a.keeps.output,a.keeps.size,λ k r=>a.keeps.block k r (d k)⟩,ρ',l⟩
theorem law_of_triple {P:Program} {f:FuncId} (h:a9 P f args [] (bl true) []) (w:World) (a:Gl P w λ _=>False) (d:cargs.size=args.length)
 (b:∀(i:Nat) (x:AV) (c:Value),args[i]?=some x->cargs[i]?=some c->Rel0 w x c):Calls P f cargs w λ e w'=>e=.returned (.bool true)/\Below w.heap.size w w':=by
 refine (vi h w a d b).mono ?_;rintro e w' ⟨c,rfl,j,ρ',g⟩;cases g with
 | r h=>cases h; exact ⟨rfl,j⟩
theorem gl_none {P : Program} (c : P.globalNamed "internal/strconv.uint64pow10" = none) (b : na = true → P.globalNamed "strconv.ErrSyntax" = none) (f : na = true → P.globalNamed "strconv.ErrRange" = none) (w : World) (d : na = true → P.globalNamed "unicode/utf8.first" = none := by intro h; cases h) (e : na = true → P.globalNamed "unicode/utf8.acceptRanges" = none := by intro h; cases h) : Gl P w fun _ => False :=
 ⟨λ g h=>(by rw [c] at h; cases h),λ a g h=>(by rw [b a] at h; cases h),λ a g h=>(by rw [f a] at h; cases h),λ a g h=>(by rw [d a] at h; cases h),λ a g h=>(by rw [e a] at h; cases h)⟩
theorem rel0_nil {w:World}:∀(i:Nat) (x:AV) (c:Value),([]:List AV)[i]?=some x->(#[]:Array Value)[i]?=some c->Rel0 w x c:=λ i x c h=>by simp at h
variable {c:Value}
theorem rel0_cons {w:World} {x:AV} {xs:List AV} {cs:List Value} (h:Rel0 w x c) (b:∀(i:Nat) (x:AV) (c:Value),xs[i]?=some x->cs.toArray[i]?=some c->Rel0 w x c) :
 ∀(i:Nat) (y:AV) (d:Value),(x::xs)[i]?=some y->(c::cs).toArray[i]?=some d->Rel0 w y d:=λ i y d hy a=>by
 cases i with
 | zero=>simp at hy a; subst hy; subst a; exact h
 | succ i=>exact b i y d (by simpa using hy) (by simpa using a)
theorem rel0_v {w:World} (v:Value):Rel0 w (.r (.v v)) v:=.r (.v v)

open Go
mutual
theorem ad6 (F:Ren):∀(x:AV),z6 x=[]->imV F x=x
 | .r x,h=>by rw [imV]
 | .agg xs,h=>by rw [imV,ol F xs (by simpa [z6] using h)]
 | .tup xs,h=>by rw [imV,ol F xs (by simpa [z6] using h)]
 | .nils sz z,h=>by rw [imV]
 | .own id ver lo len,h=>by simp [z6] at h
 | .ptr id ver off,h=>by simp [z6] at h
 | .oel id ver idx off,h=>by simp [z6] at h
 | .rp ys,h=>by rw [imV]
 | .fn f xs k,h=>by rw [imV,ol F xs (by simpa [z6] using h)]
 | .mp id ver,h=>by simp [z6] at h
 | .ifc t x,h=>by rw [imV,ad6 F x (by simpa [z6] using h)]
 | .gd b x,h=>by rw [imV,ad6 F x (by simpa [z6] using h)]
 | .undef,h=>by rw [imV]
theorem ol (F:Ren):∀(xs:List AV),o4 xs=[]->imL F xs=xs
 | [],h=>by rw [imL]
 | x::xs,h=>by
   rw [o4,zaj] at h;rw [imL,ad6 F x h.1,ol F xs h.2]
end
theorem ap5:∀{xs:List AV},o4 xs=[]->∀{i:Nat} {x:AV},xs[i]?=some x->z6 x=[]
 | [],_,i,x,hx=>by simp at hx
 | y::ys,h,0,x,hx=>by simp at hx; subst hx; rw [o4,zaj] at h; exact h.1
 | y::ys,h,i+1,x,hx=>by simp at hx; rw [o4,zaj] at h; exact ap5 h.2 hx
section
variable {P:Program} {f:FuncId} {as:List AV} {res:AV} {T:AbsT} {w w':World} {ob ob':Obs} {ρ ρ':Pl->Option Nat} {R R':Nat->Prop}
theorem RelA.free {x:AV} (h:RelA w R ob ρ x c) (hx:z6 x=[]) (a:∀b,R b->R' b):RelA w R' ob' ρ' x c:=by
 have:=h.im (F:=λ _ _=>none) (ob':=ob') (ρ':=ρ') a (λ _ _ _ _ h=>by cases h)
 rwa [ad6 _ _ hx] at this
theorem apq {as:List AV} {sz:Nat} {z:RV} (h:a9 P f as [] (.nils sz z) []):a9 P f as [] (.own 1000000 0 0 0) [.row sz z true true []]:=by
 intro w cargs ρ B m u s p d;refine (h w cargs ρ B m u s p d).mono ?_;rintro e w' ⟨c,ρ',rfl,l,r⟩;cases r;have g:ob0 [Ob.row sz z true true []] 1000000=some (0,.row sz z true true []):=by simp [ob0,obs,upd]
 have a:∀id x,ob0 [Ob.row sz z true true []] id=some x->id=1000000/\x=(0,.row sz z true true []):=λ id x hx=>by
  obtain ⟨A,t,y⟩:=sj hx
  have:id-1000000=0:=by
   have:=(zab.1 t).1;simpa using this
  have a:id=1000000:=by omega
  subst a;rw [g] at hx;exact ⟨rfl,(Option.some.inj hx).symm⟩
 refine ⟨_,λ _=>none,rfl,⟨λ id v o hx=>?_,λ id k x x' b hx n _ _=>by rw [(a id _ hx).1,(a k _ n).1],l.keeps,λ id v o b hx i=>?_,λ id b q=>by simp [ke,obs] at q⟩,?_⟩
 ·obtain ⟨rfl,hx⟩:=a id _ hx;cases hx;exact .inl ⟨rfl,rfl,rfl⟩
 ·rcases i with i | ⟨_,j,i⟩<;>cases i
 exact .own _ _ _ _ _ rfl ⟨0,_,g,zac _,λ _=>⟨none,0,rfl,zac _,by simp,by simp,by simp⟩⟩
end

def uz (N:Nat):Ren:=λ id ver=>if ver=0/\1000000<=id/\id<1000000+N then some (id,ver) else none
structure Fam where
 S:List Ob->Prop
 N:Nat
 n:Nat
 pos:0<N
 len:∀{os:List Ob},S os->os.length=N
 flat:∀{os:List Ob},S os->∀o∈os,gu o/\o.own=true
 shut:∀{os:List Ob},S os->∀o∈os,imO (uz N) o=o
 root:∀{os:List Ob},S os->∃cells,os[0]?=some (.box cells)/\cells.length=n
def xk (os:List Ob) (ρ:Pl->Option Nat) (m:Nat):Option Nat:=
 if m/os.length=0 then ρ (.o (1000000+m%os.length)) else match os[m%os.length]? with
  | some o=>if o.isAbs=true then ρ (.s (1000000+m%os.length) (m/os.length-1)) else none
  | none=>none
variable {os:List Ob} {i:Nat}
theorem a2q (ρ:Pl->Option Nat) (h:i<os.length):xk os ρ i=ρ (.o (1000000+i)):=by
 simp [xk,Nat.div_eq_of_lt h,Nat.mod_eq_of_lt h]
theorem a2p {o:Ob} (ρ:Pl->Option Nat) (h:os[i]?=some o) (b:o.isAbs=true) (j:Nat):xk os ρ (i+(j+1)*os.length)=ρ (.s (1000000+i) j):=by
 have a:=(zab.1 h).1;have d:0<os.length:=by omega
 have c:(i+(j+1)*os.length)/os.length=j+1:=by rw [Nat.add_mul_div_right _ _ d,Nat.div_eq_of_lt a]; omega
 have e:(i+(j+1)*os.length)%os.length=i:=by rw [Nat.add_mul_mod_self_right,Nat.mod_eq_of_lt a]
 simp [xk,c,e,h,b]
structure Lie (w:World) (os:List Ob) (ρ:Pl->Option Nat):Prop where
 obj:∀id v o,ob0 os id=some (v,o)->cj w (λ _=>False) (ob0 os) ρ id o
 inj:∀id id' x x' b,ob0 os id=some x->ob0 os id'=some x'->foot ρ id x.2 b->foot ρ id' x'.2 b->id=id'
variable {x:Nat×Ob} {id:Nat}
theorem bz (h:ob0 os id=some x):∃i,i<os.length/\id=1000000+i/\os[i]?=some x.2/\x.1=0:=by
 obtain ⟨c,a,b⟩:=sj h;exact ⟨id-1000000,(zab.1 a).1,by omega,a,b⟩
theorem afx {ρ:Pl->Option Nat} {c:Nat} (hx:ob0 os id=some x) (h:foot ρ id x.2 c):∃m,xk os ρ m=some c:=by
 obtain ⟨i,b,rfl,d,_⟩:=bz hx;rcases h with h | ⟨a,j,h⟩
 ·exact ⟨i,by rw [a2q ρ b]; exact h⟩
 exact ⟨i+(j+1)*os.length,by rw [a2p ρ d a]; exact h⟩
theorem afg {ρ:Pl->Option Nat} (e:0<os.length) {m c:Nat} (h:xk os ρ m=some c):∃id x,ob0 os id=some x/\foot ρ id x.2 c:=by
 have d:m%os.length<os.length:=Nat.mod_lt _ e;have a:os[m%os.length]?=some os[m%os.length]:=by simp [d]
 refine ⟨1000000+m%os.length,(0,os[m%os.length]),n5 a,?_⟩;unfold xk at h;split at h
 ·exact .inl h
 rw [a] at h;simp only at h;split at h
 ·rename_i b; exact .inr ⟨b,_,h⟩
 cases h
theorem Lie.stays {w w':World} {ρ:Pl->Option Nat} (f:Lie w os ρ) (g:∀m c,xk os ρ m=some c->w'.heap[c]?=w.heap[c]?):Lie w' os ρ:=by
 refine ⟨λ id v o h=>?_,f.inj⟩
 have j:Stays w w' (λ _=>False) (λ _=>False) (ob0 os) (ob0 os) ρ ρ:=
  ⟨λ b h=>h.elim,λ id v o h=>⟨v,o,h,zac _,λ _=>⟨rfl,z9.refl o,λ b cs e fr d i=>⟨cs,e,fr,by
   obtain ⟨m,a⟩:=afx h (.inl d)
   rw [g m b a,i],rfl⟩⟩⟩⟩
 refine (f.obj id v o h).stays j rfl (λ _=>rfl) λ b d=>?_;obtain ⟨m,a⟩:=afx h d;exact g m b a
def Fam.T (F:Fam):AbsT where
 size:=F.n
 Q w b l:=∃os ρ,F.S os/\Lie w os ρ/\ρ (.o 1000000)=some b/\∀m,l m=xk os ρ m
 loc:=by
  rintro w w' b l ⟨os,ρ,d,g,h,f⟩ v a;refine ⟨os,ρ,d,g.stays λ m c r=>?_,h,f⟩;rw [<- f] at r;exact a m c r
 root:=by
  rintro w b l ⟨os,ρ,d,g,h,f⟩;obtain ⟨p,hc,u⟩:=F.root d;obtain ⟨A,cs,e,i,q,s,_⟩:=g.obj 1000000 0 _ (n5 (k:=0) hc);rw [h] at i;cases i;exact ⟨cs,e,q,by rw [s,u]⟩
 lt:=by
  rintro w b l ⟨os,ρ,d,g,h,f⟩ j c hc;rw [f] at hc;obtain ⟨id,x,i,q⟩:=afg (by rw [F.len d]; exact F.pos) hc;exact (g.obj id x.1 x.2 i).foot_lt q
 view:=[]
 rp:=λ R z v a=>⟨λ _=>undef,λ j y t=>by simp at t⟩
def aq6 (N M:Nat):Ren:=λ id ver=>if ver=0/\1000000+N<=id/\id<1000000+N+M then some (id-N+1,ver) else none
theorem Keeps.more {I J:Nat->Prop} {w w':World} (h:Keeps I w w') (e:∀b,I b->J b):Keeps J w w':=⟨h.os,h.tape,h.output,h.size,λ b d a=>h.block b d λ c=>a (e b c)⟩
def a4i:Ob->Prop
 | .row _ _ _ _ xs=>∀x,x∈xs->y8 x
 | _=>False
section
variable {P:Program} {f:FuncId}
theorem acb {F F':Fam} (hN:F'.N=F.N) {as:List AV} {res:AV} {ex:List Ob} (h:∀os,F.S os->∃a,F'.S a/\a9 P f (.ptr 1000000 0 0::as) os res (a++ex)) (has:o4 as=[]) (ha:∀o∈ex,a4i o) (t:u7 res) :
 a9 P f (.ptr 1000000 0 0::as) [.abs F.T] (imV (aq6 F.N ex.length) res) (.abs F'.T::ex):=by
 intro w cargs ρ B hw hB hM g0 M;have V:ob0 [Ob.abs F.T] 1000000=some (0,.abs F.T):=by simp [ob0,obs,upd]
 obtain ⟨b,h8,os,Y,hS,hL,hg,hj⟩:=hM.obj 1000000 0 (.abs F.T) V;obtain ⟨a,H,hT⟩:=h os hS;have g6:=F.len hS;have h4:a.length=F.N:=by rw [F'.len H,hN]
 have g5:=F.pos
 have K:∀c,ic (ob0 os) Y c->foot ρ 1000000 (.abs F.T) c:=λ c ⟨id,x,L,Q⟩=>by
  obtain ⟨m,hm⟩:=afx L Q;exact .inr ⟨rfl,m,(hj m).trans hm⟩
 have n:∀c,ic (ob0 os) Y c->ic (ob0 [Ob.abs F.T]) ρ c:=λ c hc=>⟨1000000,_,V,K c hc⟩
 obtain ⟨hl,h9,gb⟩:=F.root hS
 refine (hT w cargs Y B (hw.keep λ g h1 h2=>⟨rfl,λ hc=>h2 (n g hc)⟩) (λ c hc=>hB c (hc.imp (n c) id))
  ⟨λ id v o g=>?_,hL.inj,Keeps.refl _ _,λ id v o c L Q=>.inl ⟨id,_,L,Q⟩,λ id c g=>by cases g⟩ g0 (λ i x c hx hc=>?_)).mono ?_
 ·obtain ⟨i,hi,_,d,_⟩:=bz g;exact (hL.obj id v o g).flat (F.flat hS o (zaa d)).1
 ·cases i with
  | zero=>
    simp at hx;subst hx;have h0:=M 0 _ c rfl hc;cases h0 with
    | ptr _ _ _ _ h5 hat=>
      refine .ptr _ _ _ _ h5 ⟨0,_,n5 (k:=0) h9,zac _,λ _=>?_⟩;obtain ⟨b',hh,rfl⟩:=hat.live V;rw [h8] at hh;cases hh;exact ⟨b,hg,rfl⟩
  | succ i=>
    simp at hx;refine (M (i+1) x c (by simpa using hx) hc).free (ap5 has hx) λ b hb=>⟨hb.1,?_,hb.2.2⟩
    rintro ⟨id,v,o,L,Q,g3⟩;exact hb.2.1 ⟨1000000,0,_,V,rfl,K b ⟨id,_,L,g3⟩⟩
 rintro e w' ⟨c,ρ',rfl,p,hr⟩
 have X:ρ' (.o 1000000)=some b:=(p.pin 1000000 b (by
  simp only [ke,n5 (k:=0) h9]
  exact hg)).1
 have D:∀(i:Nat) (o:Ob),a[i]?=some o->ob0 (a++ex) (1000000+i)=some (0,o):=λ i o d=>n5 (by rw [zae (zab.1 d).1]; exact d)
 have A:∀(k:Nat) (o:Ob),ex[k]?=some o->ob0 (a++ex) (1000000+F.N+k)=some (0,o):=λ k o d=>by
  rw [show 1000000+F.N+k=1000000+(F.N+k) by omega];exact n5 (by rw [zak (by omega),h4,Nat.add_sub_cancel_left]; exact d)
 have h6:Lie w' a ρ':=by
  refine ⟨λ id v o g=>?_,λ id he x x' c L Q f1 f2=>?_⟩
  ·obtain ⟨i,hi,rfl,d,hv⟩:=bz g;simp only at d;have W:=zaa d;have hz:=F'.flat H o W;have hn:=F'.shut H o W;have g4:=((p.obj (1000000+i) 0 o (D i o d)).flat (R':=λ _=>False) hz.1)
   have hF:abm (ob0 (a++ex)) (ob0 a) ρ' ρ' (uz F'.N):=λ id ver j u t=>by
    unfold uz at t;split at t
    ·rename_i hc;cases t;obtain ⟨rfl,h5,hu⟩:=hc;obtain ⟨q,rfl⟩:∃q,id=1000000+q:=⟨id-1000000,by omega⟩
     have hq:a[q]?=some (a[q]'(by omega)):=by simp [show q<a.length by omega]
     exact ⟨_,_,D q _ hq,n5 hq,rfl,z9.refl _⟩
    cases t
   have:=g4.im (λ _ h=>h) hF (i:=1000000+i) rfl (λ _=>rfl)
   rwa [hn] at this
  obtain ⟨i,hi,rfl,d,_⟩:=bz L;obtain ⟨i',ga,rfl,G,_⟩:=bz Q;exact p.inj _ _ _ _ c (D i _ d) (D i' _ G) f1 f2
 obtain ⟨r,r1,r2,r3,r4⟩:∃r:Pl->Option Nat,r (.o 1000000)=some b/\(∀m,r (.s 1000000 m)=xk a ρ' m)/\(∀k,r (.o (1000001+k))=ρ' (.o (1000000+F.N+k)))/\(∀k j,r (.s (1000001+k) j)=none):=
  ⟨fun | .o i=>if i=1000000 then some b else ρ' (.o (i+F.N-1)) | .s i j=>if i=1000000 then xk a ρ' j else none,by simp,by simp,λ k=>by
   simp only;rw [if_neg (by omega),show 1000001+k+F.N-1=1000000+F.N+k by omega],λ k j=>by
   simp only
   rw [if_neg (by omega)]⟩
 have hA:ob0 (Ob.abs F'.T::ex) 1000000=some (0,.abs F'.T):=n5 (k:=0) rfl
 have hE:∀(k:Nat) (o:Ob),ex[k]?=some o->ob0 (Ob.abs F'.T::ex) (1000001+k)=some (0,o):=λ k o d=>by
  rw [show 1000001+k=1000000+(k+1) by omega];exact n5 (by simpa using d)
 have O:∀id x,ob0 (Ob.abs F'.T::ex) id=some x->(id=1000000/\x=(0,.abs F'.T))\/∃k o,id=1000001+k/\ex[k]?=some o/\x=(0,o):=λ id x hx=>by
  obtain ⟨i,hi,rfl,d,hv⟩:=bz hx;cases i with
  | zero=>rw [hA] at hx; exact .inl ⟨rfl,(Option.some.inj hx).symm⟩
  | succ k=>
    simp at d;exact .inr ⟨k,x.2,by omega,d,by rw [<- hv]⟩
 have hs:∀(k:Nat) (o:Ob),ex[k]?=some o->o.isAbs=false:=λ k o d=>by
  have:=ha o (zaa d);cases o<;>first | rfl | exact this.elim
 have C:∀c,foot r 1000000 (.abs F'.T) c->∃i o,a[i]?=some o/\foot ρ' (1000000+i) o c:=λ c hc=>by
  rcases hc with q | ⟨_,j,q⟩
  ·rw [r1] at q;cases q;exact ⟨0,a[0]'(by omega),by simp [show 0<a.length by omega],.inl X⟩
  rw [r2] at q;obtain ⟨id,x,L,Q⟩:=afg (by omega) q;obtain ⟨i,hi,rfl,d,_⟩:=bz L;exact ⟨i,x.2,d,Q⟩
 have l:∀(k:Nat) (o:Ob),ex[k]?=some o->∀c,foot r (1000001+k) o c->foot ρ' (1000000+F.N+k) o c:=λ k o d c hc=>by
  rw [el (hs k o d)] at hc |-;rw [r3] at hc;exact hc
 have I:∀c,j8 B (ob0 (a++ex)) ρ' w' c->j8 B (ob0 (Ob.abs F'.T::ex)) r w' c:=λ c hc=>by
  refine ⟨hc.1,?_,hc.2.2⟩;rintro ⟨id,v,o,L,Q,g3⟩;rcases O id _ L with ⟨rfl,hx⟩ | ⟨k,o',rfl,d,hx⟩
  ·cases hx;obtain ⟨i,o,d,t⟩:=C c g3;exact hc.2.1 ⟨_,_,_,D i o d,(F'.flat H o (zaa d)).2,t⟩
  cases hx;exact hc.2.1 ⟨_,_,_,A k o d,Q,l k o d c g3⟩
 have hF:abm (ob0 (a++ex)) (ob0 (Ob.abs F'.T::ex)) ρ' r (aq6 F.N ex.length):=λ id ver j u t=>by
  unfold aq6 at t;split at t
  ·rename_i hc;cases t;obtain ⟨rfl,h5,hu⟩:=hc;obtain ⟨k,rfl⟩:∃k,id=1000000+F.N+k:=⟨id-1000000-F.N,by omega⟩
   have hk:ex[k]?=some (ex[k]'(by omega)):=by simp [show k<ex.length by omega]
   have e1:1000000+F.N+k-F.N+1=1000001+k:=by omega
   refine ⟨_,_,A k _ hk,by rw [e1]; exact hE k _ hk,by rw [e1,r3],z9.refl _⟩
  cases t
 refine ⟨c,r,rfl,⟨λ id v o hx=>?_,λ id he x x' c hx ht t h3=>?_,p.keeps.more n,λ id v o c hx t=>?_,λ id c Z=>?_⟩,hr.im I hF⟩
 ·rcases O id _ hx with ⟨rfl,hx⟩ | ⟨k,o',rfl,d,hx⟩
  ·cases hx;exact ⟨b,r1,a,ρ',H,h6,X,r2⟩
  cases hx;have hd:=ha o (zaa d);cases o with
  | row sz z app wr xs=>
    have:=(p.obj _ 0 _ (A k _ d)).im I hF (i:=1000001+k) (r3 k);rcases p.obj _ 0 _ (A k _ d) with ⟨q1,q2⟩ | ⟨b1,cs,e,fr,q1,q2,q3,q4,q5,q6⟩
    ·exact .inl ⟨q1,by rw [r3]; exact q2⟩
    refine .inr ⟨b1,cs,e,fr,by rw [r3]; exact q1,q2,q3,q4,q5,λ i x hx=>⟨(q6 i x hx).1,λ j y hy=>?_⟩⟩;obtain ⟨u,t1,t2,t3⟩:=(q6 i x hx).2 j y hy;exact ⟨u,t1,t2,t3.flat (er.cells (hd x (zaa hx)) hy)⟩
  | _=>exact hd.elim
 ·rcases O id _ hx with ⟨rfl,R⟩ | ⟨k,o,rfl,d,R⟩<;>rcases O he _ ht with ⟨rfl,U⟩ | ⟨k',o',rfl,G,U⟩
  ·rfl
  ·subst R; subst U;obtain ⟨i,o,E,J⟩:=C c t;have:=p.inj _ _ _ _ c (D i o E) (A k' o' G) J (l k' o' G c h3);have:=(zab.1 E).1;omega
  ·subst R; subst U;obtain ⟨i,o',E,J⟩:=C c h3;have:=p.inj _ _ _ _ c (D i o' E) (A k o d) J (l k o d c t);have:=(zab.1 E).1;omega
  subst R; subst U;have:=p.inj _ _ _ _ c (A k o d) (A k' o' G) (l k o d c t) (l k' o' G c h3);omega
 ·rcases O id _ hx with ⟨rfl,hx⟩ | ⟨k,o',rfl,d,hx⟩
  ·cases hx;obtain ⟨i,o,E,J⟩:=C c t;exact (p.own _ 0 o c (D i o E) J).imp (n c) id
  cases hx;exact (p.own _ 0 o c (A k o d) (l k o d c t)).imp (n c) id
 simp only [ke] at Z;split at Z
 ·rename_i v o hx;split at Z
  ·rename_i g7
   have h7:id=1000000:=by
    obtain ⟨i,hi,rfl,_,_⟩:=bz hx;simpa using hi
   subst h7;rw [h8] at Z;cases Z;exact ⟨r1,_,hA,rfl,λ h=>by cases h⟩
  cases Z
 cases Z
theorem az1 {F:Fam} {as:List AV} {a:List Ob} (n:F.S a) (hT:a9 P f as [] (.ptr 1000000 0 0) a):a9 P f as [] (.ptr 1000000 0 0) [.abs F.T]:=by
 intro w cargs ρ B I hB hM M r;have G:=F.len n;have Q:=F.pos;refine (hT w cargs ρ B I hB hM M r).mono ?_;rintro e w' ⟨c,ρ',rfl,d,Z⟩;obtain ⟨K,y,V⟩:=F.root n;obtain ⟨b,_,_,h,_⟩:=d.obj 1000000 0 _ (n5 (k:=0) y);have J:∀(i:Nat) (o:Ob),a[i]?=some o->ob0 a (1000000+i)=some (0,o):=λ i o u=>n5 u
 have z:Lie w' a ρ':=by
  refine ⟨λ id v o g=>?_,d.inj⟩;obtain ⟨i,E,rfl,u,hv⟩:=bz g;exact (d.obj _ _ _ g).flat (F.flat n o (zaa u)).1
 obtain ⟨l,H,R⟩:∃l:Pl->Option Nat,l (.o 1000000)=some b/\(∀m,l (.s 1000000 m)=xk a ρ' m):=
  ⟨fun | .o i=>if i=1000000 then some b else none | .s i j=>if i=1000000 then xk a ρ' j else none,by simp,by simp⟩
 have U:ob0 [Ob.abs F.T] 1000000=some (0,.abs F.T):=n5 (k:=0) rfl
 have p:∀id x,ob0 [Ob.abs F.T] id=some x->id=1000000/\x=(0,.abs F.T):=λ id x hx=>by
  obtain ⟨i,E,rfl,u,hv⟩:=bz hx;have h0:i=0:=by simpa using E
  subst h0;rw [U] at hx;exact ⟨rfl,(Option.some.inj hx).symm⟩
 have t:∀c,foot l 1000000 (.abs F.T) c->∃i o,a[i]?=some o/\foot ρ' (1000000+i) o c:=λ c hc=>by
  rcases hc with q | ⟨_,j,q⟩
  ·rw [H] at q;cases q;exact ⟨0,a[0]'(by omega),by simp [show 0<a.length by omega],.inl h⟩
  rw [R] at q;obtain ⟨id,x,W,g2⟩:=afg (by omega) q;obtain ⟨i,E,rfl,u,_⟩:=bz W;exact ⟨i,x.2,u,g2⟩
 refine ⟨c,l,rfl,⟨λ id v o hx=>?_,λ id D x x' c hx L O X=>?_,d.keeps,λ id v o c hx O=>?_,λ id c Y=>?_⟩,?_⟩
 ·obtain ⟨rfl,hx⟩:=p id _ hx;cases hx;exact ⟨b,H,a,ρ',n,z,h,R⟩
 ·rw [(p id _ hx).1,(p D _ L).1]
 ·obtain ⟨rfl,hx⟩:=p id _ hx;cases hx;obtain ⟨i,o,C,N⟩:=t c O;exact d.own _ 0 o c (J i o C) N
 ·simp [ke,ob0,obs] at Y
 cases Z with
 | ptr _ _ _ _ hc1 hat=>
   refine .ptr _ _ _ _ hc1 ⟨0,_,U,zac _,λ _=>?_⟩;obtain ⟨b',A,rfl⟩:=hat.live (n5 (k:=0) y);rw [h] at A;cases A;exact ⟨b,H,rfl⟩
def dnF (M:Nat):Ren:=λ id ver=>if ver=0/\1000001<=id/\id<1000001+M then some (id-1,ver) else none
def upF (M:Nat):Ren:=λ id ver=>if ver=0/\1000000<=id/\id<1000000+M then some (id+1,ver) else none
theorem axj {T:AbsT} {as as':List AV} {po po' m ro':List Ob} {res W:AV} (h:a9 P f (.rp T.view::as) po res m)
 (ha:imL (dnF po'.length) as'=as) (N:po'.map (imO (dnF po'.length))=po) (hr:m.map (imO (upF m.length))=ro') (h9:imV (upF m.length) res=W)
 (hz:∀o∈po',gu o) (hm:∀o∈m,gu o) (hu:u7 res) :
 a9 P f (.ptr 1000000 0 0::as') (.abs T::po') W (.abs T::ro'):=by
 subst ha N hr h9;intro w cargs ρ B ht hB hM hw M;have J:ob0 (Ob.abs T::po') 1000000=some (0,.abs T):=n5 (k:=0) rfl
 have n:∀(k:Nat) (o:Ob),po'[k]?=some o->ob0 (Ob.abs T::po') (1000001+k)=some (0,o):=λ k o d=>by
  rw [show 1000001+k=1000000+(k+1) by omega];exact n5 (by simpa using d)
 obtain ⟨b,H,hQ⟩:=hM.obj 1000000 0 (.abs T) J
 obtain ⟨l,d1,d2⟩:∃l:Pl->Option Nat,(∀k,l (.o (1000000+k))=ρ (.o (1000001+k)))/\(∀k j,l (.s (1000000+k) j)=ρ (.s (1000001+k) j)):=
  ⟨fun | .o i=>ρ (.o (i+1)) | .s i j=>ρ (.s (i+1) j),λ k=>by simp only; rw [show 1000000+k+1=1000001+k by omega],λ k j=>by simp only; rw [show 1000000+k+1=1000001+k by omega]⟩
 have Z:∀(F:Ren) (o:Ob),(imO F o).isAbs=o.isAbs:=λ F o=>by cases o<;>rfl
 have V:∀(F:Ren) (o:Ob),(imO F o).pinned=o.pinned:=λ F o=>by cases o<;>rfl
 have h8:∀(F:Ren) (o:Ob),(imO F o).own=o.own:=λ F o=>by cases o<;>rfl
 have hA:∀id v o,ob0 (po'.map (imO (dnF po'.length))) id=some (v,o)->∃k o',id=1000000+k/\v=0/\po'[k]?=some o'/\o=imO (dnF po'.length) o':=λ id v o hx=>by
  obtain ⟨i,hi,rfl,d,Y⟩:=bz hx;rw [zaf,zal] at d;obtain ⟨o',a,e⟩:=d;exact ⟨i,o',rfl,Y,a,e.symm⟩
 have p:∀k o F c,foot l (1000000+k) (imO F o) c↔foot ρ (1000001+k) o c:=λ k o F c=>vc (d1 k) (d2 k) (Z F o)
 have A:∀c,ic (ob0 (po'.map (imO (dnF po'.length)))) l c->ic (ob0 (Ob.abs T::po')) ρ c:=λ c ⟨id,x,S,O⟩=>by
  obtain ⟨k,o',rfl,Y,a,e⟩:=hA id x.1 x.2 S;rw [e,p] at O;exact ⟨_,_,n k o' a,O⟩
 have L:∀c,foot ρ 1000000 (.abs T) c->¬ic (ob0 (po'.map (imO (dnF po'.length)))) l c:=λ c hc ⟨id,x,S,O⟩=>by
  obtain ⟨k,o',rfl,Y,a,e⟩:=hA id x.1 x.2 S;rw [e,p] at O;have:=hM.inj _ _ _ _ c J (n k o' a) hc O;omega
 have hh:∀c,Own (ob0 (po'.map (imO (dnF po'.length)))) l c->Own (ob0 (Ob.abs T::po')) ρ c:=λ c ⟨id,v,o,S,O,g3⟩=>by
  obtain ⟨k,o',rfl,Y,a,rfl⟩:=hA id v o S;rw [p] at g3;exact ⟨_,_,_,n k o' a,by rw [<- h8]; exact O,g3⟩
 have h3:∀c,j8 B (ob0 (Ob.abs T::po')) ρ w c->j8 B (ob0 (po'.map (imO (dnF po'.length)))) l w c:=λ c hc=>⟨hc.1,λ h=>hc.2.1 (hh c h),hc.2.2⟩
 have G:∀c,foot ρ 1000000 (.abs T) c->c<w.heap.size:=λ c hc=>(hM.obj 1000000 0 (.abs T) J).foot_lt hc
 have z:∀c,foot ρ 1000000 (.abs T) c->j8 B (ob0 (po'.map (imO (dnF po'.length)))) l w c:=λ c hc=>
  ⟨G c hc,λ ⟨id,v,o,S,O,g3⟩=>L c hc ⟨id,_,S,g3⟩,hB c (.inl ⟨_,_,J,hc⟩)⟩
 have hF:abm (ob0 (Ob.abs T::po')) (ob0 (po'.map (imO (dnF po'.length)))) ρ l (dnF po'.length):=λ id ver j u C=>by
  unfold dnF at C;split at C
  ·rename_i hc;cases C;obtain ⟨rfl,hb,hs⟩:=hc;obtain ⟨k,rfl⟩:∃k,id=1000001+k:=⟨id-1000001,by omega⟩
   have hk:po'[k]?=some (po'[k]'(by omega)):=by simp [show k<po'.length by omega]
   have e1:1000001+k-1=1000000+k:=by omega
   refine ⟨_,_,n k _ hk,by rw [e1]; exact n5 (by rw [zaf,hk]; rfl),by rw [e1,d1],z9.im _ _⟩
  cases C
 refine (h w cargs l B (ht.keep λ g h1 h2=>⟨rfl,λ hc=>h2 (A g hc)⟩) (λ c hc=>hB c (hc.imp (A c) id))
  ⟨λ id v o g=>?_,λ id h5 x x' c g g' f f'=>?_,Keeps.refl _ _,λ id v o c S O=>.inl ⟨id,_,S,O⟩,λ id c g=>by cases g⟩ (by rw [hw]; simp [ff]) (λ i x c hx hc=>?_)).mono ?_
 ·obtain ⟨k,o',rfl,rfl,a,rfl⟩:=hA id v o g;exact ((hM.obj _ _ _ (n k o' a)).flat (R':=λ _=>False) (hz o' (zaa a))).im (λ _ h=>h.elim) hF (d1 k) (d2 k)
 ·obtain ⟨k,o,rfl,Y,d,e⟩:=hA id x.1 x.2 g;obtain ⟨k',o',rfl,g0,a,e'⟩:=hA h5 x'.1 x'.2 g';rw [e,p] at f;rw [e',p] at f';have:=hM.inj _ _ _ _ c (n k o d) (n k' o' a) f f';omega
 ·cases i with
  | zero=>
    simp at hx;subst hx;have h0:=M 0 _ c rfl hc;cases h0 with
    | ptr _ _ _ _ hb hat=>
      obtain ⟨b',he,rfl⟩:=hat.live J;rw [H] at he;cases he;obtain ⟨g,hg⟩:=T.rp (j8 B (ob0 (po'.map (imO (dnF po'.length)))) l w) hQ (z b (.inl H)) λ j c hc=>z c (.inr ⟨rfl,j,hc⟩);exact .rp T.view b 0 g (z b (.inl H)) hg
  | succ i=>
    simp at hx;rw [tp,zal] at hx;obtain ⟨y,hy,rfl⟩:=hx;exact (M (i+1) y c (by simpa using hy) hc).im h3 hF
 rintro e w' ⟨c,ρ',rfl,E,hn⟩;have X:∀c,foot ρ 1000000 (.abs T) c->w'.heap[c]?=w.heap[c]?:=λ c hc=>E.keeps.block c (G c hc) (L c hc)
 obtain ⟨t,r1,r2,r3,r4⟩:∃t:Pl->Option Nat,t (.o 1000000)=some b/\(∀j,t (.s 1000000 j)=ρ (.s 1000000 j))/\(∀k,t (.o (1000001+k))=ρ' (.o (1000000+k)))/\(∀k j,t (.s (1000001+k) j)=ρ' (.s (1000000+k) j)):=
  ⟨fun | .o i=>if i=1000000 then some b else ρ' (.o (i-1)) | .s i j=>if i=1000000 then ρ (.s 1000000 j) else ρ' (.s (i-1) j),by simp,by simp,
   λ k=>by simp only; rw [if_neg (by omega),show 1000001+k-1=1000000+k by omega],λ k j=>by simp only; rw [if_neg (by omega),show 1000001+k-1=1000000+k by omega]⟩
 have h7:ob0 (Ob.abs T::m.map (imO (upF m.length))) 1000000=some (0,.abs T):=n5 (k:=0) rfl
 have hE:∀(k:Nat) (o:Ob),m[k]?=some o->ob0 (Ob.abs T::m.map (imO (upF m.length))) (1000001+k)=some (0,imO (upF m.length) o):=λ k o d=>by
  rw [show 1000001+k=1000000+(k+1) by omega];exact n5 (by simp [d])
 have U:∀id x,ob0 (Ob.abs T::m.map (imO (upF m.length))) id=some x->(id=1000000/\x=(0,.abs T))\/∃k o,id=1000001+k/\m[k]?=some o/\x=(0,imO (upF m.length) o):=λ id x hx=>by
  obtain ⟨i,hi,rfl,d,Y⟩:=bz hx;cases i with
  | zero=>rw [h7] at hx; exact .inl ⟨rfl,(Option.some.inj hx).symm⟩
  | succ k=>
    simp at d;obtain ⟨o,d,e⟩:=d;exact .inr ⟨k,o,by omega,d,by rw [e,<- Y]⟩
 have D:∀c,foot t 1000000 (.abs T) c->foot ρ 1000000 (.abs T) c:=λ c hc=>by
  rcases hc with q | ⟨_,j,q⟩
  ·rw [r1] at q; exact .inl (H.trans q)
  rw [r2] at q; exact .inr ⟨rfl,j,q⟩
 have r:∀k o F c,foot t (1000001+k) (imO F o) c↔foot ρ' (1000000+k) o c:=λ k o F c=>vc (r3 k) (r4 k) (Z F o);have I:∀(k:Nat) (o:Ob),m[k]?=some o->ob0 m (1000000+k)=some (0,o):=λ k o d=>n5 d
 have K:∀k o c,m[k]?=some o->foot ρ' (1000000+k) o c->¬foot ρ 1000000 (.abs T) c:=λ k o c d hc hT=>by
  rcases E.own _ 0 o c (I k o d) hc with q | q
  ·exact L c hT q
  have q':w.heap.size<=c:=q;have:=G c hT;omega
 have h6:abm (ob0 m) (ob0 (Ob.abs T::m.map (imO (upF m.length)))) ρ' t (upF m.length):=λ id ver j u C=>by
  unfold upF at C;split at C
  ·rename_i hc;cases C;obtain ⟨rfl,hb,hs⟩:=hc;obtain ⟨k,rfl⟩:∃k,id=1000000+k:=⟨id-1000000,by omega⟩
   have hk:m[k]?=some (m[k]'(by omega)):=by simp [show k<m.length by omega]
   have e1:1000000+k+1=1000001+k:=by omega
   exact ⟨_,_,I k _ hk,by rw [e1]; exact hE k _ hk,by rw [e1,r3],z9.im _ _⟩
  cases C
 refine ⟨c,t,rfl,⟨λ id v o hx=>?_,λ id h5 x x' c hx hq C h4=>?_,E.keeps.more A,λ id v o c hx C=>?_,λ id c N=>?_⟩,(hn.flat (R':=λ _=>False) hu).im (λ _ h=>h.elim) h6⟩
 ·rcases U id _ hx with ⟨rfl,hx⟩ | ⟨k,o',rfl,d,hx⟩
  ·cases hx;refine ⟨b,r1,?_⟩;rw [show (λ j=>t (.s 1000000 j))=λ j=>ρ (.s 1000000 j) from funext r2];exact T.loc hQ (X b (.inl H)) λ j c hc=>X c (.inr ⟨rfl,j,hc⟩)
  cases hx;exact ((E.obj _ _ _ (I k o' d)).flat (R':=λ _=>False) (hm o' (zaa d))).im (λ _ h=>h.elim) h6 (r3 k) (r4 k)
 ·rcases U id _ hx with ⟨rfl,Q⟩ | ⟨k,o,rfl,d,Q⟩<;>rcases U h5 _ hq with ⟨rfl,R⟩ | ⟨k',o',rfl,a,R⟩
  ·rfl
  ·subst Q; subst R;exact (K k' o' c a ((r ..).1 h4) (D c C)).elim
  ·subst Q; subst R;exact (K k o c d ((r ..).1 C) (D c h4)).elim
  subst Q; subst R;have:=E.inj _ _ _ _ c (I k o d) (I k' o' a) ((r ..).1 C) ((r ..).1 h4);omega
 ·rcases U id _ hx with ⟨rfl,hx⟩ | ⟨k,o',rfl,d,hx⟩
  ·cases hx;exact .inl ⟨_,_,J,D c C⟩
  cases hx;exact (E.own _ 0 o' c (I k o' d) ((r ..).1 C)).imp (A c) id
 simp only [ke] at N;split at N
 ·rename_i v o hx;split at N
  ·rename_i hj;obtain ⟨i,hi,rfl,d,Y⟩:=bz hx;cases i with
   | zero=>
     rw [H] at N;cases N;exact ⟨r1,_,h7,rfl,λ h=>by cases h⟩
   | succ k=>
     simp at d
     have hd:=E.pin (1000000+k) c (by
      have:ob0 (po'.map (imO (dnF po'.length))) (1000000+k)=some (0,imO (dnF po'.length) o):=n5 (by rw [zaf,d]; rfl);simp only [ke,this,V];rw [if_pos hj,d1];rw [show 1000001+k=1000000+(k+1) by omega]
      exact N)
     obtain ⟨q1,o2,q2,q3⟩:=hd;obtain ⟨i2,g4,e2,hl,_⟩:=bz q2;have:i2=k:=by omega
     subst this;rw [show 1000000+(i2+1)=1000001+i2 by omega];exact ⟨by rw [r3]; exact q1,_,hE i2 _ hl,by rw [V]; exact q3.1,by rw [aih]; exact q3.2⟩
  cases N
 cases N
end

def em (xs:List Value) (m:Nat):List AV:=xs.map (λ x=>AV.r (.v x))++List.replicate m .undef
section
variable {P:Program} {f:FuncId} {as:List AV} {res:AV}
theorem a4m {po:List Ob} {ys:List Value} {z:RV} {n:Nat} (hl:ys.length=n) (h5:po.length<=os.length) (Q:∀o∈os,imO (uz os.length) o=o) (hy:∀y∈ys,y.oneCell'=true)
 (h:ag6 P f args po λ v ro=>∃m,v=.own (1000000+os.length) 0 0 n/\ro=os++[.box (em ys m)]) :
 a9 P f args po (.own (1000000+os.length) 0 0 n) (os++[.row 1 z true true (ys.map RV.v)]):=by
 intro w cargs ρ B X hB hM Z F;refine (h w cargs ρ B X hB hM Z F).mono ?_;rintro e w' ⟨c,ρ',res,ro,rfl,⟨m,rfl,rfl⟩,d,hr⟩;have k:∀(x:Ob) (i:Nat) (o:Ob),os[i]?=some o->ob0 (os++[x]) (1000000+i)=some (0,o):=λ x i o a=>n5 (by rw [zae (zab.1 a).1]; exact a);have s:∀x:Ob,ob0 (os++[x]) (1000000+os.length)=some (0,x):=λ x=>n5 (by simp)
 have G:∀(y:Ob) (id:Nat) (x:Nat×Ob),ob0 (os++[y]) id=some x->(∃i o,id=1000000+i/\os[i]?=some o/\x=(0,o))\/(id=1000000+os.length/\x=(0,y)):=λ y id x hx=>by
  obtain ⟨i,N,rfl,a,hv⟩:=bz hx;by_cases l:i<os.length
  ·rw [zae l] at a;exact .inl ⟨i,x.2,rfl,a,by rw [<- hv]⟩
  have:i=os.length:=by simp at N; omega
  subst this;rw [zak (zac _)] at a;simp at a;exact .inr ⟨rfl,by rw [a,<- hv]⟩
 have p:∀(id:Nat) (x:Nat×Ob) (b:Nat),ob0 (os++[Ob.row 1 z true true (ys.map RV.v)]) id=some x->foot ρ' id x.2 b->∃x',ob0 (os++[Ob.box (em ys m)]) id=some x'/\foot ρ' id x'.2 b/\(x.2.own=true->x'.2.own=true)/\x'.1=x.1:=λ id x b hx g=>by
  rcases G _ id x hx with ⟨i,o,rfl,a,rfl⟩ | ⟨rfl,rfl⟩
  ·exact ⟨_,k _ i o a,g,λ h=>h,rfl⟩
  rw [el rfl] at g;exact ⟨_,s _,by rw [el rfl]; exact g,λ _=>rfl,rfl⟩
 have C:∀c,j8 B (ob0 (os++[Ob.box (em ys m)])) ρ' w' c->j8 B (ob0 (os++[Ob.row 1 z true true (ys.map RV.v)])) ρ' w' c:=λ c hc=>⟨hc.1,λ ⟨id,v,o,g1,g2,g3⟩=>by
  obtain ⟨x',H,t,q3,_⟩:=p id _ c g1 g3
  exact hc.2.1 ⟨id,x'.1,x'.2,H,q3 g2,t⟩,hc.2.2⟩
 have hF:abm (ob0 (os++[Ob.box (em ys m)])) (ob0 (os++[Ob.row 1 z true true (ys.map RV.v)])) ρ' ρ' (uz os.length):=λ id ver j u g=>by
  unfold uz at g;split at g
  ·rename_i hc;cases g;obtain ⟨rfl,L,h6⟩:=hc;obtain ⟨q,rfl⟩:∃q,id=1000000+q:=⟨id-1000000,by omega⟩
   have hq:os[q]?=some (os[q]'(by omega)):=by simp [show q<os.length by omega]
   exact ⟨_,_,k _ q _ hq,k _ q _ hq,rfl,z9.refl _⟩
  cases g
 have I:ys.length<=(em ys m).length:=by unfold em; simp
 refine ⟨c,ρ',rfl,⟨λ id v o hx=>?_,λ id K x x' b hx S g V=>?_,d.keeps,λ id v o b hx g=>?_,λ id b M=>?_⟩,?_⟩
 ·rcases G _ id _ hx with ⟨i,o',rfl,a,D⟩ | ⟨rfl,D⟩
  ·cases D;have:=(d.obj (1000000+i) 0 o (k _ i o a)).im C hF (i:=1000000+i) rfl (λ _=>rfl)
   rwa [Q o (zaa a)] at this
  cases D;obtain ⟨b,cs,ee,R,T,k3,k4⟩:=d.obj _ 0 _ (s _);refine .inr ⟨b,cs,ee,(0,0),R,T,by simp,λ _=>rfl,by rw [k3]; simpa using I,λ i x hx=>?_⟩;rw [zaf,zal] at hx;obtain ⟨y,E,rfl⟩:=hx;have N:=(zab.1 E).1;refine ⟨rfl,λ j y' O=>?_⟩
  have Y:j=0:=by
   have:=(zab.1 O).1;simp [RV.cells] at this;omega
  subst Y;simp [RV.cells] at O;subst O;have l:i<cs.size:=by omega
  have hb:(em ys m)[i]?=some (.r (.v y)):=by
   unfold em;rw [zae (by simpa using N)];simp [E]
  have h4:=k4 i _ cs[i] hb (by simp [l]);cases h4 with
  | r h0=>
    cases h0;exact ⟨cs[i],by simp [l],hy _ (zaa E),.v _⟩
 ·obtain ⟨y,H,t,_⟩:=p id x b hx g;obtain ⟨y',W,h2,_⟩:=p K x' b S V;exact d.inj id K y y' b H W t h2
 ·obtain ⟨y,H,t,_⟩:=p id _ b hx g;exact d.own id y.1 y.2 b H t
 ·obtain ⟨H,o,t,q3⟩:=d.pin id b M;refine ⟨H,?_⟩;rcases G _ id _ t with ⟨i,o',rfl,a,hx⟩ | ⟨rfl,hx⟩
  ·cases hx;exact ⟨o,k _ i o a,q3⟩
  exfalso;simp only [ke] at M;split at M
  ·rename_i v o1 h3;obtain ⟨i,N,h7,_,_⟩:=bz h3;omega
  cases M
 cases hr with
 | own _ _ _ _ _ L hat1=>
   obtain ⟨A,cap,rfl,R,T,k3⟩:=hat1.live (s _);refine .own _ _ _ _ _ L ⟨0,_,s _,zac _,λ _=>⟨A,cap,rfl,R,T,by simp [hl],λ J=>?_⟩⟩;obtain ⟨b',U,e',h1,t1,t2,t3,t4⟩:=k3 J;exact ⟨b',U,e',h1,t1,by simpa using t2,t3,by simpa using t4⟩
theorem agt {po:List Ob} {sz:Nat} {z:RV} (W:po.length<=os.length) (H:∀o∈os,imO (uz os.length) o=o)
 (h:a9 P f args po (.nils sz z) os):a9 P f args po (.own (1000000+os.length) 0 0 0) (os++[.row sz z true true []]):=by
 intro w cargs ρ B M hB Y Q r;refine (h w cargs ρ B M hB Y Q r).mono ?_;rintro e w' ⟨c,ρ',rfl,l,Z⟩;cases Z;have F:∀(x:Ob) (i:Nat) (o:Ob),os[i]?=some o->ob0 (os++[x]) (1000000+i)=some (0,o):=λ x i o d=>n5 (by rw [zae (zab.1 d).1]; exact d);have J:∀x:Ob,ob0 (os++[x]) (1000000+os.length)=some (0,x):=λ x=>n5 (by simp)
 have E:∀(y:Ob) (id:Nat) (x:Nat×Ob),ob0 (os++[y]) id=some x->(∃i o,i<os.length/\id=1000000+i/\os[i]?=some o/\x=(0,o))\/(id=1000000+os.length/\x=(0,y)):=λ y id x hx=>by
  obtain ⟨i,k,rfl,d,S⟩:=bz hx;by_cases C:i<os.length
  ·rw [zae C] at d;exact .inl ⟨i,x.2,C,rfl,d,by rw [<- S]⟩
  have:i=os.length:=by simp at k; omega
  subst this;rw [zak (zac _)] at d;simp at d;exact .inr ⟨rfl,by rw [d,<- S]⟩
 obtain ⟨a,G,T,R,r4⟩:∃a:Pl->Option Nat,(∀i,i<os.length->a (.o (1000000+i))=ρ' (.o (1000000+i)))/\(∀i j,i<os.length->a (.s (1000000+i) j)=ρ' (.s (1000000+i) j))/\a (.o (1000000+os.length))=none/\(∀j,a (.s (1000000+os.length) j)=none):=
  ⟨fun | .o i=>if i=1000000+os.length then none else ρ' (.o i) | .s i j=>if i=1000000+os.length then none else ρ' (.s i j),λ i k=>by simp only; rw [if_neg (by omega)],λ i j k=>by simp only; rw [if_neg (by omega)],by simp,by simp⟩
 have m:∀(id:Nat) (x:Nat×Ob) (b:Nat),ob0 (os++[Ob.row sz z true true []]) id=some x->foot a id x.2 b->ob0 os id=some x/\foot ρ' id x.2 b:=λ id x b hx g=>by
  rcases E _ id x hx with ⟨i,o,k,rfl,d,rfl⟩ | ⟨rfl,rfl⟩
  ·refine ⟨n5 d,?_⟩;rcases g with q | ⟨L,j,q⟩
   ·exact .inl (by rw [<- G i k]; exact q)
   exact .inr ⟨L,j,by rw [<- T i j k]; exact q⟩
  rcases g with q | ⟨L,j,q⟩
  ·rw [R] at q; cases q
  cases L
 have A:∀c,j8 B (ob0 os) ρ' w' c->j8 B (ob0 (os++[Ob.row sz z true true []])) a w' c:=λ c hc=>⟨hc.1,λ ⟨id,v,o,V,g2,g3⟩=>by
  obtain ⟨t,n⟩:=m id _ c V g3
  exact hc.2.1 ⟨id,v,o,t,g2,n⟩,hc.2.2⟩
 have hF:abm (ob0 os) (ob0 (os++[Ob.row sz z true true []])) ρ' a (uz os.length):=λ id ver j u g=>by
  unfold uz at g;split at g
  ·rename_i hc;cases g;obtain ⟨rfl,h0,h1⟩:=hc;obtain ⟨q,rfl⟩:∃q,id=1000000+q:=⟨id-1000000,by omega⟩
   have U:os[q]?=some (os[q]'(by omega)):=by simp [show q<os.length by omega]
   exact ⟨_,_,n5 U,F _ q _ U,G q (by omega),z9.refl _⟩
  cases g
 refine ⟨_,a,rfl,⟨λ id v o hx=>?_,λ id D x x' b hx O g K=>?_,l.keeps,λ id v o b hx g=>?_,λ id b X=>?_⟩,?_⟩
 ·rcases E _ id _ hx with ⟨i,o',k,rfl,d,p⟩ | ⟨rfl,p⟩
  ·cases p;have:=(l.obj (1000000+i) 0 o (n5 d)).im A hF (i:=1000000+i) (G i k) (λ j=>T i j k)
   rwa [H o (zaa d)] at this
  cases p;exact .inl ⟨rfl,R,rfl⟩
 ·obtain ⟨t,n⟩:=m id x b hx g;obtain ⟨N,I⟩:=m D x' b O K;exact l.inj id D x x' b t N n I
 ·obtain ⟨t,n⟩:=m id _ b hx g;exact l.own id v o b t n
 ·obtain ⟨t,o,n,q3⟩:=l.pin id b X;obtain ⟨i,k,rfl,d,_⟩:=bz n;exact ⟨by rw [G i k]; exact t,o,F _ i o d,q3⟩
 exact .own _ _ _ _ _ rfl ⟨0,_,J _,zac _,λ _=>⟨none,0,rfl,zac _,by simp,by simp,by simp⟩⟩
end

variable {a b:Prop}
theorem sI (d:b) (c:a:=by first | decide | omega | exact λ _=>by decide | (simp +contextual; done) | kernel_rfl):a/\b:=⟨c,d⟩
theorem sJ (d:b) (c:a:=by first | omega | (simp; done) | (simp; omega) | kernel_rfl):a/\b:=⟨c,d⟩
theorem sL (d:b) (c:a:=by first | omega | (simp only [maxLen]; omega) | (simp; done) | (show _=true; kernel_rfl)):a/\b:=⟨c,d⟩
theorem sO (d:b) (c:a:=by omega):a/\b:=⟨c,d⟩
def p_m (d s:Nat):PR:=⟨some d,none,0,.see (.mov (.t s))⟩
def p_s (d:Nat) (x:PO):PR:=⟨some d,none,0,.see x⟩
def p_a (d:Nat) (x:PO):PR:=⟨some d,none,0,.act x⟩
def p_c (d u f:Nat) (xs:List Opd):PR:=⟨some d,none,u,.call f xs⟩
def p_g (d g:Nat) (b:Bool) (x:PO):PR:=⟨some d,some (g,b),0,.see x⟩
def o_i (n:Int):Opd:=.c (.r (.v (.int .i64 n)))
theorem ul (d s:Nat):p_m d s=⟨some d,none,0,.see (.mov (.t s))⟩:=(rfl)
theorem uk (d:Nat) (x:PO):p_s d x=⟨some d,none,0,.see x⟩:=(rfl)
theorem up (d:Nat) (x:PO):p_a d x=⟨some d,none,0,.act x⟩:=(rfl)
theorem uo (d u f:Nat) (xs:List Opd):p_c d u f xs=⟨some d,none,u,.call f xs⟩:=(rfl)
theorem um (d g:Nat) (b:Bool) (x:PO):p_g d g b x=⟨some d,some (g,b),0,.see x⟩:=(rfl)
theorem ur (n:Int):o_i n=.c (.r (.v (.int .i64 n))):=(rfl)
attribute [push_cast high] ul uk up uo um ur
def c9 (x:Int):Prop:=-9223372036854775808<=x/\x<=9223372036854775807
instance (x:Int):Decidable (c9 x):=inferInstanceAs (Decidable (_/\_))
theorem a6 {x:Int} (h:-9223372036854775808<=x/\x<=9223372036854775807):IntKind.i64.wrap x=x:=by rw [IntKind.wrap_i64]; omega
theorem abl (x m:Int) (n:Nat) (d:n<=62) (g:m=2^n-1):IntKind.i64.wrap ((zad IntKind.i64.bits x &&& zad IntKind.i64.bits m).toNat)=x%2^n:=by
 have i:2^n<=2^62:=Nat.pow_le_pow_right (by decide) d;have k:1<=2^n:=Nat.one_le_two_pow;have c:((2^n:Nat):Int)=(2:Int)^n:=by simp
 have e:(zad 64 m).toNat=2^n-1:=by
  rw [zag,g,<- c];omega
 have h:((2^64:Nat):Int)%(2:Int)^n=0:=by
  rw [show (64:Nat)=(64-n)+n by omega,Nat.pow_add];simp
 have a:(x%((2^64:Nat):Int)).toNat%2^n=(x%(2:Int)^n).toNat:=by
  have f:0<=x%((2^64:Nat):Int):=zah _ (by decide);have b:0<=x%(2:Int)^n:=zah _ (by omega);apply Int.ofNat.inj;show (((x%((2^64:Nat):Int)).toNat%2^n:Nat):Int)=((x%(2:Int)^n).toNat:Int);rw [Int.natCast_emod,zai f,zai b,c,Int.emod_emod_of_dvd _ (Int.dvd_of_emod_eq_zero h)]
 have b:0<=x%(2:Int)^n:=zah _ (by omega);have j:x%(2:Int)^n<2^n:=Int.emod_lt_of_pos _ (by omega);rw [show IntKind.i64.bits=64 from rfl,BitVec.toNat_and,e,Nat.and_two_pow_sub_one_eq_mod,zag,a,zai b];exact a6 (by omega)
theorem sa {a b:Bool} (h:a=true↔b=true):AV.r (.v (.bool a))=bl b:=by
 have:a=b:=Bool.eq_iff_iff.2 h;rw [this]
theorem o9:4611686018427387904<=maxLen:=by decide
theorem sK (d:b) (c:a:=by first | omega | (have:=o9; omega) | (simp; done) | (simp; have:=o9; omega)):a/\b:=⟨c,d⟩
theorem sM (d:b) (c:a:=by first | decide | omega | kernel_rfl):a/\b:=⟨c,d⟩
def by8 (c:UInt8):RV:=.v (.int .u8 c.toNat)
theorem aws (c:UInt8):RV.good 1 (by8 c)=true:=rfl
theorem aus (c:UInt8):RV.cells (by8 c)=[by8 c]:=rfl
theorem az2 (c:UInt8):RV.one (by8 c)=true:=rfl
theorem amg {a b:Type} (f:a->b) (l:List a):List.take l.length (List.map f l)=List.map f l:=List.take_of_length_le (by simp)
attribute [push_cast high] aws aus az2 amg
theorem ar4 (x m:Int) (n:Nat) (b:n<=63) (c:m=2^n-1) (d:0<=x) (g:x<18446744073709551616):IntKind.u64.wrap ((zad IntKind.u64.bits x &&& zad IntKind.u64.bits m).toNat)=x%2^n:=by
 have i:2^n<=2^63:=Nat.pow_le_pow_right (by decide) b;have k:1<=2^n:=Nat.one_le_two_pow;have a:((2^n:Nat):Int)=(2:Int)^n:=by simp
 have e:(zad 64 m).toNat=2^n-1:=by
  rw [zag,c,<- a];omega
 have ex:(zad 64 x).toNat=x.toNat:=by rw [zag]; omega
 rw [show IntKind.u64.bits=64 from rfl,BitVec.toNat_and,e,ex,Nat.and_two_pow_sub_one_eq_mod,IntKind.wrap_u64];have f:((x.toNat%2^n:Nat):Int)=x%2^n:=by rw [Int.natCast_emod,zai d,a]
 have j:0<=x%(2:Int)^n:=zah _ (by omega);have h:x%(2:Int)^n<2^n:=Int.emod_lt_of_pos _ (by omega);rw [f];omega
theorem a4s (x:Int) (k:Nat) (a:k<=63):x.fdiv (2^min k IntKind.u64.bits)=x/2^k:=by
 rw [show min k IntKind.u64.bits=k from Nat.min_eq_left (by simp [IntKind.bits]; omega)];exact Int.fdiv_eq_ediv_of_nonneg _ (Int.le_of_lt (Int.pow_pos (by decide)))

end Go.Ev

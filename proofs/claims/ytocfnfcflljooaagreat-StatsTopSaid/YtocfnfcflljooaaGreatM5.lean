import Derived.Below
import Derived.Test.YtocfnfcflljooaaGreatM4
open List renaming mem_of_getElem? → zaa, getElem?_eq_some_iff → zab, getElem?_append_left → zae, getElem?_map → zaf, append_eq_nil_iff → zaj, getElem?_append_right → zak
open Nat renaming le_refl → zac
open BitVec renaming ofInt → zad, toNat_ofInt → zag
open Int renaming emod_nonneg → zah, toNat_of_nonneg → zai
open Option renaming map_eq_some_iff → zal
namespace Go.Ev
set_option maxHeartbeats 8000000
set_option maxRecDepth 100000
open Go Go.RowKit
set_option linter.unusedSectionVars false
set_option linter.unnecessarySimpa false
set_option linter.unusedSimpArgs false
set_option linter.unusedVariables false
abbrev akw (w:World):Nat->Prop:=d7 (λ _=>True) (ob0 []) (λ _=>none) w
abbrev Rel0 (w:World):AV->Value->Prop:=RelA w (akw w) (ob0 []) (λ _=>none)
variable {args:List AV} {cargs:Array Value}
theorem sq {P:Program} {f:FuncId} {res:AV} (h:b5 P f args [] res []) (w:World) (j:Gl P w λ _=>False) (p:cargs.size=args.length)
 (l:∀(i:Nat) (x:AV) (c:Value),args[i]?=some x->cargs[i]?=some c->Rel0 w x c):Calls P f cargs w λ e w'=>∃c,e=.returned c/\Below w.heap.size w w'/\∃ρ',RelA w' (d7 (λ _=>True) (ob0 []) ρ' w') (ob0 []) ρ' res c:=by
 have d:∀b,¬el (ob0 []) (λ _=>none) b:=λ b ⟨_,_,h,_⟩=>by simp [obs] at h
 refine (h w cargs (λ _=>none) (λ _=>True) (j.keep λ g _ _=>⟨rfl,λ r=>d g r⟩) (λ _ _=>trivial) ⟨λ id v o h=>by simp [obs] at h,λ id m x x' b h=>by simp [obs] at h,Keeps.refl _ _,λ id v o b h=>by simp [obs] at h,λ id b h=>by simp at h⟩ p l).mono ?_;rintro e w' ⟨c,ρ',rfl,a,n⟩;exact ⟨c,rfl,⟨a.keeps.os,a.keeps.tape,a.keeps.output,a.keeps.size,λ k q=>a.keeps.block k q (d k)⟩,ρ',n⟩
theorem law_of_triple {P:Program} {f:FuncId} (h:b5 P f args [] (bl true) []) (w:World) (a:Gl P w λ _=>False) (g:cargs.size=args.length)
 (j:∀(i:Nat) (x:AV) (c:Value),args[i]?=some x->cargs[i]?=some c->Rel0 w x c):Calls P f cargs w λ e w'=>e=.returned (.bool true)/\Below w.heap.size w w':=by
 refine (sq h w a g j).mono ?_;rintro e w' ⟨c,rfl,d,ρ',b⟩;cases b with
 | r h=>cases h; exact ⟨rfl,d⟩
theorem gl_none {P : Program} (b : P.globalNamed "internal/strconv.uint64pow10" = none) (d : kq = true → P.globalNamed "strconv.ErrSyntax" = none) (f : kq = true → P.globalNamed "strconv.ErrRange" = none) (w : World) (c : kq = true → P.globalNamed "unicode/utf8.first" = none := by intro h; cases h) (e : kq = true → P.globalNamed "unicode/utf8.acceptRanges" = none := by intro h; cases h) : Gl P w fun _ => False :=
 ⟨λ g h=>(by rw [b] at h; cases h),λ a g h=>(by rw [d a] at h; cases h),λ a g h=>(by rw [f a] at h; cases h),λ a g h=>(by rw [c a] at h; cases h),λ a g h=>(by rw [e a] at h; cases h)⟩
theorem rel0_nil {w:World}:∀(i:Nat) (x:AV) (c:Value),([]:List AV)[i]?=some x->(#[]:Array Value)[i]?=some c->Rel0 w x c:=λ i x c h=>by simp at h
variable {c:Value}
theorem rel0_cons {w:World} {x:AV} {xs:List AV} {cs:List Value} (h:Rel0 w x c) (b:∀(i:Nat) (x:AV) (c:Value),xs[i]?=some x->cs.toArray[i]?=some c->Rel0 w x c) :
 ∀(i:Nat) (y:AV) (d:Value),(x::xs)[i]?=some y->(c::cs).toArray[i]?=some d->Rel0 w y d:=λ i y d hy a=>by
 cases i with
 | zero=>simp at hy a; subst hy; subst a; exact h
 | succ i=>exact b i y d (by simpa using hy) (by simpa using a)
theorem rel0_v {w:World} (v:Value):Rel0 w (.r (.v v)) v:=.r (.v v)

open Go
mutual
theorem abu (F:Ren):∀(x:AV),t9 x=[]->imV F x=x
 | .r x,h=>by rw [imV]
 | .agg xs,h=>by rw [imV,mb F xs (by simpa [t9] using h)]
 | .tup xs,h=>by rw [imV,mb F xs (by simpa [t9] using h)]
 | .nils sz z,h=>by rw [imV]
 | .own id ver lo len,h=>by simp [t9] at h
 | .ptr id ver off,h=>by simp [t9] at h
 | .oel id ver idx off,h=>by simp [t9] at h
 | .rp ys,h=>by rw [imV]
 | .fn f xs k,h=>by rw [imV,mb F xs (by simpa [t9] using h)]
 | .mp id ver,h=>by simp [t9] at h
 | .ifc t x,h=>by rw [imV,abu F x (by simpa [t9] using h)]
 | .gd b x,h=>by rw [imV,abu F x (by simpa [t9] using h)]
 | .undef,h=>by rw [imV]
theorem mb (F:Ren):∀(xs:List AV),l8 xs=[]->imL F xs=xs
 | [],h=>by rw [imL]
 | x::xs,h=>by
   rw [l8,zaj] at h;rw [imL,abu F x h.1,mb F xs h.2]
end
theorem amc:∀{xs:List AV},l8 xs=[]->∀{i:Nat} {x:AV},xs[i]?=some x->t9 x=[]
 | [],_,i,x,hx=>by simp at hx
 | y::ys,h,0,x,hx=>by simp at hx; subst hx; rw [l8,zaj] at h; exact h.1
 | y::ys,h,i+1,x,hx=>by simp at hx; rw [l8,zaj] at h; exact amc h.2 hx
section
variable {P:Program} {f:FuncId} {as:List AV} {res:AV} {T:AbsT} {w w':World} {ob ob':Obs} {ρ ρ':Pl->Option Nat} {R R':Nat->Prop}
theorem RelA.free {x:AV} (h:RelA w R ob ρ x c) (hx:t9 x=[]) (a:∀b,R b->R' b):RelA w R' ob' ρ' x c:=by
 have:=h.im (F:=λ _ _=>none) (ob':=ob') (ρ':=ρ') a (λ _ _ _ _ h=>by cases h)
 rwa [abu _ _ hx] at this
theorem ava {as:List AV} {sz:Nat} {z:RV} (h:b5 P f as [] (.nils sz z) []):b5 P f as [] (.own 1000000 0 0 0) [.row sz z true true []]:=by
 intro w cargs ρ B m u t p d;refine (h w cargs ρ B m u t p d).mono ?_;rintro e w' ⟨c,ρ',rfl,n,q⟩;cases q;have g:ob0 [Ob.row sz z true true []] 1000000=some (0,.row sz z true true []):=by simp [ob0,obs,upd]
 have a:∀id x,ob0 [Ob.row sz z true true []] id=some x->id=1000000/\x=(0,.row sz z true true []):=λ id x hx=>by
  obtain ⟨A,s,y⟩:=qe hx
  have:id-1000000=0:=by
   have:=(zab.1 s).1;simpa using this
  have a:id=1000000:=by omega
  subst a;rw [g] at hx;exact ⟨rfl,(Option.some.inj hx).symm⟩
 refine ⟨_,λ _=>none,rfl,⟨λ id v o hx=>?_,λ id k x x' b hx l _ _=>by rw [(a id _ hx).1,(a k _ l).1],n.keeps,λ id v o b hx i=>?_,λ id b r=>by simp [gx,obs] at r⟩,?_⟩
 ·obtain ⟨rfl,hx⟩:=a id _ hx;cases hx;exact .inl ⟨rfl,rfl,rfl⟩
 ·rcases i with i | ⟨_,j,i⟩<;>cases i
 exact .own _ _ _ _ _ rfl ⟨0,_,g,zac _,λ _=>⟨none,0,rfl,zac _,by simp,by simp,by simp⟩⟩
end

def sf (N:Nat):Ren:=λ id ver=>if ver=0/\1000000<=id/\id<1000000+N then some (id,ver) else none
structure Fam where
 S:List Ob->Prop
 N:Nat
 n:Nat
 pos:0<N
 len:∀{os:List Ob},S os->os.length=N
 flat:∀{os:List Ob},S os->∀o∈os,ll o/\o.own=true
 shut:∀{os:List Ob},S os->∀o∈os,imO (sf N) o=o
 root:∀{os:List Ob},S os->∃cells,os[0]?=some (.box cells)/\cells.length=n
def uh (os:List Ob) (ρ:Pl->Option Nat) (m:Nat):Option Nat:=
 if m/os.length=0 then ρ (.o (1000000+m%os.length)) else match os[m%os.length]? with
  | some o=>if o.isAbs=true then ρ (.s (1000000+m%os.length) (m/os.length-1)) else none
  | none=>none
variable {os:List Ob} {i:Nat}
theorem axl (ρ:Pl->Option Nat) (h:i<os.length):uh os ρ i=ρ (.o (1000000+i)):=by
 simp [uh,Nat.div_eq_of_lt h,Nat.mod_eq_of_lt h]
theorem axk {o:Ob} (ρ:Pl->Option Nat) (h:os[i]?=some o) (b:o.isAbs=true) (j:Nat):uh os ρ (i+(j+1)*os.length)=ρ (.s (1000000+i) j):=by
 have a:=(zab.1 h).1;have e:0<os.length:=by omega
 have c:(i+(j+1)*os.length)/os.length=j+1:=by rw [Nat.add_mul_div_right _ _ e,Nat.div_eq_of_lt a]; omega
 have d:(i+(j+1)*os.length)%os.length=i:=by rw [Nat.add_mul_mod_self_right,Nat.mod_eq_of_lt a]
 simp [uh,c,d,h,b]
structure Lie (w:World) (os:List Ob) (ρ:Pl->Option Nat):Prop where
 obj:∀id v o,ob0 os id=some (v,o)->bd w (λ _=>False) (ob0 os) ρ id o
 inj:∀id id' x x' b,ob0 os id=some x->ob0 os id'=some x'->foot ρ id x.2 b->foot ρ id' x'.2 b->id=id'
variable {x:Nat×Ob} {id:Nat}
theorem ar (h:ob0 os id=some x):∃i,i<os.length/\id=1000000+i/\os[i]?=some x.2/\x.1=0:=by
 obtain ⟨c,a,b⟩:=qe h;exact ⟨id-1000000,(zab.1 a).1,by omega,a,b⟩
theorem adg {ρ:Pl->Option Nat} {c:Nat} (hx:ob0 os id=some x) (h:foot ρ id x.2 c):∃m,uh os ρ m=some c:=by
 obtain ⟨i,a,rfl,d,_⟩:=ar hx;rcases h with h | ⟨b,j,h⟩
 ·exact ⟨i,by rw [axl ρ a]; exact h⟩
 exact ⟨i+(j+1)*os.length,by rw [axk ρ d b]; exact h⟩
theorem ac1 {ρ:Pl->Option Nat} (e:0<os.length) {m c:Nat} (h:uh os ρ m=some c):∃id x,ob0 os id=some x/\foot ρ id x.2 c:=by
 have b:m%os.length<os.length:=Nat.mod_lt _ e;have a:os[m%os.length]?=some os[m%os.length]:=by simp [b]
 refine ⟨1000000+m%os.length,(0,os[m%os.length]),l4 a,?_⟩;unfold uh at h;split at h
 ·exact .inl h
 rw [a] at h;simp only at h;split at h
 ·rename_i d; exact .inr ⟨d,_,h⟩
 cases h
theorem Lie.stays {w w':World} {ρ:Pl->Option Nat} (f:Lie w os ρ) (g:∀m c,uh os ρ m=some c->w'.heap[c]?=w.heap[c]?):Lie w' os ρ:=by
 refine ⟨λ id v o h=>?_,f.inj⟩
 have i:Stays w w' (λ _=>False) (λ _=>False) (ob0 os) (ob0 os) ρ ρ:=
  ⟨λ b h=>h.elim,λ id v o h=>⟨v,o,h,zac _,λ _=>⟨rfl,u5.refl o,λ b cs e fr d j=>⟨cs,e,fr,by
   obtain ⟨m,a⟩:=adg h (.inl d)
   rw [g m b a,j],rfl⟩⟩⟩⟩
 refine (f.obj id v o h).stays i rfl (λ _=>rfl) λ b d=>?_;obtain ⟨m,a⟩:=adg h d;exact g m b a
def Fam.T (F:Fam):AbsT where
 size:=F.n
 Q w b l:=∃os ρ,F.S os/\Lie w os ρ/\ρ (.o 1000000)=some b/\∀m,l m=uh os ρ m
 loc:=by
  rintro w w' b l ⟨os,ρ,d,a,i,f⟩ v g;refine ⟨os,ρ,d,a.stays λ m c r=>?_,i,f⟩;rw [<- f] at r;exact g m c r
 root:=by
  rintro w b l ⟨os,ρ,d,a,i,f⟩;obtain ⟨q,hc,u⟩:=F.root d;obtain ⟨A,cs,e,h,p,s,_⟩:=a.obj 1000000 0 _ (l4 (k:=0) hc);rw [i] at h;cases h;exact ⟨cs,e,p,by rw [s,u]⟩
 lt:=by
  rintro w b l ⟨os,ρ,d,a,i,f⟩ j c hc;rw [f] at hc;obtain ⟨id,x,h,p⟩:=ac1 (by rw [F.len d]; exact F.pos) hc;exact (a.obj id x.1 x.2 h).foot_lt p
 view:=[]
 rp:=λ R z v g=>⟨λ _=>undef,λ j y t=>by simp at t⟩
def am7 (N M:Nat):Ren:=λ id ver=>if ver=0/\1000000+N<=id/\id<1000000+N+M then some (id-N+1,ver) else none
theorem Keeps.more {I J:Nat->Prop} {w w':World} (h:Keeps I w w') (d:∀b,I b->J b):Keeps J w w':=⟨h.os,h.tape,h.output,h.size,λ b e a=>h.block b e λ c=>a (d b c)⟩
def ay7:Ob->Prop
 | .row _ _ _ _ xs=>∀x,x∈xs->bz x
 | _=>False
section
variable {P:Program} {f:FuncId}
theorem ac3 {F F':Fam} (hN:F'.N=F.N) {as:List AV} {res:AV} {ex:List Ob} (h:∀os,F.S os->∃a,F'.S a/\b5 P f (.ptr 1000000 0 0::as) os res (a++ex)) (has:l8 as=[]) (h8:∀o∈ex,ay7 o) (t:y7 res) :
 b5 P f (.ptr 1000000 0 0::as) [.abs F.T] (imV (am7 F.N ex.length) res) (.abs F'.T::ex):=by
 intro w cargs ρ B hj hB hM g0 I;have R:ob0 [Ob.abs F.T] 1000000=some (0,.abs F.T):=by simp [ob0,obs,upd]
 obtain ⟨b,he,os,h4,hS,hL,ha,hl⟩:=hM.obj 1000000 0 (.abs F.T) R;obtain ⟨a,O,hT⟩:=h os hS;have g5:=F.len hS;have h3:a.length=F.N:=by rw [F'.len O,hN]
 have g4:=F.pos
 have H:∀c,el (ob0 os) h4 c->foot ρ 1000000 (.abs F.T) c:=λ c ⟨id,x,K,Q⟩=>by
  obtain ⟨m,hm⟩:=adg K Q;exact .inr ⟨rfl,m,(hl m).trans hm⟩
 have n:∀c,el (ob0 os) h4 c->el (ob0 [Ob.abs F.T]) ρ c:=λ c hc=>⟨1000000,_,R,H c hc⟩
 obtain ⟨hz,h6,ga⟩:=F.root hS
 refine (hT w cargs h4 B (hj.keep λ g h1 h2=>⟨rfl,λ hc=>h2 (n g hc)⟩) (λ c hc=>hB c (hc.imp (n c) id))
  ⟨λ id v o g=>?_,hL.inj,Keeps.refl _ _,λ id v o c K Q=>.inl ⟨id,_,K,Q⟩,λ id c g=>by cases g⟩ g0 (λ i x c hx hc=>?_)).mono ?_
 ·obtain ⟨i,hi,_,d,_⟩:=ar g;exact (hL.obj id v o g).flat (F.flat hS o (zaa d)).1
 ·cases i with
  | zero=>
    simp at hx;subst hx;have h0:=I 0 _ c rfl hc;cases h0 with
    | ptr _ _ _ _ Z hat=>
      refine .ptr _ _ _ _ Z ⟨0,_,l4 (k:=0) h6,zac _,λ _=>?_⟩;obtain ⟨b',hd,rfl⟩:=hat.live R;rw [he] at hd;cases hd;exact ⟨b,ha,rfl⟩
  | succ i=>
    simp at hx;refine (I (i+1) x c (by simpa using hx) hc).free (amc has hx) λ b hb=>⟨hb.1,?_,hb.2.2⟩
    rintro ⟨id,v,o,K,Q,g3⟩;exact hb.2.1 ⟨1000000,0,_,R,rfl,H b ⟨id,_,K,g3⟩⟩
 rintro e w' ⟨c,ρ',rfl,p,hr⟩
 have X:ρ' (.o 1000000)=some b:=(p.pin 1000000 b (by
  simp only [gx,l4 (k:=0) h6]
  exact ha)).1
 have D:∀(i:Nat) (o:Ob),a[i]?=some o->ob0 (a++ex) (1000000+i)=some (0,o):=λ i o d=>l4 (by rw [zae (zab.1 d).1]; exact d)
 have A:∀(k:Nat) (o:Ob),ex[k]?=some o->ob0 (a++ex) (1000000+F.N+k)=some (0,o):=λ k o d=>by
  rw [show 1000000+F.N+k=1000000+(F.N+k) by omega];exact l4 (by rw [zak (by omega),h3,Nat.add_sub_cancel_left]; exact d)
 have hg:Lie w' a ρ':=by
  refine ⟨λ id v o g=>?_,λ id h7 x x' c K Q f1 f2=>?_⟩
  ·obtain ⟨i,hi,rfl,d,hv⟩:=ar g;simp only at d;have W:=zaa d;have hs:=F'.flat O o W;have hh:=F'.shut O o W;have ht:=((p.obj (1000000+i) 0 o (D i o d)).flat (R':=λ _=>False) hs.1)
   have hF:zb (ob0 (a++ex)) (ob0 a) ρ' ρ' (sf F'.N):=λ id ver j u t=>by
    unfold sf at t;split at t
    ·rename_i hc;cases t;obtain ⟨rfl,Z,hu⟩:=hc;obtain ⟨q,rfl⟩:∃q,id=1000000+q:=⟨id-1000000,by omega⟩
     have hq:a[q]?=some (a[q]'(by omega)):=by simp [show q<a.length by omega]
     exact ⟨_,_,D q _ hq,l4 hq,rfl,u5.refl _⟩
    cases t
   have:=ht.im (λ _ h=>h) hF (i:=1000000+i) rfl (λ _=>rfl)
   rwa [hh] at this
  obtain ⟨i,hi,rfl,d,_⟩:=ar K;obtain ⟨i',g6,rfl,G,_⟩:=ar Q;exact p.inj _ _ _ _ c (D i _ d) (D i' _ G) f1 f2
 obtain ⟨r,r1,r2,r3,r4⟩:∃r:Pl->Option Nat,r (.o 1000000)=some b/\(∀m,r (.s 1000000 m)=uh a ρ' m)/\(∀k,r (.o (1000001+k))=ρ' (.o (1000000+F.N+k)))/\(∀k j,r (.s (1000001+k) j)=none):=
  ⟨fun | .o i=>if i=1000000 then some b else ρ' (.o (i+F.N-1)) | .s i j=>if i=1000000 then uh a ρ' j else none,by simp,by simp,λ k=>by
   simp only;rw [if_neg (by omega),show 1000001+k+F.N-1=1000000+F.N+k by omega],λ k j=>by
   simp only
   rw [if_neg (by omega)]⟩
 have hA:ob0 (Ob.abs F'.T::ex) 1000000=some (0,.abs F'.T):=l4 (k:=0) rfl
 have hE:∀(k:Nat) (o:Ob),ex[k]?=some o->ob0 (Ob.abs F'.T::ex) (1000001+k)=some (0,o):=λ k o d=>by
  rw [show 1000001+k=1000000+(k+1) by omega];exact l4 (by simpa using d)
 have J:∀id x,ob0 (Ob.abs F'.T::ex) id=some x->(id=1000000/\x=(0,.abs F'.T))\/∃k o,id=1000001+k/\ex[k]?=some o/\x=(0,o):=λ id x hx=>by
  obtain ⟨i,hi,rfl,d,hv⟩:=ar hx;cases i with
  | zero=>rw [hA] at hx; exact .inl ⟨rfl,(Option.some.inj hx).symm⟩
  | succ k=>
    simp at d;exact .inr ⟨k,x.2,by omega,d,by rw [<- hv]⟩
 have hn:∀(k:Nat) (o:Ob),ex[k]?=some o->o.isAbs=false:=λ k o d=>by
  have:=h8 o (zaa d);cases o<;>first | rfl | exact this.elim
 have C:∀c,foot r 1000000 (.abs F'.T) c->∃i o,a[i]?=some o/\foot ρ' (1000000+i) o c:=λ c hc=>by
  rcases hc with q | ⟨_,j,q⟩
  ·rw [r1] at q;cases q;exact ⟨0,a[0]'(by omega),by simp [show 0<a.length by omega],.inl X⟩
  rw [r2] at q;obtain ⟨id,x,K,Q⟩:=ac1 (by omega) q;obtain ⟨i,hi,rfl,d,_⟩:=ar K;exact ⟨i,x.2,d,Q⟩
 have l:∀(k:Nat) (o:Ob),ex[k]?=some o->∀c,foot r (1000001+k) o c->foot ρ' (1000000+F.N+k) o c:=λ k o d c hc=>by
  rw [cg (hn k o d)] at hc |-;rw [r3] at hc;exact hc
 have L:∀c,d7 B (ob0 (a++ex)) ρ' w' c->d7 B (ob0 (Ob.abs F'.T::ex)) r w' c:=λ c hc=>by
  refine ⟨hc.1,?_,hc.2.2⟩;rintro ⟨id,v,o,K,Q,g3⟩;rcases J id _ K with ⟨rfl,hx⟩ | ⟨k,o',rfl,d,hx⟩
  ·cases hx;obtain ⟨i,o,d,t⟩:=C c g3;exact hc.2.1 ⟨_,_,_,D i o d,(F'.flat O o (zaa d)).2,t⟩
  cases hx;exact hc.2.1 ⟨_,_,_,A k o d,Q,l k o d c g3⟩
 have hF:zb (ob0 (a++ex)) (ob0 (Ob.abs F'.T::ex)) ρ' r (am7 F.N ex.length):=λ id ver j u t=>by
  unfold am7 at t;split at t
  ·rename_i hc;cases t;obtain ⟨rfl,Z,hu⟩:=hc;obtain ⟨k,rfl⟩:∃k,id=1000000+F.N+k:=⟨id-1000000-F.N,by omega⟩
   have hk:ex[k]?=some (ex[k]'(by omega)):=by simp [show k<ex.length by omega]
   have e1:1000000+F.N+k-F.N+1=1000001+k:=by omega
   refine ⟨_,_,A k _ hk,by rw [e1]; exact hE k _ hk,by rw [e1,r3],u5.refl _⟩
  cases t
 refine ⟨c,r,rfl,⟨λ id v o hx=>?_,λ id h7 x x' c hx hw t Y=>?_,p.keeps.more n,λ id v o c hx t=>?_,λ id c hp=>?_⟩,hr.im L hF⟩
 ·rcases J id _ hx with ⟨rfl,hx⟩ | ⟨k,o',rfl,d,hx⟩
  ·cases hx;exact ⟨b,r1,a,ρ',O,hg,X,r2⟩
  cases hx;have h9:=h8 o (zaa d);cases o with
  | row sz z app wr xs=>
    have:=(p.obj _ 0 _ (A k _ d)).im L hF (i:=1000001+k) (r3 k);rcases p.obj _ 0 _ (A k _ d) with ⟨q1,q2⟩ | ⟨b1,cs,e,fr,q1,q2,q3,q4,q5,q6⟩
    ·exact .inl ⟨q1,by rw [r3]; exact q2⟩
    refine .inr ⟨b1,cs,e,fr,by rw [r3]; exact q1,q2,q3,q4,q5,λ i x hx=>⟨(q6 i x hx).1,λ j y hy=>?_⟩⟩;obtain ⟨u,t1,t2,t3⟩:=(q6 i x hx).2 j y hy;exact ⟨u,t1,t2,t3.flat (gm.cells (h9 x (zaa hx)) hy)⟩
  | _=>exact h9.elim
 ·rcases J id _ hx with ⟨rfl,V⟩ | ⟨k,o,rfl,d,V⟩<;>rcases J h7 _ hw with ⟨rfl,U⟩ | ⟨k',o',rfl,G,U⟩
  ·rfl
  ·subst V; subst U;obtain ⟨i,o,E,M⟩:=C c t;have:=p.inj _ _ _ _ c (D i o E) (A k' o' G) M (l k' o' G c Y);have:=(zab.1 E).1;omega
  ·subst V; subst U;obtain ⟨i,o',E,M⟩:=C c Y;have:=p.inj _ _ _ _ c (D i o' E) (A k o d) M (l k o d c t);have:=(zab.1 E).1;omega
  subst V; subst U;have:=p.inj _ _ _ _ c (A k o d) (A k' o' G) (l k o d c t) (l k' o' G c Y);omega
 ·rcases J id _ hx with ⟨rfl,hx⟩ | ⟨k,o',rfl,d,hx⟩
  ·cases hx;obtain ⟨i,o,E,M⟩:=C c t;exact (p.own _ 0 o c (D i o E) M).imp (n c) id
  cases hx;exact (p.own _ 0 o c (A k o d) (l k o d c t)).imp (n c) id
 simp only [gx] at hp;split at hp
 ·rename_i v o hx;split at hp
  ·rename_i g7
   have h5:id=1000000:=by
    obtain ⟨i,hi,rfl,_,_⟩:=ar hx;simpa using hi
   subst h5;rw [he] at hp;cases hp;exact ⟨r1,_,hA,rfl,λ h=>by cases h⟩
  cases hp
 cases hp
theorem au5 {F:Fam} {as:List AV} {a:List Ob} (p:F.S a) (hT:b5 P f as [] (.ptr 1000000 0 0) a):b5 P f as [] (.ptr 1000000 0 0) [.abs F.T]:=by
 intro w cargs ρ B N hB hM G r;have C:=F.len p;have Q:=F.pos;refine (hT w cargs ρ B N hB hM G r).mono ?_;rintro e w' ⟨c,ρ',rfl,l,X⟩;obtain ⟨L,z,h2⟩:=F.root p;obtain ⟨b,_,_,d,_⟩:=l.obj 1000000 0 _ (l4 (k:=0) z);have M:∀(i:Nat) (o:Ob),a[i]?=some o->ob0 a (1000000+i)=some (0,o):=λ i o u=>l4 u
 have A:Lie w' a ρ':=by
  refine ⟨λ id v o g=>?_,l.inj⟩;obtain ⟨i,H,rfl,u,W⟩:=ar g;exact (l.obj _ _ _ g).flat (F.flat p o (zaa u)).1
 obtain ⟨h,I,O⟩:∃h:Pl->Option Nat,h (.o 1000000)=some b/\(∀m,h (.s 1000000 m)=uh a ρ' m):=
  ⟨fun | .o i=>if i=1000000 then some b else none | .s i j=>if i=1000000 then uh a ρ' j else none,by simp,by simp⟩
 have U:ob0 [Ob.abs F.T] 1000000=some (0,.abs F.T):=l4 (k:=0) rfl
 have n:∀id x,ob0 [Ob.abs F.T] id=some x->id=1000000/\x=(0,.abs F.T):=λ id x hx=>by
  obtain ⟨i,H,rfl,u,W⟩:=ar hx;have Y:i=0:=by simpa using H
  subst Y;rw [U] at hx;exact ⟨rfl,(Option.some.inj hx).symm⟩
 have t:∀c,foot h 1000000 (.abs F.T) c->∃i o,a[i]?=some o/\foot ρ' (1000000+i) o c:=λ c hc=>by
  rcases hc with q | ⟨_,j,q⟩
  ·rw [I] at q;cases q;exact ⟨0,a[0]'(by omega),by simp [show 0<a.length by omega],.inl d⟩
  rw [O] at q;obtain ⟨id,x,V,Z⟩:=ac1 (by omega) q;obtain ⟨i,H,rfl,u,_⟩:=ar V;exact ⟨i,x.2,u,Z⟩
 refine ⟨c,h,rfl,⟨λ id v o hx=>?_,λ id D x x' c hx J R h1=>?_,l.keeps,λ id v o c hx R=>?_,λ id c hp=>?_⟩,?_⟩
 ·obtain ⟨rfl,hx⟩:=n id _ hx;cases hx;exact ⟨b,I,a,ρ',p,A,d,O⟩
 ·rw [(n id _ hx).1,(n D _ J).1]
 ·obtain ⟨rfl,hx⟩:=n id _ hx;cases hx;obtain ⟨i,o,E,K⟩:=t c R;exact l.own _ 0 o c (M i o E) K
 ·simp [gx,ob0,obs] at hp
 cases X with
 | ptr _ _ _ _ hc1 hat=>
   refine .ptr _ _ _ _ hc1 ⟨0,_,U,zac _,λ _=>?_⟩;obtain ⟨b',y,rfl⟩:=hat.live (l4 (k:=0) z);rw [d] at y;cases y;exact ⟨b,I,rfl⟩
def dnF (M:Nat):Ren:=λ id ver=>if ver=0/\1000001<=id/\id<1000001+M then some (id-1,ver) else none
def upF (M:Nat):Ren:=λ id ver=>if ver=0/\1000000<=id/\id<1000000+M then some (id+1,ver) else none
theorem azb {T:AbsT} {as as':List AV} {po a n hj:List Ob} {res X:AV} (h:b5 P f (.rp T.view::as) po res n)
 (ha:imL (dnF a.length) as'=as) (Q:a.map (imO (dnF a.length))=po) (hr:n.map (imO (upF n.length))=hj) (he:imV (upF n.length) res=X)
 (hw:∀o∈a,ll o) (hu:∀o∈n,ll o) (hn:y7 res) :
 b5 P f (.ptr 1000000 0 0::as') (.abs T::a) X (.abs T::hj):=by
 subst ha Q hr he;intro w cargs ρ B hm hB hM hq M;have I:ob0 (Ob.abs T::a) 1000000=some (0,.abs T):=l4 (k:=0) rfl
 have p:∀(k:Nat) (o:Ob),a[k]?=some o->ob0 (Ob.abs T::a) (1000001+k)=some (0,o):=λ k o l=>by
  rw [show 1000001+k=1000000+(k+1) by omega];exact l4 (by simpa using l)
 obtain ⟨b,J,hQ⟩:=hM.obj 1000000 0 (.abs T) I
 obtain ⟨m,d1,d2⟩:∃m:Pl->Option Nat,(∀k,m (.o (1000000+k))=ρ (.o (1000001+k)))/\(∀k j,m (.s (1000000+k) j)=ρ (.s (1000001+k) j)):=
  ⟨fun | .o i=>ρ (.o (i+1)) | .s i j=>ρ (.s (i+1) j),λ k=>by simp only; rw [show 1000000+k+1=1000001+k by omega],λ k j=>by simp only; rw [show 1000000+k+1=1000001+k by omega]⟩
 have h3:∀(F:Ren) (o:Ob),(imO F o).isAbs=o.isAbs:=λ F o=>by cases o<;>rfl
 have Y:∀(F:Ren) (o:Ob),(imO F o).pinned=o.pinned:=λ F o=>by cases o<;>rfl
 have h9:∀(F:Ren) (o:Ob),(imO F o).own=o.own:=λ F o=>by cases o<;>rfl
 have hA:∀id v o,ob0 (a.map (imO (dnF a.length))) id=some (v,o)->∃k o',id=1000000+k/\v=0/\a[k]?=some o'/\o=imO (dnF a.length) o':=λ id v o hx=>by
  obtain ⟨i,hi,rfl,l,Z⟩:=ar hx;rw [zaf,zal] at l;obtain ⟨o',d,e⟩:=l;exact ⟨i,o',rfl,Z,d,e.symm⟩
 have r:∀k o F c,foot m (1000000+k) (imO F o) c↔foot ρ (1000001+k) o c:=λ k o F c=>si (d1 k) (d2 k) (h3 F o)
 have C:∀c,el (ob0 (a.map (imO (dnF a.length)))) m c->el (ob0 (Ob.abs T::a)) ρ c:=λ c ⟨id,x,V,O⟩=>by
  obtain ⟨k,o',rfl,Z,d,e⟩:=hA id x.1 x.2 V;rw [e,r] at O;exact ⟨_,_,p k o' d,O⟩
 have N:∀c,foot ρ 1000000 (.abs T) c->¬el (ob0 (a.map (imO (dnF a.length)))) m c:=λ c hc ⟨id,x,V,O⟩=>by
  obtain ⟨k,o',rfl,Z,d,e⟩:=hA id x.1 x.2 V;rw [e,r] at O;have:=hM.inj _ _ _ _ c I (p k o' d) hc O;omega
 have h8:∀c,Own (ob0 (a.map (imO (dnF a.length)))) m c->Own (ob0 (Ob.abs T::a)) ρ c:=λ c ⟨id,v,o,V,O,g3⟩=>by
  obtain ⟨k,o',rfl,Z,d,rfl⟩:=hA id v o V;rw [r] at g3;exact ⟨_,_,_,p k o' d,by rw [<- h9]; exact O,g3⟩
 have h6:∀c,d7 B (ob0 (Ob.abs T::a)) ρ w c->d7 B (ob0 (a.map (imO (dnF a.length)))) m w c:=λ c hc=>⟨hc.1,λ h=>hc.2.1 (h8 c h),hc.2.2⟩
 have G:∀c,foot ρ 1000000 (.abs T) c->c<w.heap.size:=λ c hc=>(hM.obj 1000000 0 (.abs T) I).foot_lt hc
 have A:∀c,foot ρ 1000000 (.abs T) c->d7 B (ob0 (a.map (imO (dnF a.length)))) m w c:=λ c hc=>
  ⟨G c hc,λ ⟨id,v,o,V,O,g3⟩=>N c hc ⟨id,_,V,g3⟩,hB c (.inl ⟨_,_,I,hc⟩)⟩
 have hF:zb (ob0 (Ob.abs T::a)) (ob0 (a.map (imO (dnF a.length)))) ρ m (dnF a.length):=λ id ver j u D=>by
  unfold dnF at D;split at D
  ·rename_i hc;cases D;obtain ⟨rfl,h7,hz⟩:=hc;obtain ⟨k,rfl⟩:∃k,id=1000001+k:=⟨id-1000001,by omega⟩
   have hk:a[k]?=some (a[k]'(by omega)):=by simp [show k<a.length by omega]
   have e1:1000001+k-1=1000000+k:=by omega
   refine ⟨_,_,p k _ hk,by rw [e1]; exact l4 (by rw [zaf,hk]; rfl),by rw [e1,d1],u5.im _ _⟩
  cases D
 refine (h w cargs m B (hm.keep λ g h1 h2=>⟨rfl,λ hc=>h2 (C g hc)⟩) (λ c hc=>hB c (hc.imp (C c) id))
  ⟨λ id v o g=>?_,λ id h5 x x' c g g' f f'=>?_,Keeps.refl _ _,λ id v o c V O=>.inl ⟨id,_,V,O⟩,λ id c g=>by cases g⟩ (by rw [hq]; simp [cw]) (λ i x c hx hc=>?_)).mono ?_
 ·obtain ⟨k,o',rfl,rfl,d,rfl⟩:=hA id v o g;exact ((hM.obj _ _ _ (p k o' d)).flat (R':=λ _=>False) (hw o' (zaa d))).im (λ _ h=>h.elim) hF (d1 k) (d2 k)
 ·obtain ⟨k,o,rfl,Z,l,e⟩:=hA id x.1 x.2 g;obtain ⟨k',o',rfl,g5,d,e'⟩:=hA h5 x'.1 x'.2 g';rw [e,r] at f;rw [e',r] at f';have:=hM.inj _ _ _ _ c (p k o l) (p k' o' d) f f';omega
 ·cases i with
  | zero=>
    simp at hx;subst hx;have h0:=M 0 _ c rfl hc;cases h0 with
    | ptr _ _ _ _ h7 hat=>
      obtain ⟨b',hh,rfl⟩:=hat.live I;rw [J] at hh;cases hh;obtain ⟨g,hg⟩:=T.rp (d7 B (ob0 (a.map (imO (dnF a.length)))) m w) hQ (A b (.inl J)) λ j c hc=>A c (.inr ⟨rfl,j,hc⟩);exact .rp T.view b 0 g (A b (.inl J)) hg
  | succ i=>
    simp at hx;rw [qy,zal] at hx;obtain ⟨y,hy,rfl⟩:=hx;exact (M (i+1) y c (by simpa using hy) hc).im h6 hF
 rintro e w' ⟨c,ρ',rfl,E,hs⟩;have W:∀c,foot ρ 1000000 (.abs T) c->w'.heap[c]?=w.heap[c]?:=λ c hc=>E.keeps.block c (G c hc) (N c hc)
 obtain ⟨z,r1,r2,r3,r4⟩:∃z:Pl->Option Nat,z (.o 1000000)=some b/\(∀j,z (.s 1000000 j)=ρ (.s 1000000 j))/\(∀k,z (.o (1000001+k))=ρ' (.o (1000000+k)))/\(∀k j,z (.s (1000001+k) j)=ρ' (.s (1000000+k) j)):=
  ⟨fun | .o i=>if i=1000000 then some b else ρ' (.o (i-1)) | .s i j=>if i=1000000 then ρ (.s 1000000 j) else ρ' (.s (i-1) j),by simp,by simp,
   λ k=>by simp only; rw [if_neg (by omega),show 1000001+k-1=1000000+k by omega],λ k j=>by simp only; rw [if_neg (by omega),show 1000001+k-1=1000000+k by omega]⟩
 have hd:ob0 (Ob.abs T::n.map (imO (upF n.length))) 1000000=some (0,.abs T):=l4 (k:=0) rfl
 have hE:∀(k:Nat) (o:Ob),n[k]?=some o->ob0 (Ob.abs T::n.map (imO (upF n.length))) (1000001+k)=some (0,imO (upF n.length) o):=λ k o l=>by
  rw [show 1000001+k=1000000+(k+1) by omega];exact l4 (by simp [l])
 have S:∀id x,ob0 (Ob.abs T::n.map (imO (upF n.length))) id=some x->(id=1000000/\x=(0,.abs T))\/∃k o,id=1000001+k/\n[k]?=some o/\x=(0,imO (upF n.length) o):=λ id x hx=>by
  obtain ⟨i,hi,rfl,l,Z⟩:=ar hx;cases i with
  | zero=>rw [hd] at hx; exact .inl ⟨rfl,(Option.some.inj hx).symm⟩
  | succ k=>
    simp at l;obtain ⟨o,l,e⟩:=l;exact .inr ⟨k,o,by omega,l,by rw [e,<- Z]⟩
 have H:∀c,foot z 1000000 (.abs T) c->foot ρ 1000000 (.abs T) c:=λ c hc=>by
  rcases hc with q | ⟨_,j,q⟩
  ·rw [r1] at q; exact .inl (J.trans q)
  rw [r2] at q; exact .inr ⟨rfl,j,q⟩
 have t:∀k o F c,foot z (1000001+k) (imO F o) c↔foot ρ' (1000000+k) o c:=λ k o F c=>si (r3 k) (r4 k) (h3 F o);have K:∀(k:Nat) (o:Ob),n[k]?=some o->ob0 n (1000000+k)=some (0,o):=λ k o l=>l4 l
 have L:∀k o c,n[k]?=some o->foot ρ' (1000000+k) o c->¬foot ρ 1000000 (.abs T) c:=λ k o c l hc hT=>by
  rcases E.own _ 0 o c (K k o l) hc with q | q
  ·exact N c hT q
  have q':w.heap.size<=c:=q;have:=G c hT;omega
 have hl:zb (ob0 n) (ob0 (Ob.abs T::n.map (imO (upF n.length)))) ρ' z (upF n.length):=λ id ver j u D=>by
  unfold upF at D;split at D
  ·rename_i hc;cases D;obtain ⟨rfl,h7,hz⟩:=hc;obtain ⟨k,rfl⟩:∃k,id=1000000+k:=⟨id-1000000,by omega⟩
   have hk:n[k]?=some (n[k]'(by omega)):=by simp [show k<n.length by omega]
   have e1:1000000+k+1=1000001+k:=by omega
   exact ⟨_,_,K k _ hk,by rw [e1]; exact hE k _ hk,by rw [e1,r3],u5.im _ _⟩
  cases D
 refine ⟨c,z,rfl,⟨λ id v o hx=>?_,λ id h5 x x' c hx g0 D h4=>?_,E.keeps.more C,λ id v o c hx D=>?_,λ id c Q=>?_⟩,(hs.flat (R':=λ _=>False) hn).im (λ _ h=>h.elim) hl⟩
 ·rcases S id _ hx with ⟨rfl,hx⟩ | ⟨k,o',rfl,l,hx⟩
  ·cases hx;refine ⟨b,r1,?_⟩;rw [show (λ j=>z (.s 1000000 j))=λ j=>ρ (.s 1000000 j) from funext r2];exact T.loc hQ (W b (.inl J)) λ j c hc=>W c (.inr ⟨rfl,j,hc⟩)
  cases hx;exact ((E.obj _ _ _ (K k o' l)).flat (R':=λ _=>False) (hu o' (zaa l))).im (λ _ h=>h.elim) hl (r3 k) (r4 k)
 ·rcases S id _ hx with ⟨rfl,U⟩ | ⟨k,o,rfl,l,U⟩<;>rcases S h5 _ g0 with ⟨rfl,R⟩ | ⟨k',o',rfl,d,R⟩
  ·rfl
  ·subst U; subst R;exact (L k' o' c d ((t ..).1 h4) (H c D)).elim
  ·subst U; subst R;exact (L k o c l ((t ..).1 D) (H c h4)).elim
  subst U; subst R;have:=E.inj _ _ _ _ c (K k o l) (K k' o' d) ((t ..).1 D) ((t ..).1 h4);omega
 ·rcases S id _ hx with ⟨rfl,hx⟩ | ⟨k,o',rfl,l,hx⟩
  ·cases hx;exact .inl ⟨_,_,I,H c D⟩
  cases hx;exact (E.own _ 0 o' c (K k o' l) ((t ..).1 D)).imp (C c) id
 simp only [gx] at Q;split at Q
 ·rename_i v o hx;split at Q
  ·rename_i ht;obtain ⟨i,hi,rfl,l,Z⟩:=ar hx;cases i with
   | zero=>
     rw [J] at Q;cases Q;exact ⟨r1,_,hd,rfl,λ h=>by cases h⟩
   | succ k=>
     simp at l
     have hb:=E.pin (1000000+k) c (by
      have:ob0 (a.map (imO (dnF a.length))) (1000000+k)=some (0,imO (dnF a.length) o):=l4 (by rw [zaf,l]; rfl);simp only [gx,this,Y];rw [if_pos ht,d1];rw [show 1000001+k=1000000+(k+1) by omega]
      exact Q)
     obtain ⟨q1,o2,q2,q3⟩:=hb;obtain ⟨i2,g6,e2,g4,_⟩:=ar q2;have:i2=k:=by omega
     subst this;rw [show 1000000+(i2+1)=1000001+i2 by omega];exact ⟨by rw [r3]; exact q1,_,hE i2 _ g4,by rw [Y]; exact q3.1,by rw [afg]; exact q3.2⟩
  cases Q
 cases Q
end

def ci (xs:List Value) (m:Nat):List AV:=xs.map (λ x=>AV.r (.v x))++List.replicate m .undef
section
variable {P:Program} {f:FuncId} {as:List AV} {res:AV}
theorem azc {po:List Ob} {ys:List Value} {z:RV} {n:Nat} (hl:ys.length=n) (h6:po.length<=os.length) (Q:∀o∈os,imO (sf os.length) o=o) (hy:∀y∈ys,y.oneCell'=true)
 (h:aec P f args po λ v ro=>∃m,v=.own (1000000+os.length) 0 0 n/\ro=os++[.box (ci ys m)]) :
 b5 P f args po (.own (1000000+os.length) 0 0 n) (os++[.row 1 z true true (ys.map RV.v)]):=by
 intro w cargs ρ B U hB hM h4 E;refine (h w cargs ρ B U hB hM h4 E).mono ?_;rintro e w' ⟨c,ρ',res,ro,rfl,⟨m,rfl,rfl⟩,d,hr⟩;have k:∀(x:Ob) (i:Nat) (o:Ob),os[i]?=some o->ob0 (os++[x]) (1000000+i)=some (0,o):=λ x i o a=>l4 (by rw [zae (zab.1 a).1]; exact a);have l:∀x:Ob,ob0 (os++[x]) (1000000+os.length)=some (0,x):=λ x=>l4 (by simp)
 have D:∀(y:Ob) (id:Nat) (x:Nat×Ob),ob0 (os++[y]) id=some x->(∃i o,id=1000000+i/\os[i]?=some o/\x=(0,o))\/(id=1000000+os.length/\x=(0,y)):=λ y id x hx=>by
  obtain ⟨i,N,rfl,a,hv⟩:=ar hx;by_cases s:i<os.length
  ·rw [zae s] at a;exact .inl ⟨i,x.2,rfl,a,by rw [<- hv]⟩
  have:i=os.length:=by simp at N; omega
  subst this;rw [zak (zac _)] at a;simp at a;exact .inr ⟨rfl,by rw [a,<- hv]⟩
 have p:∀(id:Nat) (x:Nat×Ob) (b:Nat),ob0 (os++[Ob.row 1 z true true (ys.map RV.v)]) id=some x->foot ρ' id x.2 b->∃x',ob0 (os++[Ob.box (ci ys m)]) id=some x'/\foot ρ' id x'.2 b/\(x.2.own=true->x'.2.own=true)/\x'.1=x.1:=λ id x b hx g=>by
  rcases D _ id x hx with ⟨i,o,rfl,a,rfl⟩ | ⟨rfl,rfl⟩
  ·exact ⟨_,k _ i o a,g,λ h=>h,rfl⟩
  rw [cg rfl] at g;exact ⟨_,l _,by rw [cg rfl]; exact g,λ _=>rfl,rfl⟩
 have F:∀c,d7 B (ob0 (os++[Ob.box (ci ys m)])) ρ' w' c->d7 B (ob0 (os++[Ob.row 1 z true true (ys.map RV.v)])) ρ' w' c:=λ c hc=>⟨hc.1,λ ⟨id,v,o,g1,g2,g3⟩=>by
  obtain ⟨x',G,t,q3,_⟩:=p id _ c g1 g3
  exact hc.2.1 ⟨id,x'.1,x'.2,G,q3 g2,t⟩,hc.2.2⟩
 have hF:zb (ob0 (os++[Ob.box (ci ys m)])) (ob0 (os++[Ob.row 1 z true true (ys.map RV.v)])) ρ' ρ' (sf os.length):=λ id ver j u g=>by
  unfold sf at g;split at g
  ·rename_i hc;cases g;obtain ⟨rfl,I,h7⟩:=hc;obtain ⟨q,rfl⟩:∃q,id=1000000+q:=⟨id-1000000,by omega⟩
   have hq:os[q]?=some (os[q]'(by omega)):=by simp [show q<os.length by omega]
   exact ⟨_,_,k _ q _ hq,k _ q _ hq,rfl,u5.refl _⟩
  cases g
 have K:ys.length<=(ci ys m).length:=by unfold ci; simp
 refine ⟨c,ρ',rfl,⟨λ id v o hx=>?_,λ id J x x' b hx h3 g R=>?_,d.keeps,λ id v o b hx g=>?_,λ id b M=>?_⟩,?_⟩
 ·rcases D _ id _ hx with ⟨i,o',rfl,a,C⟩ | ⟨rfl,C⟩
  ·cases C;have:=(d.obj (1000000+i) 0 o (k _ i o a)).im F hF (i:=1000000+i) rfl (λ _=>rfl)
   rwa [Q o (zaa a)] at this
  cases C;obtain ⟨b,cs,ee,S,V,k3,k4⟩:=d.obj _ 0 _ (l _);refine .inr ⟨b,cs,ee,(0,0),S,V,by simp,λ _=>rfl,by rw [k3]; simpa using K,λ i x hx=>?_⟩;rw [zaf,zal] at hx;obtain ⟨y,H,rfl⟩:=hx;have N:=(zab.1 H).1;refine ⟨rfl,λ j y' W=>?_⟩
  have h1:j=0:=by
   have:=(zab.1 W).1;simp [RV.cells] at this;omega
  subst h1;simp [RV.cells] at W;subst W;have s:i<cs.size:=by omega
  have hb:(ci ys m)[i]?=some (.r (.v y)):=by
   unfold ci;rw [zae (by simpa using N)];simp [H]
  have Y:=k4 i _ cs[i] hb (by simp [s]);cases Y with
  | r h0=>
    cases h0;exact ⟨cs[i],by simp [s],hy _ (zaa H),.v _⟩
 ·obtain ⟨y,G,t,_⟩:=p id x b hx g;obtain ⟨y',h2,T,_⟩:=p J x' b h3 R;exact d.inj id J y y' b G h2 t T
 ·obtain ⟨y,G,t,_⟩:=p id _ b hx g;exact d.own id y.1 y.2 b G t
 ·obtain ⟨G,o,t,q3⟩:=d.pin id b M;refine ⟨G,?_⟩;rcases D _ id _ t with ⟨i,o',rfl,a,hx⟩ | ⟨rfl,hx⟩
  ·cases hx;exact ⟨o,k _ i o a,q3⟩
  exfalso;simp only [gx] at M;split at M
  ·rename_i v o1 O;obtain ⟨i,N,h5,_,_⟩:=ar O;omega
  cases M
 cases hr with
 | own _ _ _ _ _ I hat1=>
   obtain ⟨A,cap,rfl,S,V,k3⟩:=hat1.live (l _);refine .own _ _ _ _ _ I ⟨0,_,l _,zac _,λ _=>⟨A,cap,rfl,S,V,by simp [hl],λ L=>?_⟩⟩;obtain ⟨b',Z,e',X,t1,t2,t3,t4⟩:=k3 L;exact ⟨b',Z,e',X,t1,by simpa using t2,t3,by simpa using t4⟩
theorem alz {po:List Ob} {sz:Nat} {z:RV} (W:po.length<=os.length) (H:∀o∈os,imO (sf os.length) o=o)
 (h:b5 P f args po (.nils sz z) os):b5 P f args po (.own (1000000+os.length) 0 0 0) (os++[.row sz z true true []]):=by
 intro w cargs ρ B O hB hM J t;refine (h w cargs ρ B O hB hM J t).mono ?_;rintro e w' ⟨c,ρ',rfl,l,Y⟩;cases Y;have F:∀(x:Ob) (i:Nat) (o:Ob),os[i]?=some o->ob0 (os++[x]) (1000000+i)=some (0,o):=λ x i o d=>l4 (by rw [zae (zab.1 d).1]; exact d);have N:∀x:Ob,ob0 (os++[x]) (1000000+os.length)=some (0,x):=λ x=>l4 (by simp)
 have E:∀(y:Ob) (id:Nat) (x:Nat×Ob),ob0 (os++[y]) id=some x->(∃i o,i<os.length/\id=1000000+i/\os[i]?=some o/\x=(0,o))\/(id=1000000+os.length/\x=(0,y)):=λ y id x hx=>by
  obtain ⟨i,g,rfl,d,R⟩:=ar hx;by_cases D:i<os.length
  ·rw [zae D] at d;exact .inl ⟨i,x.2,D,rfl,d,by rw [<- R]⟩
  have:i=os.length:=by simp at g; omega
  subst this;rw [zak (zac _)] at d;simp at d;exact .inr ⟨rfl,by rw [d,<- R]⟩
 obtain ⟨a,G,S,T,r4⟩:∃a:Pl->Option Nat,(∀i,i<os.length->a (.o (1000000+i))=ρ' (.o (1000000+i)))/\(∀i j,i<os.length->a (.s (1000000+i) j)=ρ' (.s (1000000+i) j))/\a (.o (1000000+os.length))=none/\(∀j,a (.s (1000000+os.length) j)=none):=
  ⟨fun | .o i=>if i=1000000+os.length then none else ρ' (.o i) | .s i j=>if i=1000000+os.length then none else ρ' (.s i j),λ i g=>by simp only; rw [if_neg (by omega)],λ i j g=>by simp only; rw [if_neg (by omega)],by simp,by simp⟩
 have m:∀(id:Nat) (x:Nat×Ob) (b:Nat),ob0 (os++[Ob.row sz z true true []]) id=some x->foot a id x.2 b->ob0 os id=some x/\foot ρ' id x.2 b:=λ id x b hx k=>by
  rcases E _ id x hx with ⟨i,o,g,rfl,d,rfl⟩ | ⟨rfl,rfl⟩
  ·refine ⟨l4 d,?_⟩;rcases k with q | ⟨M,j,q⟩
   ·exact .inl (by rw [<- G i g]; exact q)
   exact .inr ⟨M,j,by rw [<- S i j g]; exact q⟩
  rcases k with q | ⟨M,j,q⟩
  ·rw [T] at q; cases q
  cases M
 have p:∀c,d7 B (ob0 os) ρ' w' c->d7 B (ob0 (os++[Ob.row sz z true true []])) a w' c:=λ c hc=>⟨hc.1,λ ⟨id,v,o,V,Z,X⟩=>by
  obtain ⟨r,A⟩:=m id _ c V X
  exact hc.2.1 ⟨id,v,o,r,Z,A⟩,hc.2.2⟩
 have hF:zb (ob0 os) (ob0 (os++[Ob.row sz z true true []])) ρ' a (sf os.length):=λ id ver j u k=>by
  unfold sf at k;split at k
  ·rename_i hc;cases k;obtain ⟨rfl,h1,h0⟩:=hc;obtain ⟨q,rfl⟩:∃q,id=1000000+q:=⟨id-1000000,by omega⟩
   have U:os[q]?=some (os[q]'(by omega)):=by simp [show q<os.length by omega]
   exact ⟨_,_,l4 U,F _ q _ U,G q (by omega),u5.refl _⟩
  cases k
 refine ⟨_,a,rfl,⟨λ id v o hx=>?_,λ id C x x' b hx K k I=>?_,l.keeps,λ id v o b hx k=>?_,λ id b hp=>?_⟩,?_⟩
 ·rcases E _ id _ hx with ⟨i,o',g,rfl,d,n⟩ | ⟨rfl,n⟩
  ·cases n;have:=(l.obj (1000000+i) 0 o (l4 d)).im p hF (i:=1000000+i) (G i g) (λ j=>S i j g)
   rwa [H o (zaa d)] at this
  cases n;exact .inl ⟨rfl,T,rfl⟩
 ·obtain ⟨r,A⟩:=m id x b hx k;obtain ⟨Q,L⟩:=m C x' b K I;exact l.inj id C x x' b r Q A L
 ·obtain ⟨r,A⟩:=m id _ b hx k;exact l.own id v o b r A
 ·obtain ⟨r,o,A,q3⟩:=l.pin id b hp;obtain ⟨i,g,rfl,d,_⟩:=ar A;exact ⟨by rw [G i g]; exact r,o,F _ i o d,q3⟩
 exact .own _ _ _ _ _ rfl ⟨0,_,N _,zac _,λ _=>⟨none,0,rfl,zac _,by simp,by simp,by simp⟩⟩
end

variable {a b:Prop}
theorem sI (c:b) (d:a:=by first | decide | omega | exact λ _=>by decide | (simp +contextual; done) | kernel_rfl):a/\b:=⟨d,c⟩
theorem sJ (c:b) (d:a:=by first | omega | (simp; done) | (simp; omega) | kernel_rfl):a/\b:=⟨d,c⟩
theorem sL (c:b) (d:a:=by first | omega | (simp only [maxLen]; omega) | (simp; done) | (show _=true; kernel_rfl)):a/\b:=⟨d,c⟩
theorem sO (c:b) (d:a:=by omega):a/\b:=⟨d,c⟩
def p_m (d s:Nat):PR:=⟨some d,none,0,.see (.mov (.t s))⟩
def p_s (d:Nat) (x:PO):PR:=⟨some d,none,0,.see x⟩
def p_a (d:Nat) (x:PO):PR:=⟨some d,none,0,.act x⟩
def p_c (d u f:Nat) (xs:List Opd):PR:=⟨some d,none,u,.call f xs⟩
def p_g (d g:Nat) (b:Bool) (x:PO):PR:=⟨some d,some (g,b),0,.see x⟩
def o_i (n:Int):Opd:=.c (.r (.v (.int .i64 n)))
theorem rl (d s:Nat):p_m d s=⟨some d,none,0,.see (.mov (.t s))⟩:=(rfl)
theorem rk (d:Nat) (x:PO):p_s d x=⟨some d,none,0,.see x⟩:=(rfl)
theorem rq (d:Nat) (x:PO):p_a d x=⟨some d,none,0,.act x⟩:=(rfl)
theorem rn (d u f:Nat) (xs:List Opd):p_c d u f xs=⟨some d,none,u,.call f xs⟩:=(rfl)
theorem rm (d g:Nat) (b:Bool) (x:PO):p_g d g b x=⟨some d,some (g,b),0,.see x⟩:=(rfl)
theorem ry (n:Int):o_i n=.c (.r (.v (.int .i64 n))):=(rfl)
attribute [push_cast high] rl rk rq rn rm ry
def b8 (x:Int):Prop:=-9223372036854775808<=x/\x<=9223372036854775807
instance (x:Int):Decidable (b8 x):=inferInstanceAs (Decidable (_/\_))
theorem a6 {x:Int} (h:-9223372036854775808<=x/\x<=9223372036854775807):IntKind.i64.wrap x=x:=by rw [IntKind.wrap_i64]; omega
theorem za (x m:Int) (n:Nat) (g:n<=62) (h:m=2^n-1):IntKind.i64.wrap ((zad IntKind.i64.bits x &&& zad IntKind.i64.bits m).toNat)=x%2^n:=by
 have j:2^n<=2^62:=Nat.pow_le_pow_right (by decide) g;have i:1<=2^n:=Nat.one_le_two_pow;have c:((2^n:Nat):Int)=(2:Int)^n:=by simp
 have e:(zad 64 m).toNat=2^n-1:=by
  rw [zag,h,<- c];omega
 have f:((2^64:Nat):Int)%(2:Int)^n=0:=by
  rw [show (64:Nat)=(64-n)+n by omega,Nat.pow_add];simp
 have a:(x%((2^64:Nat):Int)).toNat%2^n=(x%(2:Int)^n).toNat:=by
  have d:0<=x%((2^64:Nat):Int):=zah _ (by decide);have b:0<=x%(2:Int)^n:=zah _ (by omega);apply Int.ofNat.inj;show (((x%((2^64:Nat):Int)).toNat%2^n:Nat):Int)=((x%(2:Int)^n).toNat:Int);rw [Int.natCast_emod,zai d,zai b,c,Int.emod_emod_of_dvd _ (Int.dvd_of_emod_eq_zero f)]
 have b:0<=x%(2:Int)^n:=zah _ (by omega);have k:x%(2:Int)^n<2^n:=Int.emod_lt_of_pos _ (by omega);rw [show IntKind.i64.bits=64 from rfl,BitVec.toNat_and,e,Nat.and_two_pow_sub_one_eq_mod,zag,a,zai b];exact a6 (by omega)
theorem pt {a b:Bool} (h:a=true↔b=true):AV.r (.v (.bool a))=bl b:=by
 have:a=b:=Bool.eq_iff_iff.2 h;rw [this]
theorem v6:4611686018427387904<=maxLen:=by decide
theorem sK (c:b) (d:a:=by first | omega | (have:=v6; omega) | (simp; done) | (simp; have:=v6; omega)):a/\b:=⟨d,c⟩
theorem sM (c:b) (d:a:=by first | decide | omega | kernel_rfl):a/\b:=⟨d,c⟩
def by8 (c:UInt8):RV:=.v (.int .u8 c.toNat)
theorem asa (c:UInt8):RV.good 1 (by8 c)=true:=rfl
theorem aqn (c:UInt8):RV.cells (by8 c)=[by8 c]:=rfl
theorem au6 (c:UInt8):RV.one (by8 c)=true:=rfl
theorem ai6 {a b:Type} (f:a->b) (l:List a):List.take l.length (List.map f l)=List.map f l:=List.take_of_length_le (by simp)
attribute [push_cast high] asa aqn au6 ai6
theorem an4 (x m:Int) (n:Nat) (b:n<=63) (f:m=2^n-1) (d:0<=x) (g:x<18446744073709551616):IntKind.u64.wrap ((zad IntKind.u64.bits x &&& zad IntKind.u64.bits m).toNat)=x%2^n:=by
 have j:2^n<=2^63:=Nat.pow_le_pow_right (by decide) b;have i:1<=2^n:=Nat.one_le_two_pow;have a:((2^n:Nat):Int)=(2:Int)^n:=by simp
 have e:(zad 64 m).toNat=2^n-1:=by
  rw [zag,f,<- a];omega
 have ex:(zad 64 x).toNat=x.toNat:=by rw [zag]; omega
 rw [show IntKind.u64.bits=64 from rfl,BitVec.toNat_and,e,ex,Nat.and_two_pow_sub_one_eq_mod,IntKind.wrap_u64];have c:((x.toNat%2^n:Nat):Int)=x%2^n:=by rw [Int.natCast_emod,zai d,a]
 have k:0<=x%(2:Int)^n:=zah _ (by omega);have h:x%(2:Int)^n<2^n:=Int.emod_lt_of_pos _ (by omega);rw [c];omega
theorem azj (x:Int) (k:Nat) (a:k<=63):x.fdiv (2^min k IntKind.u64.bits)=x/2^k:=by
 rw [show min k IntKind.u64.bits=k from Nat.min_eq_left (by simp [IntKind.bits]; omega)];exact Int.fdiv_eq_ediv_of_nonneg _ (Int.le_of_lt (Int.pow_pos (by decide)))

end Go.Ev

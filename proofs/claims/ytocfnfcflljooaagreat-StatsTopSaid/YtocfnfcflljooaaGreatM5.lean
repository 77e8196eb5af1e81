import Derived.Below
import Derived.Test.YtocfnfcflljooaaGreatM4
open List renaming mem_of_getElem? → zaa, getElem?_eq_some_iff → zab, getElem?_append_left → zae, getElem?_map → zaf, append_eq_nil_iff → zaj, getElem?_append_right → zak
open Nat renaming le_refl → zac
open BitVec renaming ofInt → zad, toNat_ofInt → zag
open Int renaming emod_nonneg → zah, toNat_of_nonneg → zai
open Option renaming map_eq_some_iff → zal
namespace Go.Ev
set_option maxHeartbeats 8000000
set_option maxRecDepth 100000
open Go Go.RowKit
set_option linter.unusedSectionVars false
set_option linter.unnecessarySimpa false
set_option linter.unusedSimpArgs false
set_option linter.unusedVariables false
abbrev akq (w:World):Nat->Prop:=d6 (λ _=>True) (ob0 []) (λ _=>none) w
abbrev Rel0 (w:World):AV->Value->Prop:=RelA w (akq w) (ob0 []) (λ _=>none)
variable {args:List AV} {cargs:Array Value}
theorem sk {P:Program} {f:FuncId} {res:AV} (h:a9 P f args [] res []) (w:World) (j:Gl P w λ _=>False) (p:cargs.size=args.length)
 (m:∀(i:Nat) (x:AV) (c:Value),args[i]?=some x->cargs[i]?=some c->Rel0 w x c):Calls P f cargs w λ e w'=>∃c,e=.returned c/\Below w.heap.size w w'/\∃ρ',RelA w' (d6 (λ _=>True) (ob0 []) ρ' w') (ob0 []) ρ' res c:=by
 have d:∀b,¬ei (ob0 []) (λ _=>none) b:=λ b ⟨_,_,h,_⟩=>by simp [obs] at h
 refine (h w cargs (λ _=>none) (λ _=>True) (j.keep λ g _ _=>⟨rfl,λ r=>d g r⟩) (λ _ _=>trivial) ⟨λ id v o h=>by simp [obs] at h,λ id q x x' b h=>by simp [obs] at h,Keeps.refl _ _,λ id v o b h=>by simp [obs] at h,λ id b h=>by simp at h⟩ p m).mono ?_;rintro e w' ⟨c,ρ',rfl,a,n⟩;exact ⟨c,rfl,⟨a.keeps.os,a.keeps.tape,a.keeps.output,a.keeps.size,λ k l=>a.keeps.block k l (d k)⟩,ρ',n⟩
theorem law_of_triple {P:Program} {f:FuncId} (h:a9 P f args [] (bl true) []) (w:World) (a:Gl P w λ _=>False) (j:cargs.size=args.length)
 (d:∀(i:Nat) (x:AV) (c:Value),args[i]?=some x->cargs[i]?=some c->Rel0 w x c):Calls P f cargs w λ e w'=>e=.returned (.bool true)/\Below w.heap.size w w':=by
 refine (sk h w a j d).mono ?_;rintro e w' ⟨c,rfl,b,ρ',g⟩;cases g with
 | r h=>cases h; exact ⟨rfl,b⟩
theorem gl_none {P : Program} (c : P.globalNamed "internal/strconv.uint64pow10" = none) (b : km = true → P.globalNamed "strconv.ErrSyntax" = none) (d : km = true → P.globalNamed "strconv.ErrRange" = none) (w : World) (f : km = true → P.globalNamed "unicode/utf8.first" = none := by intro h; cases h) (e : km = true → P.globalNamed "unicode/utf8.acceptRanges" = none := by intro h; cases h) : Gl P w fun _ => False :=
 ⟨λ g h=>(by rw [c] at h; cases h),λ a g h=>(by rw [b a] at h; cases h),λ a g h=>(by rw [d a] at h; cases h),λ a g h=>(by rw [f a] at h; cases h),λ a g h=>(by rw [e a] at h; cases h)⟩
theorem rel0_nil {w:World}:∀(i:Nat) (x:AV) (c:Value),([]:List AV)[i]?=some x->(#[]:Array Value)[i]?=some c->Rel0 w x c:=λ i x c h=>by simp at h
variable {c:Value}
theorem rel0_cons {w:World} {x:AV} {xs:List AV} {cs:List Value} (h:Rel0 w x c) (b:∀(i:Nat) (x:AV) (c:Value),xs[i]?=some x->cs.toArray[i]?=some c->Rel0 w x c) :
 ∀(i:Nat) (y:AV) (d:Value),(x::xs)[i]?=some y->(c::cs).toArray[i]?=some d->Rel0 w y d:=λ i y d hy a=>by
 cases i with
 | zero=>simp at hy a; subst hy; subst a; exact h
 | succ i=>exact b i y d (by simpa using hy) (by simpa using a)
theorem rel0_v {w:World} (v:Value):Rel0 w (.r (.v v)) v:=.r (.v v)

open Go
mutual
theorem abo (F:Ren):∀(x:AV),t5 x=[]->imV F x=x
 | .r x,h=>by rw [imV]
 | .agg xs,h=>by rw [imV,ly F xs (by simpa [t5] using h)]
 | .tup xs,h=>by rw [imV,ly F xs (by simpa [t5] using h)]
 | .nils sz z,h=>by rw [imV]
 | .own id ver lo len,h=>by simp [t5] at h
 | .ptr id ver off,h=>by simp [t5] at h
 | .oel id ver idx off,h=>by simp [t5] at h
 | .rp ys,h=>by rw [imV]
 | .fn f xs k,h=>by rw [imV,ly F xs (by simpa [t5] using h)]
 | .mp id ver,h=>by simp [t5] at h
 | .ifc t x,h=>by rw [imV,abo F x (by simpa [t5] using h)]
 | .gd b x,h=>by rw [imV,abo F x (by simpa [t5] using h)]
 | .undef,h=>by rw [imV]
theorem ly (F:Ren):∀(xs:List AV),l5 xs=[]->imL F xs=xs
 | [],h=>by rw [imL]
 | x::xs,h=>by
   rw [l5,zaj] at h;rw [imL,abo F x h.1,ly F xs h.2]
end
theorem al8:∀{xs:List AV},l5 xs=[]->∀{i:Nat} {x:AV},xs[i]?=some x->t5 x=[]
 | [],_,i,x,hx=>by simp at hx
 | y::ys,h,0,x,hx=>by simp at hx; subst hx; rw [l5,zaj] at h; exact h.1
 | y::ys,h,i+1,x,hx=>by simp at hx; rw [l5,zaj] at h; exact al8 h.2 hx
section
variable {P:Program} {f:FuncId} {as:List AV} {res:AV} {T:AbsT} {w w':World} {ob ob':Obs} {ρ ρ':Pl->Option Nat} {R R':Nat->Prop}
theorem RelA.free {x:AV} (h:RelA w R ob ρ x c) (hx:t5 x=[]) (a:∀b,R b->R' b):RelA w R' ob' ρ' x c:=by
 have:=h.im (F:=λ _ _=>none) (ob':=ob') (ρ':=ρ') a (λ _ _ _ _ h=>by cases h)
 rwa [abo _ _ hx] at this
theorem au6 {as:List AV} {sz:Nat} {z:RV} (h:a9 P f as [] (.nils sz z) []):a9 P f as [] (.own 1000000 0 0 0) [.row sz z true true []]:=by
 intro w cargs ρ B m q r p d;refine (h w cargs ρ B m q r p d).mono ?_;rintro e w' ⟨c,ρ',rfl,k,t⟩;cases t;have g:ob0 [Ob.row sz z true true []] 1000000=some (0,.row sz z true true []):=by simp [ob0,obs,upd]
 have a:∀id x,ob0 [Ob.row sz z true true []] id=some x->id=1000000/\x=(0,.row sz z true true []):=λ id x hx=>by
  obtain ⟨y,s,A⟩:=pw hx
  have:id-1000000=0:=by
   have:=(zab.1 s).1;simpa using this
  have a:id=1000000:=by omega
  subst a;rw [g] at hx;exact ⟨rfl,(Option.some.inj hx).symm⟩
 refine ⟨_,λ _=>none,rfl,⟨λ id v o hx=>?_,λ id n x x' b hx l _ _=>by rw [(a id _ hx).1,(a n _ l).1],k.keeps,λ id v o b hx i=>?_,λ id b u=>by simp [gt,obs] at u⟩,?_⟩
 ·obtain ⟨rfl,hx⟩:=a id _ hx;cases hx;exact .inl ⟨rfl,rfl,rfl⟩
 ·rcases i with i | ⟨_,j,i⟩<;>cases i
 exact .own _ _ _ _ _ rfl ⟨0,_,g,zac _,λ _=>⟨none,0,rfl,zac _,by simp,by simp,by simp⟩⟩
end

def sb (N:Nat):Ren:=λ id ver=>if ver=0/\1000000<=id/\id<1000000+N then some (id,ver) else none
structure Fam where
 S:List Ob->Prop
 N:Nat
 n:Nat
 pos:0<N
 len:∀{os:List Ob},S os->os.length=N
 flat:∀{os:List Ob},S os->∀o∈os,lh o/\o.own=true
 shut:∀{os:List Ob},S os->∀o∈os,imO (sb N) o=o
 root:∀{os:List Ob},S os->∃cells,os[0]?=some (.box cells)/\cells.length=n
def ud (os:List Ob) (ρ:Pl->Option Nat) (m:Nat):Option Nat:=
 if m/os.length=0 then ρ (.o (1000000+m%os.length)) else match os[m%os.length]? with
  | some o=>if o.isAbs=true then ρ (.s (1000000+m%os.length) (m/os.length-1)) else none
  | none=>none
variable {os:List Ob} {i:Nat}
theorem axg (ρ:Pl->Option Nat) (h:i<os.length):ud os ρ i=ρ (.o (1000000+i)):=by
 simp [ud,Nat.div_eq_of_lt h,Nat.mod_eq_of_lt h]
theorem axf {o:Ob} (ρ:Pl->Option Nat) (h:os[i]?=some o) (e:o.isAbs=true) (j:Nat):ud os ρ (i+(j+1)*os.length)=ρ (.s (1000000+i) j):=by
 have a:=(zab.1 h).1;have d:0<os.length:=by omega
 have c:(i+(j+1)*os.length)/os.length=j+1:=by rw [Nat.add_mul_div_right _ _ d,Nat.div_eq_of_lt a]; omega
 have b:(i+(j+1)*os.length)%os.length=i:=by rw [Nat.add_mul_mod_self_right,Nat.mod_eq_of_lt a]
 simp [ud,c,b,h,e]
structure Lie (w:World) (os:List Ob) (ρ:Pl->Option Nat):Prop where
 obj:∀id v o,ob0 os id=some (v,o)->ay w (λ _=>False) (ob0 os) ρ id o
 inj:∀id id' x x' b,ob0 os id=some x->ob0 os id'=some x'->foot ρ id x.2 b->foot ρ id' x'.2 b->id=id'
variable {x:Nat×Ob} {id:Nat}
theorem an (h:ob0 os id=some x):∃i,i<os.length/\id=1000000+i/\os[i]?=some x.2/\x.1=0:=by
 obtain ⟨c,a,b⟩:=pw h;exact ⟨id-1000000,(zab.1 a).1,by omega,a,b⟩
theorem adb {ρ:Pl->Option Nat} {c:Nat} (hx:ob0 os id=some x) (h:foot ρ id x.2 c):∃m,ud os ρ m=some c:=by
 obtain ⟨i,b,rfl,a,_⟩:=an hx;rcases h with h | ⟨d,j,h⟩
 ·exact ⟨i,by rw [axg ρ b]; exact h⟩
 exact ⟨i+(j+1)*os.length,by rw [axf ρ a d]; exact h⟩
theorem acx {ρ:Pl->Option Nat} (d:0<os.length) {m c:Nat} (h:ud os ρ m=some c):∃id x,ob0 os id=some x/\foot ρ id x.2 c:=by
 have b:m%os.length<os.length:=Nat.mod_lt _ d;have a:os[m%os.length]?=some os[m%os.length]:=by simp [b]
 refine ⟨1000000+m%os.length,(0,os[m%os.length]),j9 a,?_⟩;unfold ud at h;split at h
 ·exact .inl h
 rw [a] at h;simp only at h;split at h
 ·rename_i e; exact .inr ⟨e,_,h⟩
 cases h
theorem Lie.stays {w w':World} {ρ:Pl->Option Nat} (g:Lie w os ρ) (f:∀m c,ud os ρ m=some c->w'.heap[c]?=w.heap[c]?):Lie w' os ρ:=by
 refine ⟨λ id v o h=>?_,g.inj⟩
 have i:Stays w w' (λ _=>False) (λ _=>False) (ob0 os) (ob0 os) ρ ρ:=
  ⟨λ b h=>h.elim,λ id v o h=>⟨v,o,h,zac _,λ _=>⟨rfl,t7.refl o,λ b cs e fr a j=>⟨cs,e,fr,by
   obtain ⟨m,d⟩:=adb h (.inl a)
   rw [f m b d,j],rfl⟩⟩⟩⟩
 refine (g.obj id v o h).stays i rfl (λ _=>rfl) λ b a=>?_;obtain ⟨m,d⟩:=adb h a;exact f m b d
def Fam.T (F:Fam):AbsT where
 size:=F.n
 Q w b i:=∃os ρ,F.S os/\Lie w os ρ/\ρ (.o 1000000)=some b/\∀m,i m=ud os ρ m
 loc:=by
  rintro w w' b i ⟨os,ρ,f,d,l,g⟩ v a;refine ⟨os,ρ,f,d.stays λ m c r=>?_,l,g⟩;rw [<- g] at r;exact a m c r
 root:=by
  rintro w b i ⟨os,ρ,f,d,l,g⟩;obtain ⟨q,hc,u⟩:=F.root f;obtain ⟨A,cs,e,h,p,t,_⟩:=d.obj 1000000 0 _ (j9 (k:=0) hc);rw [l] at h;cases h;exact ⟨cs,e,p,by rw [t,u]⟩
 lt:=by
  rintro w b i ⟨os,ρ,f,d,l,g⟩ j c hc;rw [g] at hc;obtain ⟨id,x,h,p⟩:=acx (by rw [F.len f]; exact F.pos) hc;exact (d.obj id x.1 x.2 h).foot_lt p
 view:=[]
 rp:=λ R z v a=>⟨λ _=>undef,λ j y s=>by simp at s⟩
def am3 (N M:Nat):Ren:=λ id ver=>if ver=0/\1000000+N<=id/\id<1000000+N+M then some (id-N+1,ver) else none
theorem Keeps.more {I J:Nat->Prop} {w w':World} (h:Keeps I w w') (e:∀b,I b->J b):Keeps J w w':=⟨h.os,h.tape,h.output,h.size,λ b a d=>h.block b a λ c=>d (e b c)⟩
def ay4:Ob->Prop
 | .row _ _ _ _ xs=>∀x,x∈xs->bt x
 | _=>False
section
variable {P:Program} {f:FuncId}
theorem acz {F F':Fam} (hN:F'.N=F.N) {as:List AV} {res:AV} {ex:List Ob} (h:∀os,F.S os->∃a,F'.S a/\a9 P f (.ptr 1000000 0 0::as) os res (a++ex)) (has:l5 as=[]) (h8:∀o∈ex,ay4 o) (A:x8 res) :
 a9 P f (.ptr 1000000 0 0::as) [.abs F.T] (imV (am3 F.N ex.length) res) (.abs F'.T::ex):=by
 intro w cargs ρ B hs hB hM hz I;have R:ob0 [Ob.abs F.T] 1000000=some (0,.abs F.T):=by simp [ob0,obs,upd]
 obtain ⟨b,h7,os,Y,hS,hL,hg,hn⟩:=hM.obj 1000000 0 (.abs F.T) R;obtain ⟨a,J,hT⟩:=h os hS;have g6:=F.len hS;have h5:a.length=F.N:=by rw [F'.len J,hN]
 have g5:=F.pos
 have M:∀c,ei (ob0 os) Y c->foot ρ 1000000 (.abs F.T) c:=λ c ⟨id,x,O,Q⟩=>by
  obtain ⟨m,hm⟩:=adb O Q;exact .inr ⟨rfl,m,(hn m).trans hm⟩
 have n:∀c,ei (ob0 os) Y c->ei (ob0 [Ob.abs F.T]) ρ c:=λ c hc=>⟨1000000,_,R,M c hc⟩
 obtain ⟨ht,ha,gb⟩:=F.root hS
 refine (hT w cargs Y B (hs.keep λ g h1 h2=>⟨rfl,λ hc=>h2 (n g hc)⟩) (λ c hc=>hB c (hc.imp (n c) id))
  ⟨λ id v o g=>?_,hL.inj,Keeps.refl _ _,λ id v o c O Q=>.inl ⟨id,_,O,Q⟩,λ id c g=>by cases g⟩ hz (λ i x c hx hc=>?_)).mono ?_
 ·obtain ⟨i,hi,_,d,_⟩:=an g;exact (hL.obj id v o g).flat (F.flat hS o (zaa d)).1
 ·cases i with
  | zero=>
    simp at hx;subst hx;have h0:=I 0 _ c rfl hc;cases h0 with
    | ptr _ _ _ _ h4 hat=>
      refine .ptr _ _ _ _ h4 ⟨0,_,j9 (k:=0) ha,zac _,λ _=>?_⟩;obtain ⟨b',hh,rfl⟩:=hat.live R;rw [h7] at hh;cases hh;exact ⟨b,hg,rfl⟩
  | succ i=>
    simp at hx;refine (I (i+1) x c (by simpa using hx) hc).free (al8 has hx) λ b hb=>⟨hb.1,?_,hb.2.2⟩
    rintro ⟨id,v,o,O,Q,g3⟩;exact hb.2.1 ⟨1000000,0,_,R,rfl,M b ⟨id,_,O,g3⟩⟩
 rintro e w' ⟨c,ρ',rfl,p,hr⟩
 have W:ρ' (.o 1000000)=some b:=(p.pin 1000000 b (by
  simp only [gt,j9 (k:=0) ha]
  exact hg)).1
 have D:∀(i:Nat) (o:Ob),a[i]?=some o->ob0 (a++ex) (1000000+i)=some (0,o):=λ i o d=>j9 (by rw [zae (zab.1 d).1]; exact d)
 have C:∀(k:Nat) (o:Ob),ex[k]?=some o->ob0 (a++ex) (1000000+F.N+k)=some (0,o):=λ k o d=>by
  rw [show 1000000+F.N+k=1000000+(F.N+k) by omega];exact j9 (by rw [zak (by omega),h5,Nat.add_sub_cancel_left]; exact d)
 have he:Lie w' a ρ':=by
  refine ⟨λ id v o g=>?_,λ id hd x x' c O Q f1 f2=>?_⟩
  ·obtain ⟨i,hi,rfl,d,hv⟩:=an g;simp only at d;have X:=zaa d;have hw:=F'.flat J o X;have g0:=F'.shut J o X;have hu:=((p.obj (1000000+i) 0 o (D i o d)).flat (R':=λ _=>False) hw.1)
   have hF:yw (ob0 (a++ex)) (ob0 a) ρ' ρ' (sb F'.N):=λ id ver j u A=>by
    unfold sb at A;split at A
    ·rename_i hc;cases A;obtain ⟨rfl,h4,hj⟩:=hc;obtain ⟨q,rfl⟩:∃q,id=1000000+q:=⟨id-1000000,by omega⟩
     have hq:a[q]?=some (a[q]'(by omega)):=by simp [show q<a.length by omega]
     exact ⟨_,_,D q _ hq,j9 hq,rfl,t7.refl _⟩
    cases A
   have:=hu.im (λ _ h=>h) hF (i:=1000000+i) rfl (λ _=>rfl)
   rwa [g0] at this
  obtain ⟨i,hi,rfl,d,_⟩:=an O;obtain ⟨i',gd,rfl,G,_⟩:=an Q;exact p.inj _ _ _ _ c (D i _ d) (D i' _ G) f1 f2
 obtain ⟨r,r1,r2,r3,r4⟩:∃r:Pl->Option Nat,r (.o 1000000)=some b/\(∀m,r (.s 1000000 m)=ud a ρ' m)/\(∀k,r (.o (1000001+k))=ρ' (.o (1000000+F.N+k)))/\(∀k j,r (.s (1000001+k) j)=none):=
  ⟨fun | .o i=>if i=1000000 then some b else ρ' (.o (i+F.N-1)) | .s i j=>if i=1000000 then ud a ρ' j else none,by simp,by simp,λ k=>by
   simp only;rw [if_neg (by omega),show 1000001+k+F.N-1=1000000+F.N+k by omega],λ k j=>by
   simp only
   rw [if_neg (by omega)]⟩
 have hA:ob0 (Ob.abs F'.T::ex) 1000000=some (0,.abs F'.T):=j9 (k:=0) rfl
 have hE:∀(k:Nat) (o:Ob),ex[k]?=some o->ob0 (Ob.abs F'.T::ex) (1000001+k)=some (0,o):=λ k o d=>by
  rw [show 1000001+k=1000000+(k+1) by omega];exact j9 (by simpa using d)
 have H:∀id x,ob0 (Ob.abs F'.T::ex) id=some x->(id=1000000/\x=(0,.abs F'.T))\/∃k o,id=1000001+k/\ex[k]?=some o/\x=(0,o):=λ id x hx=>by
  obtain ⟨i,hi,rfl,d,hv⟩:=an hx;cases i with
  | zero=>rw [hA] at hx; exact .inl ⟨rfl,(Option.some.inj hx).symm⟩
  | succ k=>
    simp at d;exact .inr ⟨k,x.2,by omega,d,by rw [<- hv]⟩
 have g4:∀(k:Nat) (o:Ob),ex[k]?=some o->o.isAbs=false:=λ k o d=>by
  have:=h8 o (zaa d);cases o<;>first | rfl | exact this.elim
 have t:∀c,foot r 1000000 (.abs F'.T) c->∃i o,a[i]?=some o/\foot ρ' (1000000+i) o c:=λ c hc=>by
  rcases hc with q | ⟨_,j,q⟩
  ·rw [r1] at q;cases q;exact ⟨0,a[0]'(by omega),by simp [show 0<a.length by omega],.inl W⟩
  rw [r2] at q;obtain ⟨id,x,O,Q⟩:=acx (by omega) q;obtain ⟨i,hi,rfl,d,_⟩:=an O;exact ⟨i,x.2,d,Q⟩
 have l:∀(k:Nat) (o:Ob),ex[k]?=some o->∀c,foot r (1000001+k) o c->foot ρ' (1000000+F.N+k) o c:=λ k o d c hc=>by
  rw [ca (g4 k o d)] at hc |-;rw [r3] at hc;exact hc
 have L:∀c,d6 B (ob0 (a++ex)) ρ' w' c->d6 B (ob0 (Ob.abs F'.T::ex)) r w' c:=λ c hc=>by
  refine ⟨hc.1,?_,hc.2.2⟩;rintro ⟨id,v,o,O,Q,g3⟩;rcases H id _ O with ⟨rfl,hx⟩ | ⟨k,o',rfl,d,hx⟩
  ·cases hx;obtain ⟨i,o,d,A⟩:=t c g3;exact hc.2.1 ⟨_,_,_,D i o d,(F'.flat J o (zaa d)).2,A⟩
  cases hx;exact hc.2.1 ⟨_,_,_,C k o d,Q,l k o d c g3⟩
 have hF:yw (ob0 (a++ex)) (ob0 (Ob.abs F'.T::ex)) ρ' r (am3 F.N ex.length):=λ id ver j u A=>by
  unfold am3 at A;split at A
  ·rename_i hc;cases A;obtain ⟨rfl,h4,hj⟩:=hc;obtain ⟨k,rfl⟩:∃k,id=1000000+F.N+k:=⟨id-1000000-F.N,by omega⟩
   have hk:ex[k]?=some (ex[k]'(by omega)):=by simp [show k<ex.length by omega]
   have e1:1000000+F.N+k-F.N+1=1000001+k:=by omega
   refine ⟨_,_,C k _ hk,by rw [e1]; exact hE k _ hk,by rw [e1,r3],t7.refl _⟩
  cases A
 refine ⟨c,r,rfl,⟨λ id v o hx=>?_,λ id hd x x' c hx hl A h3=>?_,p.keeps.more n,λ id v o c hx A=>?_,λ id c Z=>?_⟩,hr.im L hF⟩
 ·rcases H id _ hx with ⟨rfl,hx⟩ | ⟨k,o',rfl,d,hx⟩
  ·cases hx;exact ⟨b,r1,a,ρ',J,he,W,r2⟩
  cases hx;have h9:=h8 o (zaa d);cases o with
  | row sz z app wr xs=>
    have:=(p.obj _ 0 _ (C k _ d)).im L hF (i:=1000001+k) (r3 k);rcases p.obj _ 0 _ (C k _ d) with ⟨q1,q2⟩ | ⟨b1,cs,e,fr,q1,q2,q3,q4,q5,q6⟩
    ·exact .inl ⟨q1,by rw [r3]; exact q2⟩
    refine .inr ⟨b1,cs,e,fr,by rw [r3]; exact q1,q2,q3,q4,q5,λ i x hx=>⟨(q6 i x hx).1,λ j y hy=>?_⟩⟩;obtain ⟨u,t1,t2,t3⟩:=(q6 i x hx).2 j y hy;exact ⟨u,t1,t2,t3.flat (gi.cells (h9 x (zaa hx)) hy)⟩
  | _=>exact h9.elim
 ·rcases H id _ hx with ⟨rfl,U⟩ | ⟨k,o,rfl,d,U⟩<;>rcases H hd _ hl with ⟨rfl,V⟩ | ⟨k',o',rfl,G,V⟩
  ·rfl
  ·subst U; subst V;obtain ⟨i,o,E,K⟩:=t c A;have:=p.inj _ _ _ _ c (D i o E) (C k' o' G) K (l k' o' G c h3);have:=(zab.1 E).1;omega
  ·subst U; subst V;obtain ⟨i,o',E,K⟩:=t c h3;have:=p.inj _ _ _ _ c (D i o' E) (C k o d) K (l k o d c A);have:=(zab.1 E).1;omega
  subst U; subst V;have:=p.inj _ _ _ _ c (C k o d) (C k' o' G) (l k o d c A) (l k' o' G c h3);omega
 ·rcases H id _ hx with ⟨rfl,hx⟩ | ⟨k,o',rfl,d,hx⟩
  ·cases hx;obtain ⟨i,o,E,K⟩:=t c A;exact (p.own _ 0 o c (D i o E) K).imp (n c) id
  cases hx;exact (p.own _ 0 o c (C k o d) (l k o d c A)).imp (n c) id
 simp only [gt] at Z;split at Z
 ·rename_i v o hx;split at Z
  ·rename_i ga
   have h6:id=1000000:=by
    obtain ⟨i,hi,rfl,_,_⟩:=an hx;simpa using hi
   subst h6;rw [h7] at Z;cases Z;exact ⟨r1,_,hA,rfl,λ h=>by cases h⟩
  cases Z
 cases Z
theorem au1 {F:Fam} {as:List AV} {a:List Ob} (p:F.S a) (hT:a9 P f as [] (.ptr 1000000 0 0) a):a9 P f as [] (.ptr 1000000 0 0) [.abs F.T]:=by
 intro w cargs ρ B G Y hM M r;have I:=F.len p;have R:=F.pos;refine (hT w cargs ρ B G Y hM M r).mono ?_;rintro e w' ⟨c,ρ',rfl,l,hr⟩;obtain ⟨K,y,Z⟩:=F.root p;obtain ⟨b,_,_,d,_⟩:=l.obj 1000000 0 _ (j9 (k:=0) y);have N:∀(i:Nat) (o:Ob),a[i]?=some o->ob0 a (1000000+i)=some (0,o):=λ i o u=>j9 u
 have A:Lie w' a ρ':=by
  refine ⟨λ id v o g=>?_,l.inj⟩;obtain ⟨i,C,rfl,u,V⟩:=an g;exact (l.obj _ _ _ g).flat (F.flat p o (zaa u)).1
 obtain ⟨h,D,U⟩:∃h:Pl->Option Nat,h (.o 1000000)=some b/\(∀m,h (.s 1000000 m)=ud a ρ' m):=
  ⟨fun | .o i=>if i=1000000 then some b else none | .s i j=>if i=1000000 then ud a ρ' j else none,by simp,by simp⟩
 have Q:ob0 [Ob.abs F.T] 1000000=some (0,.abs F.T):=j9 (k:=0) rfl
 have n:∀id x,ob0 [Ob.abs F.T] id=some x->id=1000000/\x=(0,.abs F.T):=λ id x hx=>by
  obtain ⟨i,C,rfl,u,V⟩:=an hx;have W:i=0:=by simpa using C
  subst W;rw [Q] at hx;exact ⟨rfl,(Option.some.inj hx).symm⟩
 have t:∀c,foot h 1000000 (.abs F.T) c->∃i o,a[i]?=some o/\foot ρ' (1000000+i) o c:=λ c hc=>by
  rcases hc with q | ⟨_,j,q⟩
  ·rw [D] at q;cases q;exact ⟨0,a[0]'(by omega),by simp [show 0<a.length by omega],.inl d⟩
  rw [U] at q;obtain ⟨id,x,g1,g2⟩:=acx (by omega) q;obtain ⟨i,C,rfl,u,_⟩:=an g1;exact ⟨i,x.2,u,g2⟩
 refine ⟨c,h,rfl,⟨λ id v o hx=>?_,λ id L x x' c hx E O X=>?_,l.keeps,λ id v o c hx O=>?_,λ id c hp=>?_⟩,?_⟩
 ·obtain ⟨rfl,hx⟩:=n id _ hx;cases hx;exact ⟨b,D,a,ρ',p,A,d,U⟩
 ·rw [(n id _ hx).1,(n L _ E).1]
 ·obtain ⟨rfl,hx⟩:=n id _ hx;cases hx;obtain ⟨i,o,J,H⟩:=t c O;exact l.own _ 0 o c (N i o J) H
 ·simp [gt,ob0,obs] at hp
 cases hr with
 | ptr _ _ _ _ hc1 hat=>
   refine .ptr _ _ _ _ hc1 ⟨0,_,Q,zac _,λ _=>?_⟩;obtain ⟨b',z,rfl⟩:=hat.live (j9 (k:=0) y);rw [d] at z;cases z;exact ⟨b,D,rfl⟩
def dnF (M:Nat):Ren:=λ id ver=>if ver=0/\1000001<=id/\id<1000001+M then some (id-1,ver) else none
def upF (M:Nat):Ren:=λ id ver=>if ver=0/\1000000<=id/\id<1000000+M then some (id+1,ver) else none
theorem ay8 {T:AbsT} {as as':List AV} {po a m hb:List Ob} {res W:AV} (h:a9 P f (.rp T.view::as) po res m)
 (ha:imL (dnF a.length) as'=as) (O:a.map (imO (dnF a.length))=po) (hr:m.map (imO (upF m.length))=hb) (h7:imV (upF m.length) res=W)
 (g0:∀o∈a,lh o) (hl:∀o∈m,lh o) (hw:x8 res) :
 a9 P f (.ptr 1000000 0 0::as') (.abs T::a) W (.abs T::hb):=by
 subst ha O hr h7;intro w cargs ρ B ht hB hM hz M;have J:ob0 (Ob.abs T::a) 1000000=some (0,.abs T):=j9 (k:=0) rfl
 have t:∀(k:Nat) (o:Ob),a[k]?=some o->ob0 (Ob.abs T::a) (1000001+k)=some (0,o):=λ k o l=>by
  rw [show 1000001+k=1000000+(k+1) by omega];exact j9 (by simpa using l)
 obtain ⟨b,I,hQ⟩:=hM.obj 1000000 0 (.abs T) J
 obtain ⟨n,d1,d2⟩:∃n:Pl->Option Nat,(∀k,n (.o (1000000+k))=ρ (.o (1000001+k)))/\(∀k j,n (.s (1000000+k) j)=ρ (.s (1000001+k) j)):=
  ⟨fun | .o i=>ρ (.o (i+1)) | .s i j=>ρ (.s (i+1) j),λ k=>by simp only; rw [show 1000000+k+1=1000001+k by omega],λ k j=>by simp only; rw [show 1000000+k+1=1000001+k by omega]⟩
 have X:∀(F:Ren) (o:Ob),(imO F o).isAbs=o.isAbs:=λ F o=>by cases o<;>rfl
 have Y:∀(F:Ren) (o:Ob),(imO F o).pinned=o.pinned:=λ F o=>by cases o<;>rfl
 have h9:∀(F:Ren) (o:Ob),(imO F o).own=o.own:=λ F o=>by cases o<;>rfl
 have hA:∀id v o,ob0 (a.map (imO (dnF a.length))) id=some (v,o)->∃k o',id=1000000+k/\v=0/\a[k]?=some o'/\o=imO (dnF a.length) o':=λ id v o hx=>by
  obtain ⟨i,hi,rfl,l,hv⟩:=an hx;rw [zaf,zal] at l;obtain ⟨o',d,e⟩:=l;exact ⟨i,o',rfl,hv,d,e.symm⟩
 have p:∀k o F c,foot n (1000000+k) (imO F o) c↔foot ρ (1000001+k) o c:=λ k o F c=>sf (d1 k) (d2 k) (X F o)
 have A:∀c,ei (ob0 (a.map (imO (dnF a.length)))) n c->ei (ob0 (Ob.abs T::a)) ρ c:=λ c ⟨id,x,V,Q⟩=>by
  obtain ⟨k,o',rfl,hv,d,e⟩:=hA id x.1 x.2 V;rw [e,p] at Q;exact ⟨_,_,t k o' d,Q⟩
 have L:∀c,foot ρ 1000000 (.abs T) c->¬ei (ob0 (a.map (imO (dnF a.length)))) n c:=λ c hc ⟨id,x,V,Q⟩=>by
  obtain ⟨k,o',rfl,hv,d,e⟩:=hA id x.1 x.2 V;rw [e,p] at Q;have:=hM.inj _ _ _ _ c J (t k o' d) hc Q;omega
 have h8:∀c,Own (ob0 (a.map (imO (dnF a.length)))) n c->Own (ob0 (Ob.abs T::a)) ρ c:=λ c ⟨id,v,o,V,Q,g3⟩=>by
  obtain ⟨k,o',rfl,hv,d,rfl⟩:=hA id v o V;rw [p] at g3;exact ⟨_,_,_,t k o' d,by rw [<- h9]; exact Q,g3⟩
 have h5:∀c,d6 B (ob0 (Ob.abs T::a)) ρ w c->d6 B (ob0 (a.map (imO (dnF a.length)))) n w c:=λ c hc=>⟨hc.1,λ h=>hc.2.1 (h8 c h),hc.2.2⟩
 have E:∀c,foot ρ 1000000 (.abs T) c->c<w.heap.size:=λ c hc=>(hM.obj 1000000 0 (.abs T) J).foot_lt hc
 have C:∀c,foot ρ 1000000 (.abs T) c->d6 B (ob0 (a.map (imO (dnF a.length)))) n w c:=λ c hc=>
  ⟨E c hc,λ ⟨id,v,o,V,Q,g3⟩=>L c hc ⟨id,_,V,g3⟩,hB c (.inl ⟨_,_,J,hc⟩)⟩
 have hF:yw (ob0 (Ob.abs T::a)) (ob0 (a.map (imO (dnF a.length)))) ρ n (dnF a.length):=λ id ver j u D=>by
  unfold dnF at D;split at D
  ·rename_i hc;cases D;obtain ⟨rfl,hh,hq⟩:=hc;obtain ⟨k,rfl⟩:∃k,id=1000001+k:=⟨id-1000001,by omega⟩
   have hk:a[k]?=some (a[k]'(by omega)):=by simp [show k<a.length by omega]
   have e1:1000001+k-1=1000000+k:=by omega
   refine ⟨_,_,t k _ hk,by rw [e1]; exact j9 (by rw [zaf,hk]; rfl),by rw [e1,d1],t7.im _ _⟩
  cases D
 refine (h w cargs n B (ht.keep λ g h1 h2=>⟨rfl,λ hc=>h2 (A g hc)⟩) (λ c hc=>hB c (hc.imp (A c) id))
  ⟨λ id v o g=>?_,λ id h4 x x' c g g' f f'=>?_,Keeps.refl _ _,λ id v o c V Q=>.inl ⟨id,_,V,Q⟩,λ id c g=>by cases g⟩ (by rw [hz]; simp [cr]) (λ i x c hx hc=>?_)).mono ?_
 ·obtain ⟨k,o',rfl,rfl,d,rfl⟩:=hA id v o g;exact ((hM.obj _ _ _ (t k o' d)).flat (R':=λ _=>False) (g0 o' (zaa d))).im (λ _ h=>h.elim) hF (d1 k) (d2 k)
 ·obtain ⟨k,o,rfl,hv,l,e⟩:=hA id x.1 x.2 g;obtain ⟨k',o',rfl,g4,d,e'⟩:=hA h4 x'.1 x'.2 g';rw [e,p] at f;rw [e',p] at f';have:=hM.inj _ _ _ _ c (t k o l) (t k' o' d) f f';omega
 ·cases i with
  | zero=>
    simp at hx;subst hx;have h0:=M 0 _ c rfl hc;cases h0 with
    | ptr _ _ _ _ hh hat=>
      obtain ⟨b',hj,rfl⟩:=hat.live J;rw [I] at hj;cases hj;obtain ⟨g,hg⟩:=T.rp (d6 B (ob0 (a.map (imO (dnF a.length)))) n w) hQ (C b (.inl I)) λ j c hc=>C c (.inr ⟨rfl,j,hc⟩);exact .rp T.view b 0 g (C b (.inl I)) hg
  | succ i=>
    simp at hx;rw [qu,zal] at hx;obtain ⟨y,hy,rfl⟩:=hx;exact (M (i+1) y c (by simpa using hy) hc).im h5 hF
 rintro e w' ⟨c,ρ',rfl,G,hu⟩;have Z:∀c,foot ρ 1000000 (.abs T) c->w'.heap[c]?=w.heap[c]?:=λ c hc=>G.keeps.block c (E c hc) (L c hc)
 obtain ⟨z,r1,r2,r3,r4⟩:∃z:Pl->Option Nat,z (.o 1000000)=some b/\(∀j,z (.s 1000000 j)=ρ (.s 1000000 j))/\(∀k,z (.o (1000001+k))=ρ' (.o (1000000+k)))/\(∀k j,z (.s (1000001+k) j)=ρ' (.s (1000000+k) j)):=
  ⟨fun | .o i=>if i=1000000 then some b else ρ' (.o (i-1)) | .s i j=>if i=1000000 then ρ (.s 1000000 j) else ρ' (.s (i-1) j),by simp,by simp,
   λ k=>by simp only; rw [if_neg (by omega),show 1000001+k-1=1000000+k by omega],λ k j=>by simp only; rw [if_neg (by omega),show 1000001+k-1=1000000+k by omega]⟩
 have hd:ob0 (Ob.abs T::m.map (imO (upF m.length))) 1000000=some (0,.abs T):=j9 (k:=0) rfl
 have hE:∀(k:Nat) (o:Ob),m[k]?=some o->ob0 (Ob.abs T::m.map (imO (upF m.length))) (1000001+k)=some (0,imO (upF m.length) o):=λ k o l=>by
  rw [show 1000001+k=1000000+(k+1) by omega];exact j9 (by simp [l])
 have R:∀id x,ob0 (Ob.abs T::m.map (imO (upF m.length))) id=some x->(id=1000000/\x=(0,.abs T))\/∃k o,id=1000001+k/\m[k]?=some o/\x=(0,imO (upF m.length) o):=λ id x hx=>by
  obtain ⟨i,hi,rfl,l,hv⟩:=an hx;cases i with
  | zero=>rw [hd] at hx; exact .inl ⟨rfl,(Option.some.inj hx).symm⟩
  | succ k=>
    simp at l;obtain ⟨o,l,e⟩:=l;exact .inr ⟨k,o,by omega,l,by rw [e,<- hv]⟩
 have H:∀c,foot z 1000000 (.abs T) c->foot ρ 1000000 (.abs T) c:=λ c hc=>by
  rcases hc with q | ⟨_,j,q⟩
  ·rw [r1] at q; exact .inl (I.trans q)
  rw [r2] at q; exact .inr ⟨rfl,j,q⟩
 have r:∀k o F c,foot z (1000001+k) (imO F o) c↔foot ρ' (1000000+k) o c:=λ k o F c=>sf (r3 k) (r4 k) (X F o);have K:∀(k:Nat) (o:Ob),m[k]?=some o->ob0 m (1000000+k)=some (0,o):=λ k o l=>j9 l
 have N:∀k o c,m[k]?=some o->foot ρ' (1000000+k) o c->¬foot ρ 1000000 (.abs T) c:=λ k o c l hc hT=>by
  rcases G.own _ 0 o c (K k o l) hc with q | q
  ·exact L c hT q
  have q':w.heap.size<=c:=q;have:=E c hT;omega
 have he:yw (ob0 m) (ob0 (Ob.abs T::m.map (imO (upF m.length)))) ρ' z (upF m.length):=λ id ver j u D=>by
  unfold upF at D;split at D
  ·rename_i hc;cases D;obtain ⟨rfl,hh,hq⟩:=hc;obtain ⟨k,rfl⟩:∃k,id=1000000+k:=⟨id-1000000,by omega⟩
   have hk:m[k]?=some (m[k]'(by omega)):=by simp [show k<m.length by omega]
   have e1:1000000+k+1=1000001+k:=by omega
   exact ⟨_,_,K k _ hk,by rw [e1]; exact hE k _ hk,by rw [e1,r3],t7.im _ _⟩
  cases D
 refine ⟨c,z,rfl,⟨λ id v o hx=>?_,λ id h4 x x' c hx hs D h3=>?_,G.keeps.more A,λ id v o c hx D=>?_,λ id c O=>?_⟩,(hu.flat (R':=λ _=>False) hw).im (λ _ h=>h.elim) he⟩
 ·rcases R id _ hx with ⟨rfl,hx⟩ | ⟨k,o',rfl,l,hx⟩
  ·cases hx;refine ⟨b,r1,?_⟩;rw [show (λ j=>z (.s 1000000 j))=λ j=>ρ (.s 1000000 j) from funext r2];exact T.loc hQ (Z b (.inl I)) λ j c hc=>Z c (.inr ⟨rfl,j,hc⟩)
  cases hx;exact ((G.obj _ _ _ (K k o' l)).flat (R':=λ _=>False) (hl o' (zaa l))).im (λ _ h=>h.elim) he (r3 k) (r4 k)
 ·rcases R id _ hx with ⟨rfl,S⟩ | ⟨k,o,rfl,l,S⟩<;>rcases R h4 _ hs with ⟨rfl,U⟩ | ⟨k',o',rfl,d,U⟩
  ·rfl
  ·subst S; subst U;exact (N k' o' c d ((r ..).1 h3) (H c D)).elim
  ·subst S; subst U;exact (N k o c l ((r ..).1 D) (H c h3)).elim
  subst S; subst U;have:=G.inj _ _ _ _ c (K k o l) (K k' o' d) ((r ..).1 D) ((r ..).1 h3);omega
 ·rcases R id _ hx with ⟨rfl,hx⟩ | ⟨k,o',rfl,l,hx⟩
  ·cases hx;exact .inl ⟨_,_,J,H c D⟩
  cases hx;exact (G.own _ 0 o' c (K k o' l) ((r ..).1 D)).imp (A c) id
 simp only [gt] at O;split at O
 ·rename_i v o hx;split at O
  ·rename_i hm;obtain ⟨i,hi,rfl,l,hv⟩:=an hx;cases i with
   | zero=>
     rw [I] at O;cases O;exact ⟨r1,_,hd,rfl,λ h=>by cases h⟩
   | succ k=>
     simp at l
     have h6:=G.pin (1000000+k) c (by
      have:ob0 (a.map (imO (dnF a.length))) (1000000+k)=some (0,imO (dnF a.length) o):=j9 (by rw [zaf,l]; rfl);simp only [gt,this,Y];rw [if_pos hm,d1];rw [show 1000001+k=1000000+(k+1) by omega]
      exact O)
     obtain ⟨q1,o2,q2,q3⟩:=h6;obtain ⟨i2,g5,e2,hn,_⟩:=an q2;have:i2=k:=by omega
     subst this;rw [show 1000000+(i2+1)=1000001+i2 by omega];exact ⟨by rw [r3]; exact q1,_,hE i2 _ hn,by rw [Y]; exact q3.1,by rw [afc]; exact q3.2⟩
  cases O
 cases O
end

def cb (xs:List Value) (m:Nat):List AV:=xs.map (λ x=>AV.r (.v x))++List.replicate m .undef
section
variable {P:Program} {f:FuncId} {as:List AV} {res:AV}
theorem ay9 {po:List Ob} {ys:List Value} {z:RV} {n:Nat} (hl:ys.length=n) (h8:po.length<=os.length) (h5:∀o∈os,imO (sb os.length) o=o) (hy:∀y∈ys,y.oneCell'=true)
 (h:ad8 P f args po λ v ro=>∃m,v=.own (1000000+os.length) 0 0 n/\ro=os++[.box (cb ys m)]) :
 a9 P f args po (.own (1000000+os.length) 0 0 n) (os++[.row 1 z true true (ys.map RV.v)]):=by
 intro w cargs ρ B W hB hM h3 t;refine (h w cargs ρ B W hB hM h3 t).mono ?_;rintro e w' ⟨c,ρ',res,ro,rfl,⟨m,rfl,rfl⟩,d,hr⟩;have k:∀(x:Ob) (i:Nat) (o:Ob),os[i]?=some o->ob0 (os++[x]) (1000000+i)=some (0,o):=λ x i o a=>j9 (by rw [zae (zab.1 a).1]; exact a);have s:∀x:Ob,ob0 (os++[x]) (1000000+os.length)=some (0,x):=λ x=>j9 (by simp)
 have H:∀(y:Ob) (id:Nat) (x:Nat×Ob),ob0 (os++[y]) id=some x->(∃i o,id=1000000+i/\os[i]?=some o/\x=(0,o))\/(id=1000000+os.length/\x=(0,y)):=λ y id x hx=>by
  obtain ⟨i,N,rfl,a,hv⟩:=an hx;by_cases p:i<os.length
  ·rw [zae p] at a;exact .inl ⟨i,x.2,rfl,a,by rw [<- hv]⟩
  have:i=os.length:=by simp at N; omega
  subst this;rw [zak (zac _)] at a;simp at a;exact .inr ⟨rfl,by rw [a,<- hv]⟩
 have l:∀(id:Nat) (x:Nat×Ob) (b:Nat),ob0 (os++[Ob.row 1 z true true (ys.map RV.v)]) id=some x->foot ρ' id x.2 b->∃x',ob0 (os++[Ob.box (cb ys m)]) id=some x'/\foot ρ' id x'.2 b/\(x.2.own=true->x'.2.own=true)/\x'.1=x.1:=λ id x b hx g=>by
  rcases H _ id x hx with ⟨i,o,rfl,a,rfl⟩ | ⟨rfl,rfl⟩
  ·exact ⟨_,k _ i o a,g,λ h=>h,rfl⟩
  rw [ca rfl] at g;exact ⟨_,s _,by rw [ca rfl]; exact g,λ _=>rfl,rfl⟩
 have G:∀c,d6 B (ob0 (os++[Ob.box (cb ys m)])) ρ' w' c->d6 B (ob0 (os++[Ob.row 1 z true true (ys.map RV.v)])) ρ' w' c:=λ c hc=>⟨hc.1,λ ⟨id,v,o,g1,g2,g3⟩=>by
  obtain ⟨x',C,D,X,_⟩:=l id _ c g1 g3
  exact hc.2.1 ⟨id,x'.1,x'.2,C,X g2,D⟩,hc.2.2⟩
 have hF:yw (ob0 (os++[Ob.box (cb ys m)])) (ob0 (os++[Ob.row 1 z true true (ys.map RV.v)])) ρ' ρ' (sb os.length):=λ id ver j u g=>by
  unfold sb at g;split at g
  ·rename_i hc;cases g;obtain ⟨rfl,K,h9⟩:=hc;obtain ⟨q,rfl⟩:∃q,id=1000000+q:=⟨id-1000000,by omega⟩
   have hq:os[q]?=some (os[q]'(by omega)):=by simp [show q<os.length by omega]
   exact ⟨_,_,k _ q _ hq,k _ q _ hq,rfl,t7.refl _⟩
  cases g
 have J:ys.length<=(cb ys m).length:=by unfold cb; simp
 refine ⟨c,ρ',rfl,⟨λ id v o hx=>?_,λ id I x x' b hx V g Y=>?_,d.keeps,λ id v o b hx g=>?_,λ id b M=>?_⟩,?_⟩
 ·rcases H _ id _ hx with ⟨i,o',rfl,a,F⟩ | ⟨rfl,F⟩
  ·cases F;have:=(d.obj (1000000+i) 0 o (k _ i o a)).im G hF (i:=1000000+i) rfl (λ _=>rfl)
   rwa [h5 o (zaa a)] at this
  cases F;obtain ⟨b,cs,ee,S,Q,Z,k4⟩:=d.obj _ 0 _ (s _);refine .inr ⟨b,cs,ee,(0,0),S,Q,by simp,λ _=>rfl,by rw [Z]; simpa using J,λ i x hx=>?_⟩;rw [zaf,zal] at hx;obtain ⟨y,E,rfl⟩:=hx;have N:=(zab.1 E).1;refine ⟨rfl,λ j y' U=>?_⟩
  have O:j=0:=by
   have:=(zab.1 U).1;simp [RV.cells] at this;omega
  subst O;simp [RV.cells] at U;subst U;have p:i<cs.size:=by omega
  have hb:(cb ys m)[i]?=some (.r (.v y)):=by
   unfold cb;rw [zae (by simpa using N)];simp [E]
  have T:=k4 i _ cs[i] hb (by simp [p]);cases T with
  | r h0=>
    cases h0;exact ⟨cs[i],by simp [p],hy _ (zaa E),.v _⟩
 ·obtain ⟨y,C,D,_⟩:=l id x b hx g;obtain ⟨y',h6,h4,_⟩:=l I x' b V Y;exact d.inj id I y y' b C h6 D h4
 ·obtain ⟨y,C,D,_⟩:=l id _ b hx g;exact d.own id y.1 y.2 b C D
 ·obtain ⟨C,o,D,X⟩:=d.pin id b M;refine ⟨C,?_⟩;rcases H _ id _ D with ⟨i,o',rfl,a,hx⟩ | ⟨rfl,hx⟩
  ·cases hx;exact ⟨o,k _ i o a,X⟩
  exfalso;simp only [gt] at M;split at M
  ·rename_i v o1 h1;obtain ⟨i,N,h7,_,_⟩:=an h1;omega
  cases M
 cases hr with
 | own _ _ _ _ _ K hat1=>
   obtain ⟨A,cap,rfl,S,Q,Z⟩:=hat1.live (s _);refine .own _ _ _ _ _ K ⟨0,_,s _,zac _,λ _=>⟨A,cap,rfl,S,Q,by simp [hl],λ L=>?_⟩⟩;obtain ⟨b',R,e',h2,t1,t2,t3,t4⟩:=Z L;exact ⟨b',R,e',h2,t1,by simpa using t2,t3,by simpa using t4⟩
theorem alv {po:List Ob} {sz:Nat} {z:RV} (Z:po.length<=os.length) (L:∀o∈os,imO (sb os.length) o=o)
 (h:a9 P f args po (.nils sz z) os):a9 P f args po (.own (1000000+os.length) 0 0 0) (os++[.row sz z true true []]):=by
 intro w cargs ρ B O W Y Q r;refine (h w cargs ρ B O W Y Q r).mono ?_;rintro e w' ⟨c,ρ',rfl,l,hr⟩;cases hr;have F:∀(x:Ob) (i:Nat) (o:Ob),os[i]?=some o->ob0 (os++[x]) (1000000+i)=some (0,o):=λ x i o d=>j9 (by rw [zae (zab.1 d).1]; exact d);have H:∀x:Ob,ob0 (os++[x]) (1000000+os.length)=some (0,x):=λ x=>j9 (by simp)
 have C:∀(y:Ob) (id:Nat) (x:Nat×Ob),ob0 (os++[y]) id=some x->(∃i o,i<os.length/\id=1000000+i/\os[i]?=some o/\x=(0,o))\/(id=1000000+os.length/\x=(0,y)):=λ y id x hx=>by
  obtain ⟨i,g,rfl,d,R⟩:=an hx;by_cases D:i<os.length
  ·rw [zae D] at d;exact .inl ⟨i,x.2,D,rfl,d,by rw [<- R]⟩
  have:i=os.length:=by simp at g; omega
  subst this;rw [zak (zac _)] at d;simp at d;exact .inr ⟨rfl,by rw [d,<- R]⟩
 obtain ⟨a,G,U,T,r4⟩:∃a:Pl->Option Nat,(∀i,i<os.length->a (.o (1000000+i))=ρ' (.o (1000000+i)))/\(∀i j,i<os.length->a (.s (1000000+i) j)=ρ' (.s (1000000+i) j))/\a (.o (1000000+os.length))=none/\(∀j,a (.s (1000000+os.length) j)=none):=
  ⟨fun | .o i=>if i=1000000+os.length then none else ρ' (.o i) | .s i j=>if i=1000000+os.length then none else ρ' (.s i j),λ i g=>by simp only; rw [if_neg (by omega)],λ i j g=>by simp only; rw [if_neg (by omega)],by simp,by simp⟩
 have m:∀(id:Nat) (x:Nat×Ob) (b:Nat),ob0 (os++[Ob.row sz z true true []]) id=some x->foot a id x.2 b->ob0 os id=some x/\foot ρ' id x.2 b:=λ id x b hx k=>by
  rcases C _ id x hx with ⟨i,o,g,rfl,d,rfl⟩ | ⟨rfl,rfl⟩
  ·refine ⟨j9 d,?_⟩;rcases k with q | ⟨I,j,q⟩
   ·exact .inl (by rw [<- G i g]; exact q)
   exact .inr ⟨I,j,by rw [<- U i j g]; exact q⟩
  rcases k with q | ⟨I,j,q⟩
  ·rw [T] at q; cases q
  cases I
 have n:∀c,d6 B (ob0 os) ρ' w' c->d6 B (ob0 (os++[Ob.row sz z true true []])) a w' c:=λ c hc=>⟨hc.1,λ ⟨id,v,o,g1,g2,V⟩=>by
  obtain ⟨t,p⟩:=m id _ c g1 V
  exact hc.2.1 ⟨id,v,o,t,g2,p⟩,hc.2.2⟩
 have X:yw (ob0 os) (ob0 (os++[Ob.row sz z true true []])) ρ' a (sb os.length):=λ id ver j u k=>by
  unfold sb at k;split at k
  ·rename_i hc;cases k;obtain ⟨rfl,h0,h1⟩:=hc;obtain ⟨q,rfl⟩:∃q,id=1000000+q:=⟨id-1000000,by omega⟩
   have S:os[q]?=some (os[q]'(by omega)):=by simp [show q<os.length by omega]
   exact ⟨_,_,j9 S,F _ q _ S,G q (by omega),t7.refl _⟩
  cases k
 refine ⟨_,a,rfl,⟨λ id v o hx=>?_,λ id E x x' b hx N k J=>?_,l.keeps,λ id v o b hx k=>?_,λ id b hp=>?_⟩,?_⟩
 ·rcases C _ id _ hx with ⟨i,o',g,rfl,d,A⟩ | ⟨rfl,A⟩
  ·cases A;have:=(l.obj (1000000+i) 0 o (j9 d)).im n X (i:=1000000+i) (G i g) (λ j=>U i j g)
   rwa [L o (zaa d)] at this
  cases A;exact .inl ⟨rfl,T,rfl⟩
 ·obtain ⟨t,p⟩:=m id x b hx k;obtain ⟨M,K⟩:=m E x' b N J;exact l.inj id E x x' b t M p K
 ·obtain ⟨t,p⟩:=m id _ b hx k;exact l.own id v o b t p
 ·obtain ⟨t,o,p,q3⟩:=l.pin id b hp;obtain ⟨i,g,rfl,d,_⟩:=an p;exact ⟨by rw [G i g]; exact t,o,F _ i o d,q3⟩
 exact .own _ _ _ _ _ rfl ⟨0,_,H _,zac _,λ _=>⟨none,0,rfl,zac _,by simp,by simp,by simp⟩⟩
end

variable {a b:Prop}
theorem sI (c:b) (d:a:=by first | decide | omega | exact λ _=>by decide | (simp +contextual; done) | kernel_rfl):a/\b:=⟨d,c⟩
theorem sJ (c:b) (d:a:=by first | omega | (simp; done) | (simp; omega) | kernel_rfl):a/\b:=⟨d,c⟩
theorem sL (c:b) (d:a:=by first | omega | (simp only [maxLen]; omega) | (simp; done) | (show _=true; kernel_rfl)):a/\b:=⟨d,c⟩
theorem sO (c:b) (d:a:=by omega):a/\b:=⟨d,c⟩
def p_m (d s:Nat):PR:=⟨some d,none,0,.see (.mov (.t s))⟩
def p_s (d:Nat) (x:PO):PR:=⟨some d,none,0,.see x⟩
def p_a (d:Nat) (x:PO):PR:=⟨some d,none,0,.act x⟩
def p_c (d u f:Nat) (xs:List Opd):PR:=⟨some d,none,u,.call f xs⟩
def p_g (d g:Nat) (b:Bool) (x:PO):PR:=⟨some d,some (g,b),0,.see x⟩
def o_i (n:Int):Opd:=.c (.r (.v (.int .i64 n)))
theorem rf (d s:Nat):p_m d s=⟨some d,none,0,.see (.mov (.t s))⟩:=(rfl)
theorem re (d:Nat) (x:PO):p_s d x=⟨some d,none,0,.see x⟩:=(rfl)
theorem rk (d:Nat) (x:PO):p_a d x=⟨some d,none,0,.act x⟩:=(rfl)
theorem rj (d u f:Nat) (xs:List Opd):p_c d u f xs=⟨some d,none,u,.call f xs⟩:=(rfl)
theorem ri (d g:Nat) (b:Bool) (x:PO):p_g d g b x=⟨some d,some (g,b),0,.see x⟩:=(rfl)
theorem rm (n:Int):o_i n=.c (.r (.v (.int .i64 n))):=(rfl)
attribute [push_cast high] rf re rk rj ri rm
def b8 (x:Int):Prop:=-9223372036854775808<=x/\x<=9223372036854775807
instance (x:Int):Decidable (b8 x):=inferInstanceAs (Decidable (_/\_))
theorem a7 {x:Int} (h:-9223372036854775808<=x/\x<=9223372036854775807):IntKind.i64.wrap x=x:=by rw [IntKind.wrap_i64]; omega
theorem yu (x m:Int) (n:Nat) (g:n<=62) (f:m=2^n-1):IntKind.i64.wrap ((zad IntKind.i64.bits x &&& zad IntKind.i64.bits m).toNat)=x%2^n:=by
 have k:2^n<=2^62:=Nat.pow_le_pow_right (by decide) g;have j:1<=2^n:=Nat.one_le_two_pow;have c:((2^n:Nat):Int)=(2:Int)^n:=by simp
 have e:(zad 64 m).toNat=2^n-1:=by
  rw [zag,f,<- c];omega
 have h:((2^64:Nat):Int)%(2:Int)^n=0:=by
  rw [show (64:Nat)=(64-n)+n by omega,Nat.pow_add];simp
 have a:(x%((2^64:Nat):Int)).toNat%2^n=(x%(2:Int)^n).toNat:=by
  have d:0<=x%((2^64:Nat):Int):=zah _ (by decide);have b:0<=x%(2:Int)^n:=zah _ (by omega);apply Int.ofNat.inj;show (((x%((2^64:Nat):Int)).toNat%2^n:Nat):Int)=((x%(2:Int)^n).toNat:Int);rw [Int.natCast_emod,zai d,zai b,c,Int.emod_emod_of_dvd _ (Int.dvd_of_emod_eq_zero h)]
 have b:0<=x%(2:Int)^n:=zah _ (by omega);have i:x%(2:Int)^n<2^n:=Int.emod_lt_of_pos _ (by omega);rw [show IntKind.i64.bits=64 from rfl,BitVec.toNat_and,e,Nat.and_two_pow_sub_one_eq_mod,zag,a,zai b];exact a7 (by omega)
theorem pi {a b:Bool} (h:a=true↔b=true):AV.r (.v (.bool a))=bl b:=by
 have:a=b:=Bool.eq_iff_iff.2 h;rw [this]
theorem u9:4611686018427387904<=maxLen:=by decide
theorem sK (c:b) (d:a:=by first | omega | (have:=u9; omega) | (simp; done) | (simp; have:=u9; omega)):a/\b:=⟨d,c⟩
theorem sM (c:b) (d:a:=by first | decide | omega | kernel_rfl):a/\b:=⟨d,c⟩
def by8 (c:UInt8):RV:=.v (.int .u8 c.toNat)
theorem ar7 (c:UInt8):RV.good 1 (by8 c)=true:=rfl
theorem aqk (c:UInt8):RV.cells (by8 c)=[by8 c]:=rfl
theorem au2 (c:UInt8):RV.one (by8 c)=true:=rfl
theorem ai0 {a b:Type} (f:a->b) (l:List a):List.take l.length (List.map f l)=List.map f l:=List.take_of_length_le (by simp)
attribute [push_cast high] ar7 aqk au2 ai0
theorem an1 (x m:Int) (n:Nat) (f:n<=63) (c:m=2^n-1) (d:0<=x) (g:x<18446744073709551616):IntKind.u64.wrap ((zad IntKind.u64.bits x &&& zad IntKind.u64.bits m).toNat)=x%2^n:=by
 have j:2^n<=2^63:=Nat.pow_le_pow_right (by decide) f;have i:1<=2^n:=Nat.one_le_two_pow;have a:((2^n:Nat):Int)=(2:Int)^n:=by simp
 have e:(zad 64 m).toNat=2^n-1:=by
  rw [zag,c,<- a];omega
 have ex:(zad 64 x).toNat=x.toNat:=by rw [zag]; omega
 rw [show IntKind.u64.bits=64 from rfl,BitVec.toNat_and,e,ex,Nat.and_two_pow_sub_one_eq_mod,IntKind.wrap_u64];have b:((x.toNat%2^n:Nat):Int)=x%2^n:=by rw [Int.natCast_emod,zai d,a]
 have h:0<=x%(2:Int)^n:=zah _ (by omega);have k:x%(2:Int)^n<2^n:=Int.emod_lt_of_pos _ (by omega);rw [b];omega
theorem azg (x:Int) (k:Nat) (a:k<=63):x.fdiv (2^min k IntKind.u64.bits)=x/2^k:=by
 rw [show min k IntKind.u64.bits=k from Nat.min_eq_left (by simp [IntKind.bits]; omega)];exact Int.fdiv_eq_ediv_of_nonneg _ (Int.le_of_lt (Int.pow_pos (by decide)))

end Go.Ev

import Derived.Below
import Derived.Test.YtpibfnekkfhkmaaGreatM4
open List renaming mem_of_getElem? → zaa, getElem?_eq_some_iff → zab, getElem?_append_left → zae, getElem?_map → zaf, append_eq_nil_iff → zak, getElem?_append_right → zal
open Nat renaming le_refl → zac
open BitVec renaming ofInt → zad, toNat_ofInt → zah
open Int renaming emod_nonneg → zai, toNat_of_nonneg → zaj
open Option renaming map_eq_some_iff → zam
namespace Go.Ev
set_option maxHeartbeats 8000000
set_option maxRecDepth 100000
open Go Go.RowKit
set_option linter.unusedSectionVars false
set_option linter.unnecessarySimpa false
set_option linter.unusedVariables false
abbrev a0d (w:World):Nat->Prop:=g9 (λ _=>True) (ob0 []) (λ _=>none) w
abbrev Rel0 (w:World):AV->Value->Prop:=RelA w (a0d w) (ob0 []) (λ _=>none)
variable {args:List AV} {cargs:Array Value}
theorem acp {P:Program} {f:FuncId} {res:AV} (h:a8 P f args [] res []) (w:World) (l:Gl P w λ _=>False) (p:cargs.size=args.length)
 (r:∀(i:Nat) (x:AV) (c:Value),args[i]?=some x->cargs[i]?=some c->Rel0 w x c):Calls P f cargs w λ e j=>∃c,e=.returned c/\Below w.heap.size w j/\∃ρ',RelA j (g9 (λ _=>True) (ob0 []) ρ' j) (ob0 []) ρ' res c:=by
 have a:∀b,¬ng (ob0 []) (λ _=>none) b:=λ b ⟨_,_,h,_⟩=>by simp [obs] at h
 refine (h w cargs (λ _=>none) (λ _=>True) (l.keep λ g _ _=>⟨rfl,λ q=>a g q⟩) (λ _ _=>trivial) ⟨λ id v o h=>by simp [obs] at h,λ id m x x' b h=>by simp [obs] at h,Keeps.refl _ _,λ id v o b h=>by simp [obs] at h,λ id b h=>by simp at h⟩ p r).mono ?_;rintro e j ⟨c,ρ',rfl,d,n⟩;exact ⟨c,rfl,⟨d.keeps.os,d.keeps.tape,d.keeps.output,d.keeps.size,λ k s=>d.keeps.block k s (a k)⟩,ρ',n⟩
theorem law_of_triple {P:Program} {f:FuncId} (h:a8 P f args [] (bl true) []) (w:World) (a:Gl P w λ _=>False) (d:cargs.size=args.length)
 (k:∀(i:Nat) (x:AV) (c:Value),args[i]?=some x->cargs[i]?=some c->Rel0 w x c):Calls P f cargs w λ e b=>e=.returned (.bool true)/\Below w.heap.size w b:=by
 refine (acp h w a d k).mono ?_;rintro e b ⟨c,rfl,j,ρ',g⟩;cases g with
 | r h=>cases h; exact ⟨rfl,j⟩
theorem gl_none {P : Program} (d : P.globalNamed "internal/strconv.uint64pow10" = none) (b : ur = true → P.globalNamed "strconv.ErrSyntax" = none) (c : ur = true → P.globalNamed "strconv.ErrRange" = none) (w : World) (e : ur = true → P.globalNamed "unicode/utf8.first" = none := by intro h; cases h) (f : ur = true → P.globalNamed "unicode/utf8.acceptRanges" = none := by intro h; cases h) : Gl P w fun _ => False :=
 ⟨λ g h=>(by rw [d] at h; cases h),λ a g h=>(by rw [b a] at h; cases h),λ a g h=>(by rw [c a] at h; cases h),λ a g h=>(by rw [e a] at h; cases h),λ a g h=>(by rw [f a] at h; cases h)⟩
theorem rel0_nil {w:World}:∀(i:Nat) (x:AV) (c:Value),([]:List AV)[i]?=some x->(#[]:Array Value)[i]?=some c->Rel0 w x c:=λ i x c h=>by simp at h
variable {c:Value}
theorem rel0_cons {w:World} {x:AV} {b:List AV} {cs:List Value} (h:Rel0 w x c) (e:∀(i:Nat) (x:AV) (c:Value),b[i]?=some x->cs.toArray[i]?=some c->Rel0 w x c) :
 ∀(i:Nat) (y:AV) (d:Value),(x::b)[i]?=some y->(c::cs).toArray[i]?=some d->Rel0 w y d:=λ i y d hy a=>by
 cases i with
 | zero=>simp at hy a; subst hy; subst a; exact h
 | succ i=>exact e i y d (by simpa using hy) (by simpa using a)
theorem rel0_v {w:World} (v:Value):Rel0 w (.r (.v v)) v:=.r (.v v)

open Go
mutual
theorem alp (F:Ren):∀(x:AV),br x=[]->imV F x=x
 | .r x,h=>by rw [imV]
 | .agg xs,h=>by rw [imV,vt F xs (by simpa [br] using h)]
 | .tup xs,h=>by rw [imV,vt F xs (by simpa [br] using h)]
 | .nils sz z,h=>by rw [imV]
 | .own id ver lo len,h=>by simp [br] at h
 | .ptr id ver off,h=>by simp [br] at h
 | .oel id ver idx off,h=>by simp [br] at h
 | .rp ys,h=>by rw [imV]
 | .fn f xs k,h=>by rw [imV,vt F xs (by simpa [br] using h)]
 | .mp id ver,h=>by simp [br] at h
 | .ifc t x,h=>by rw [imV,alp F x (by simpa [br] using h)]
 | .gd b x,h=>by rw [imV,alp F x (by simpa [br] using h)]
 | .undef,h=>by rw [imV]
theorem vt (F:Ren):∀(a:List AV),o6 a=[]->imL F a=a
 | [],h=>by rw [imL]
 | x::a,h=>by
   rw [o6,zak] at h;rw [imL,alp F x h.1,vt F a h.2]
end
theorem a2j:∀{a:List AV},o6 a=[]->∀{i:Nat} {x:AV},a[i]?=some x->br x=[]
 | [],_,i,x,hx=>by simp at hx
 | y::ys,h,0,x,hx=>by simp at hx; subst hx; rw [o6,zak] at h; exact h.1
 | y::ys,h,i+1,x,hx=>by simp at hx; rw [o6,zak] at h; exact a2j h.2 hx
section
variable {P:Program} {f:FuncId} {as:List AV} {res:AV} {T:AbsT} {w w':World} {ob ob':Obs} {ρ ρ':Pl->Option Nat} {R R':Nat->Prop}
theorem RelA.free {x:AV} (h:RelA w R ob ρ x c) (hx:br x=[]) (a:∀b,R b->R' b):RelA w R' ob' ρ' x c:=by
 have:=h.im (F:=λ _ _=>none) (ob':=ob') (ρ':=ρ') a (λ _ _ _ _ h=>by cases h)
 rwa [alp _ _ hx] at this
theorem aed {as:List AV} {sz:Nat} {z:RV} (h:a8 P f as [] (.nils sz z) []):a8 P f as [] (.own 1000000 0 0 0) [.row sz z true true []]:=by
 intro w cargs ρ B l q u m d;refine (h w cargs ρ B l q u m d).mono ?_;rintro e y ⟨c,ρ',rfl,n,t⟩;cases t;have g:ob0 [Ob.row sz z true true []] 1000000=some (0,.row sz z true true []):=by simp [ob0,obs,upd]
 have a:∀id x,ob0 [Ob.row sz z true true []] id=some x->id=1000000/\x=(0,.row sz z true true []):=λ id x hx=>by
  obtain ⟨C,r,A⟩:=aad hx
  have:id-1000000=0:=by
   have:=(zab.1 r).1;simpa using this
  have a:id=1000000:=by omega
  subst a;rw [g] at hx;exact ⟨rfl,(Option.some.inj hx).symm⟩
 refine ⟨_,λ _=>none,rfl,⟨λ id v o hx=>?_,λ id k x x' b hx p _ _=>by rw [(a id _ hx).1,(a k _ p).1],n.keeps,λ id v o b hx i=>?_,λ id b s=>by simp [pu,obs] at s⟩,?_⟩
 ·obtain ⟨rfl,hx⟩:=a id _ hx;cases hx;exact .inl ⟨rfl,rfl,rfl⟩
 ·rcases i with i | ⟨_,j,i⟩<;>cases i
 exact .own _ _ _ _ _ rfl ⟨0,_,g,zac _,λ _=>⟨none,0,rfl,zac _,by simp,by simp,by simp⟩⟩
end

def vd (N:Nat):Ren:=λ id ver=>if ver=0/\1000000<=id/\id<1000000+N then some (id,ver) else none
structure Fam where
 S:List Ob->Prop
 N:Nat
 n:Nat
 pos:0<N
 len:∀{os:List Ob},S os->os.length=N
 flat:∀{os:List Ob},S os->∀o∈os,jt o/\o.own=true
 shut:∀{os:List Ob},S os->∀o∈os,imO (vd N) o=o
 root:∀{os:List Ob},S os->∃cells,os[0]?=some (.box cells)/\cells.length=n
def aea (os:List Ob) (ρ:Pl->Option Nat) (m:Nat):Option Nat:=
 if m/os.length=0 then ρ (.o (1000000+m%os.length)) else match os[m%os.length]? with
  | some o=>if o.isAbs=true then ρ (.s (1000000+m%os.length) (m/os.length-1)) else none
  | none=>none
variable {os:List Ob} {i:Nat}
theorem bjz (ρ:Pl->Option Nat) (h:i<os.length):aea os ρ i=ρ (.o (1000000+i)):=by
 simp [aea,Nat.div_eq_of_lt h,Nat.mod_eq_of_lt h]
theorem bjy {o:Ob} (ρ:Pl->Option Nat) (h:os[i]?=some o) (c:o.isAbs=true) (j:Nat):aea os ρ (i+(j+1)*os.length)=ρ (.s (1000000+i) j):=by
 have hi:=(zab.1 h).1;have d:0<os.length:=by omega
 have b:(i+(j+1)*os.length)/os.length=j+1:=by rw [Nat.add_mul_div_right _ _ d,Nat.div_eq_of_lt hi]; omega
 have a:(i+(j+1)*os.length)%os.length=i:=by rw [Nat.add_mul_mod_self_right,Nat.mod_eq_of_lt hi]
 simp [aea,b,a,h,c]
structure Lie (w:World) (os:List Ob) (ρ:Pl->Option Nat):Prop where
 obj:∀id v o,ob0 os id=some (v,o)->il w (λ _=>False) (ob0 os) ρ id o
 inj:∀id id' x x' b,ob0 os id=some x->ob0 os id'=some x'->foot ρ id x.2 b->foot ρ id' x'.2 b->id=id'
variable {x:Nat×Ob} {id:Nat}
theorem eg (h:ob0 os id=some x):∃i,i<os.length/\id=1000000+i/\os[i]?=some x.2/\x.1=0:=by
 obtain ⟨c,a,b⟩:=aad h;exact ⟨id-1000000,(zab.1 a).1,by omega,a,b⟩
theorem anz {ρ:Pl->Option Nat} {c:Nat} (hx:ob0 os id=some x) (h:foot ρ id x.2 c):∃m,aea os ρ m=some c:=by
 obtain ⟨i,hi,rfl,a,_⟩:=eg hx;rcases h with h | ⟨b,j,h⟩
 ·exact ⟨i,by rw [bjz ρ hi]; exact h⟩
 exact ⟨i+(j+1)*os.length,by rw [bjy ρ a b]; exact h⟩
theorem am9 {ρ:Pl->Option Nat} (d:0<os.length) {m c:Nat} (h:aea os ρ m=some c):∃id x,ob0 os id=some x/\foot ρ id x.2 c:=by
 have hi:m%os.length<os.length:=Nat.mod_lt _ d;have a:os[m%os.length]?=some os[m%os.length]:=by simp [hi]
 refine ⟨1000000+m%os.length,(0,os[m%os.length]),l7 a,?_⟩;unfold aea at h;split at h
 ·exact .inl h
 rw [a] at h;simp only at h;split at h
 ·rename_i b; exact .inr ⟨b,_,h⟩
 cases h
theorem Lie.stays {w a:World} {ρ:Pl->Option Nat} (g:Lie w os ρ) (i:∀m c,aea os ρ m=some c->a.heap[c]?=w.heap[c]?):Lie a os ρ:=by
 refine ⟨λ id v o h=>?_,g.inj⟩
 have k:Stays w a (λ _=>False) (λ _=>False) (ob0 os) (ob0 os) ρ ρ:=
  ⟨λ b h=>h.elim,λ id v o h=>⟨v,o,h,zac _,λ _=>⟨rfl,bt.refl o,λ b cs e fr f j=>⟨cs,e,fr,by
   obtain ⟨m,d⟩:=anz h (.inl f)
   rw [i m b d,j],rfl⟩⟩⟩⟩
 refine (g.obj id v o h).stays k rfl (λ _=>rfl) λ b f=>?_;obtain ⟨m,d⟩:=anz h f;exact i m b d
def Fam.T (F:Fam):AbsT where
 size:=F.n
 Q w b φ:=∃os ρ,F.S os/\Lie w os ρ/\ρ (.o 1000000)=some b/\∀m,φ m=aea os ρ m
 loc:=by
  rintro w v b φ ⟨os,ρ,d,f,i,g⟩ u a;refine ⟨os,ρ,d,f.stays λ m c q=>?_,i,g⟩;rw [<- g] at q;exact a m c q
 root:=by
  rintro w b φ ⟨os,ρ,d,f,i,g⟩;obtain ⟨p,hc,t⟩:=F.root d;obtain ⟨z,cs,e,h,l,r,_⟩:=f.obj 1000000 0 _ (l7 (k:=0) hc);rw [i] at h;cases h;exact ⟨cs,e,l,by rw [r,t]⟩
 lt:=by
  rintro w b φ ⟨os,ρ,d,f,i,g⟩ j c hc;rw [g] at hc;obtain ⟨id,x,h,l⟩:=am9 (by rw [F.len d]; exact F.pos) hc;exact (f.obj id x.1 x.2 h).foot_lt l
 view:=[]
 rp:=λ R A u a=>⟨λ _=>undef,λ j y s=>by simp at s⟩
def a31 (N M:Nat):Ren:=λ id ver=>if ver=0/\1000000+N<=id/\id<1000000+N+M then some (id-N+1,ver) else none
theorem Keeps.more {I J:Nat->Prop} {w a:World} (h:Keeps I w a) (d:∀b,I b->J b):Keeps J w a:=⟨h.os,h.tape,h.output,h.size,λ b e c=>h.block b e λ hi=>c (d b hi)⟩
def bl7:Ob->Prop
 | .row _ _ _ _ xs=>∀x,x∈xs->ft x
 | _=>False
section
variable {P:Program} {f:FuncId}
theorem bbi {F F':Fam} (hN:F'.N=F.N) {as:List AV} {res:AV} {ex:List Ob} (h:∀os,F.S os->∃a,F'.S a/\a8 P f (.ptr 1000000 0 0::as) os res (a++ex)) (has:o6 as=[]) (hg:∀o∈ex,bl7 o) (C:bj res) :
 a8 P f (.ptr 1000000 0 0::as) [.abs F.T] (imV (a31 F.N ex.length) res) (.abs F'.T::ex):=by
 intro w cargs ρ B hn hB hM ht L;have R:ob0 [Ob.abs F.T] 1000000=some (0,.abs F.T):=by simp [ob0,obs,upd]
 obtain ⟨b,he,os,Z,hS,hL,hd,hw⟩:=hM.obj 1000000 0 (.abs F.T) R;obtain ⟨a,M,hT⟩:=h os hS;have g4:=F.len hS;have h4:a.length=F.N:=by rw [F'.len M,hN]
 have g5:=F.pos
 have K:∀c,ng (ob0 os) Z c->foot ρ 1000000 (.abs F.T) c:=λ c ⟨id,x,H,Q⟩=>by
  obtain ⟨m,hm⟩:=anz H Q;exact .inr ⟨rfl,m,(hw m).trans hm⟩
 have n:∀c,ng (ob0 os) Z c->ng (ob0 [Ob.abs F.T]) ρ c:=λ c hc=>⟨1000000,_,R,K c hc⟩
 obtain ⟨hh,h5,g6⟩:=F.root hS
 refine (hT w cargs Z B (hn.keep λ g h1 h2=>⟨rfl,λ hc=>h2 (n g hc)⟩) (λ c hc=>hB c (hc.imp (n c) id))
  ⟨λ id v o g=>?_,hL.inj,Keeps.refl _ _,λ id v o c H Q=>.inl ⟨id,_,H,Q⟩,λ id c g=>by cases g⟩ ht (λ i x c hx hc=>?_)).mono ?_
 ·obtain ⟨i,hi,_,d,_⟩:=eg g;exact (hL.obj id v o g).flat (F.flat hS o (zaa d)).1
 ·cases i with
  | zero=>
    simp at hx;subst hx;have h0:=L 0 _ c rfl hc;cases h0 with
    | ptr _ _ _ _ h3 hat=>
      refine .ptr _ _ _ _ h3 ⟨0,_,l7 (k:=0) h5,zac _,λ _=>?_⟩;obtain ⟨b',ha,rfl⟩:=hat.live R;rw [he] at ha;cases ha;exact ⟨b,hd,rfl⟩
  | succ i=>
    simp at hx;refine (L (i+1) x c (by simpa using hx) hc).free (a2j has hx) λ b hb=>⟨hb.1,?_,hb.2.2⟩
    rintro ⟨id,v,o,H,Q,g3⟩;exact hb.2.1 ⟨1000000,0,_,R,rfl,K b ⟨id,_,H,g3⟩⟩
 rintro e w' ⟨c,ρ',rfl,p,hr⟩
 have W:ρ' (.o 1000000)=some b:=(p.pin 1000000 b (by
  simp only [pu,l7 (k:=0) h5]
  exact hd)).1
 have D:∀(i:Nat) (o:Ob),a[i]?=some o->ob0 (a++ex) (1000000+i)=some (0,o):=λ i o d=>l7 (by rw [zae (zab.1 d).1]; exact d)
 have t:∀(k:Nat) (o:Ob),ex[k]?=some o->ob0 (a++ex) (1000000+F.N+k)=some (0,o):=λ k o d=>by
  rw [show 1000000+F.N+k=1000000+(F.N+k) by omega];exact l7 (by rw [zal (by omega),h4,Nat.add_sub_cancel_left]; exact d)
 have h7:Lie w' a ρ':=by
  refine ⟨λ id v o g=>?_,λ id h8 x x' c H Q f1 f2=>?_⟩
  ·obtain ⟨i,hi,rfl,d,hv⟩:=eg g;simp only at d;have X:=zaa d;have hs:=F'.flat M o X;have g0:=F'.shut M o X;have hu:=((p.obj (1000000+i) 0 o (D i o d)).flat (R':=λ _=>False) hs.1)
   have hF:ago (ob0 (a++ex)) (ob0 a) ρ' ρ' (vd F'.N):=λ id ver j u C=>by
    unfold vd at C;split at C
    ·rename_i hc;cases C;obtain ⟨rfl,h3,hj⟩:=hc;obtain ⟨q,rfl⟩:∃q,id=1000000+q:=⟨id-1000000,by omega⟩
     have hq:a[q]?=some (a[q]'(by omega)):=by simp [show q<a.length by omega]
     exact ⟨_,_,D q _ hq,l7 hq,rfl,bt.refl _⟩
    cases C
   have:=hu.im (λ _ h=>h) hF (i:=1000000+i) rfl (λ _=>rfl)
   rwa [g0] at this
  obtain ⟨i,hi,rfl,d,_⟩:=eg H;obtain ⟨i',gb,rfl,G,_⟩:=eg Q;exact p.inj _ _ _ _ c (D i _ d) (D i' _ G) f1 f2
 obtain ⟨r,r1,r2,r3,r4⟩:∃r:Pl->Option Nat,r (.o 1000000)=some b/\(∀m,r (.s 1000000 m)=aea a ρ' m)/\(∀k,r (.o (1000001+k))=ρ' (.o (1000000+F.N+k)))/\(∀k j,r (.s (1000001+k) j)=none):=
  ⟨fun | .o i=>if i=1000000 then some b else ρ' (.o (i+F.N-1)) | .s i j=>if i=1000000 then aea a ρ' j else none,by simp,by simp,λ k=>by
   simp only;rw [if_neg (by omega),show 1000001+k+F.N-1=1000000+F.N+k by omega],λ k j=>by
   simp only
   rw [if_neg (by omega)]⟩
 have hA:ob0 (Ob.abs F'.T::ex) 1000000=some (0,.abs F'.T):=l7 (k:=0) rfl
 have hE:∀(k:Nat) (o:Ob),ex[k]?=some o->ob0 (Ob.abs F'.T::ex) (1000001+k)=some (0,o):=λ k o d=>by
  rw [show 1000001+k=1000000+(k+1) by omega];exact l7 (by simpa using d)
 have J:∀id x,ob0 (Ob.abs F'.T::ex) id=some x->(id=1000000/\x=(0,.abs F'.T))\/∃k o,id=1000001+k/\ex[k]?=some o/\x=(0,o):=λ id x hx=>by
  obtain ⟨i,hi,rfl,d,hv⟩:=eg hx;cases i with
  | zero=>rw [hA] at hx; exact .inl ⟨rfl,(Option.some.inj hx).symm⟩
  | succ k=>
    simp at d;exact .inr ⟨k,x.2,by omega,d,by rw [<- hv]⟩
 have hz:∀(k:Nat) (o:Ob),ex[k]?=some o->o.isAbs=false:=λ k o d=>by
  have:=hg o (zaa d);cases o<;>first | rfl | exact this.elim
 have A:∀c,foot r 1000000 (.abs F'.T) c->∃i o,a[i]?=some o/\foot ρ' (1000000+i) o c:=λ c hc=>by
  rcases hc with q | ⟨_,j,q⟩
  ·rw [r1] at q;cases q;exact ⟨0,a[0]'(by omega),by simp [show 0<a.length by omega],.inl W⟩
  rw [r2] at q;obtain ⟨id,x,H,Q⟩:=am9 (by omega) q;obtain ⟨i,hi,rfl,d,_⟩:=eg H;exact ⟨i,x.2,d,Q⟩
 have l:∀(k:Nat) (o:Ob),ex[k]?=some o->∀c,foot r (1000001+k) o c->foot ρ' (1000000+F.N+k) o c:=λ k o d c hc=>by
  rw [jz (hz k o d)] at hc |-;rw [r3] at hc;exact hc
 have I:∀c,g9 B (ob0 (a++ex)) ρ' w' c->g9 B (ob0 (Ob.abs F'.T::ex)) r w' c:=λ c hc=>by
  refine ⟨hc.1,?_,hc.2.2⟩;rintro ⟨id,v,o,H,Q,g3⟩;rcases J id _ H with ⟨rfl,hx⟩ | ⟨k,o',rfl,d,hx⟩
  ·cases hx;obtain ⟨i,o,d,C⟩:=A c g3;exact hc.2.1 ⟨_,_,_,D i o d,(F'.flat M o (zaa d)).2,C⟩
  cases hx;exact hc.2.1 ⟨_,_,_,t k o d,Q,l k o d c g3⟩
 have hF:ago (ob0 (a++ex)) (ob0 (Ob.abs F'.T::ex)) ρ' r (a31 F.N ex.length):=λ id ver j u C=>by
  unfold a31 at C;split at C
  ·rename_i hc;cases C;obtain ⟨rfl,h3,hj⟩:=hc;obtain ⟨k,rfl⟩:∃k,id=1000000+F.N+k:=⟨id-1000000-F.N,by omega⟩
   have hk:ex[k]?=some (ex[k]'(by omega)):=by simp [show k<ex.length by omega]
   have e1:1000000+F.N+k-F.N+1=1000001+k:=by omega
   refine ⟨_,_,t k _ hk,by rw [e1]; exact hE k _ hk,by rw [e1,r3],bt.refl _⟩
  cases C
 refine ⟨c,r,rfl,⟨λ id v o hx=>?_,λ id h8 x x' c hx hl C Y=>?_,p.keeps.more n,λ id v o c hx C=>?_,λ id c hp=>?_⟩,hr.im I hF⟩
 ·rcases J id _ hx with ⟨rfl,hx⟩ | ⟨k,o',rfl,d,hx⟩
  ·cases hx;exact ⟨b,r1,a,ρ',M,h7,W,r2⟩
  cases hx;have h6:=hg o (zaa d);cases o with
  | row sz z app wr xs=>
    have:=(p.obj _ 0 _ (t k _ d)).im I hF (i:=1000001+k) (r3 k);rcases p.obj _ 0 _ (t k _ d) with ⟨q1,q2⟩ | ⟨b1,cs,e,fr,q1,q2,q3,q4,q5,q6⟩
    ·exact .inl ⟨q1,by rw [r3]; exact q2⟩
    refine .inr ⟨b1,cs,e,fr,by rw [r3]; exact q1,q2,q3,q4,q5,λ i x hx=>⟨(q6 i x hx).1,λ j y hy=>?_⟩⟩;obtain ⟨u,t1,t2,t3⟩:=(q6 i x hx).2 j y hy;exact ⟨u,t1,t2,t3.flat (uc.cells (h6 x (zaa hx)) hy)⟩
  | _=>exact h6.elim
 ·rcases J id _ hx with ⟨rfl,V⟩ | ⟨k,o,rfl,d,V⟩<;>rcases J h8 _ hl with ⟨rfl,U⟩ | ⟨k',o',rfl,G,U⟩
  ·rfl
  ·subst V; subst U;obtain ⟨i,o,E,O⟩:=A c C;have:=p.inj _ _ _ _ c (D i o E) (t k' o' G) O (l k' o' G c Y);have:=(zab.1 E).1;omega
  ·subst V; subst U;obtain ⟨i,o',E,O⟩:=A c Y;have:=p.inj _ _ _ _ c (D i o' E) (t k o d) O (l k o d c C);have:=(zab.1 E).1;omega
  subst V; subst U;have:=p.inj _ _ _ _ c (t k o d) (t k' o' G) (l k o d c C) (l k' o' G c Y);omega
 ·rcases J id _ hx with ⟨rfl,hx⟩ | ⟨k,o',rfl,d,hx⟩
  ·cases hx;obtain ⟨i,o,E,O⟩:=A c C;exact (p.own _ 0 o c (D i o E) O).imp (n c) id
  cases hx;exact (p.own _ 0 o c (t k o d) (l k o d c C)).imp (n c) id
 simp only [pu] at hp;split at hp
 ·rename_i v o hx;split at hp
  ·rename_i ga
   have h9:id=1000000:=by
    obtain ⟨i,hi,rfl,_,_⟩:=eg hx;simpa using hi
   subst h9;rw [he] at hp;cases hp;exact ⟨r1,_,hA,rfl,λ h=>by cases h⟩
  cases hp
 cases hp
theorem bgo {F:Fam} {as:List AV} {a:List Ob} (n:F.S a) (W:a8 P f as [] (.ptr 1000000 0 0) a):a8 P f as [] (.ptr 1000000 0 0) [.abs F.T]:=by
 intro w cargs ρ B E hB hM L r;have H:=F.len n;have O:=F.pos;refine (W w cargs ρ B E hB hM L r).mono ?_;rintro e U ⟨c,ρ',rfl,h,hr⟩;obtain ⟨J,y,X⟩:=F.root n;obtain ⟨b,_,_,l,_⟩:=h.obj 1000000 0 _ (l7 (k:=0) y);have K:∀(i:Nat) (o:Ob),a[i]?=some o->ob0 a (1000000+i)=some (0,o):=λ i o u=>l7 u
 have A:Lie U a ρ':=by
  refine ⟨λ id v o g=>?_,h.inj⟩;obtain ⟨i,hi,rfl,u,hv⟩:=eg g;exact (h.obj _ _ _ g).flat (F.flat n o (zaa u)).1
 obtain ⟨d,I,Q⟩:∃d:Pl->Option Nat,d (.o 1000000)=some b/\(∀m,d (.s 1000000 m)=aea a ρ' m):=
  ⟨fun | .o i=>if i=1000000 then some b else none | .s i j=>if i=1000000 then aea a ρ' j else none,by simp,by simp⟩
 have N:ob0 [Ob.abs F.T] 1000000=some (0,.abs F.T):=l7 (k:=0) rfl
 have p:∀id x,ob0 [Ob.abs F.T] id=some x->id=1000000/\x=(0,.abs F.T):=λ id x hx=>by
  obtain ⟨i,hi,rfl,u,hv⟩:=eg hx;have h0:i=0:=by simpa using hi
  subst h0;rw [N] at hx;exact ⟨rfl,(Option.some.inj hx).symm⟩
 have t:∀c,foot d 1000000 (.abs F.T) c->∃i o,a[i]?=some o/\foot ρ' (1000000+i) o c:=λ c hc=>by
  rcases hc with q | ⟨_,j,q⟩
  ·rw [I] at q;cases q;exact ⟨0,a[0]'(by omega),by simp [show 0<a.length by omega],.inl l⟩
  rw [Q] at q;obtain ⟨id,x,V,Z⟩:=am9 (by omega) q;obtain ⟨i,hi,rfl,u,_⟩:=eg V;exact ⟨i,x.2,u,Z⟩
 refine ⟨c,d,rfl,⟨λ id v o hx=>?_,λ id D x x' c hx M R Y=>?_,h.keeps,λ id v o c hx R=>?_,λ id c hp=>?_⟩,?_⟩
 ·obtain ⟨rfl,hx⟩:=p id _ hx;cases hx;exact ⟨b,I,a,ρ',n,A,l,Q⟩
 ·rw [(p id _ hx).1,(p D _ M).1]
 ·obtain ⟨rfl,hx⟩:=p id _ hx;cases hx;obtain ⟨i,o,C,G⟩:=t c R;exact h.own _ 0 o c (K i o C) G
 ·simp [pu,ob0,obs] at hp
 cases hr with
 | ptr _ _ _ _ hc1 hat=>
   refine .ptr _ _ _ _ hc1 ⟨0,_,N,zac _,λ _=>?_⟩;obtain ⟨b',z,rfl⟩:=hat.live (l7 (k:=0) y);rw [l] at z;cases z;exact ⟨b,I,rfl⟩
def dnF (M:Nat):Ren:=λ id ver=>if ver=0/\1000001<=id/\id<1000001+M then some (id-1,ver) else none
def upF (M:Nat):Ren:=λ id ver=>if ver=0/\1000000<=id/\id<1000000+M then some (id+1,ver) else none
theorem bmc {T:AbsT} {as as':List AV} {po a ro hd:List Ob} {res X:AV} (h:a8 P f (.rp T.view::as) po res ro)
 (ha:imL (dnF a.length) as'=as) (O:a.map (imO (dnF a.length))=po) (hr:ro.map (imO (upF ro.length))=hd) (h6:imV (upF ro.length) res=X)
 (hu:∀o∈a,jt o) (ht:∀o∈ro,jt o) (hl:bj res) :
 a8 P f (.ptr 1000000 0 0::as') (.abs T::a) X (.abs T::hd):=by
 subst ha O hr h6;intro w cargs ρ B hm hB hM hs K;have H:ob0 (Ob.abs T::a) 1000000=some (0,.abs T):=l7 (k:=0) rfl
 have p:∀(k:Nat) (o:Ob),a[k]?=some o->ob0 (Ob.abs T::a) (1000001+k)=some (0,o):=λ k o l=>by
  rw [show 1000001+k=1000000+(k+1) by omega];exact l7 (by simpa using l)
 obtain ⟨b,I,hQ⟩:=hM.obj 1000000 0 (.abs T) H
 obtain ⟨m,d1,d2⟩:∃m:Pl->Option Nat,(∀k,m (.o (1000000+k))=ρ (.o (1000001+k)))/\(∀k j,m (.s (1000000+k) j)=ρ (.s (1000001+k) j)):=
  ⟨fun | .o i=>ρ (.o (i+1)) | .s i j=>ρ (.s (i+1) j),λ k=>by simp only; rw [show 1000000+k+1=1000001+k by omega],λ k j=>by simp only; rw [show 1000000+k+1=1000001+k by omega]⟩
 have mq:∀(F:Ren) (o:Ob),(imO F o).isAbs=o.isAbs:=λ F o=>by cases o<;>rfl
 have V:∀(F:Ren) (o:Ob),(imO F o).pinned=o.pinned:=λ F o=>by cases o<;>rfl
 have h7:∀(F:Ren) (o:Ob),(imO F o).own=o.own:=λ F o=>by cases o<;>rfl
 have hA:∀id v o,ob0 (a.map (imO (dnF a.length))) id=some (v,o)->∃k o',id=1000000+k/\v=0/\a[k]?=some o'/\o=imO (dnF a.length) o':=λ id v o hx=>by
  obtain ⟨i,hi,rfl,l,hv⟩:=eg hx;rw [zaf,zam] at l;obtain ⟨o',d,e⟩:=l;exact ⟨i,o',rfl,hv,d,e.symm⟩
 have n:∀k o F c,foot m (1000000+k) (imO F o) c↔foot ρ (1000001+k) o c:=λ k o F c=>ace (d1 k) (d2 k) (mq F o)
 have z:∀c,ng (ob0 (a.map (imO (dnF a.length)))) m c->ng (ob0 (Ob.abs T::a)) ρ c:=λ c ⟨id,x,Q,N⟩=>by
  obtain ⟨k,o',rfl,hv,d,e⟩:=hA id x.1 x.2 Q;rw [e,n] at N;exact ⟨_,_,p k o' d,N⟩
 have M:∀c,foot ρ 1000000 (.abs T) c->¬ng (ob0 (a.map (imO (dnF a.length)))) m c:=λ c hc ⟨id,x,Q,N⟩=>by
  obtain ⟨k,o',rfl,hv,d,e⟩:=hA id x.1 x.2 Q;rw [e,n] at N;have:=hM.inj _ _ _ _ c H (p k o' d) hc N;omega
 have h9:∀c,Own (ob0 (a.map (imO (dnF a.length)))) m c->Own (ob0 (Ob.abs T::a)) ρ c:=λ c ⟨id,v,o,Q,N,g3⟩=>by
  obtain ⟨k,o',rfl,hv,d,rfl⟩:=hA id v o Q;rw [n] at g3;exact ⟨_,_,_,p k o' d,by rw [<- h7]; exact N,g3⟩
 have Y:∀c,g9 B (ob0 (Ob.abs T::a)) ρ w c->g9 B (ob0 (a.map (imO (dnF a.length)))) m w c:=λ c hc=>⟨hc.1,λ h=>hc.2.1 (h9 c h),hc.2.2⟩
 have G:∀c,foot ρ 1000000 (.abs T) c->c<w.heap.size:=λ c hc=>(hM.obj 1000000 0 (.abs T) H).foot_lt hc
 have A:∀c,foot ρ 1000000 (.abs T) c->g9 B (ob0 (a.map (imO (dnF a.length)))) m w c:=λ c hc=>
  ⟨G c hc,λ ⟨id,v,o,Q,N,g3⟩=>M c hc ⟨id,_,Q,g3⟩,hB c (.inl ⟨_,_,H,hc⟩)⟩
 have hF:ago (ob0 (Ob.abs T::a)) (ob0 (a.map (imO (dnF a.length)))) ρ m (dnF a.length):=λ id ver j u C=>by
  unfold dnF at C;split at C
  ·rename_i hc;cases C;obtain ⟨rfl,h8,hh⟩:=hc;obtain ⟨k,rfl⟩:∃k,id=1000001+k:=⟨id-1000001,by omega⟩
   have hk:a[k]?=some (a[k]'(by omega)):=by simp [show k<a.length by omega]
   have e1:1000001+k-1=1000000+k:=by omega
   refine ⟨_,_,p k _ hk,by rw [e1]; exact l7 (by rw [zaf,hk]; rfl),by rw [e1,d1],bt.im _ _⟩
  cases C
 refine (h w cargs m B (hm.keep λ g h1 h2=>⟨rfl,λ hc=>h2 (z g hc)⟩) (λ c hc=>hB c (hc.imp (z c) id))
  ⟨λ id v o g=>?_,λ id h3 x x' c g g' f f'=>?_,Keeps.refl _ _,λ id v o c Q N=>.inl ⟨id,_,Q,N⟩,λ id c g=>by cases g⟩ (by rw [hs]; simp [kn]) (λ i x c hx hc=>?_)).mono ?_
 ·obtain ⟨k,o',rfl,rfl,d,rfl⟩:=hA id v o g;exact ((hM.obj _ _ _ (p k o' d)).flat (R':=λ _=>False) (hu o' (zaa d))).im (λ _ h=>h.elim) hF (d1 k) (d2 k)
 ·obtain ⟨k,o,rfl,hv,l,e⟩:=hA id x.1 x.2 g;obtain ⟨k',o',rfl,g0,d,e'⟩:=hA h3 x'.1 x'.2 g';rw [e,n] at f;rw [e',n] at f';have:=hM.inj _ _ _ _ c (p k o l) (p k' o' d) f f';omega
 ·cases i with
  | zero=>
    simp at hx;subst hx;have h0:=K 0 _ c rfl hc;cases h0 with
    | ptr _ _ _ _ h8 hat=>
      obtain ⟨b',h5,rfl⟩:=hat.live H;rw [I] at h5;cases h5;obtain ⟨g,hg⟩:=T.rp (g9 B (ob0 (a.map (imO (dnF a.length)))) m w) hQ (A b (.inl I)) λ j c hc=>A c (.inr ⟨rfl,j,hc⟩);exact .rp T.view b 0 g (A b (.inl I)) hg
  | succ i=>
    simp at hx;rw [aa7,zam] at hx;obtain ⟨y,hy,rfl⟩:=hx;exact (K (i+1) y c (by simpa using hy) hc).im Y hF
 rintro e w' ⟨c,ρ',rfl,E,hq⟩;have W:∀c,foot ρ 1000000 (.abs T) c->w'.heap[c]?=w.heap[c]?:=λ c hc=>E.keeps.block c (G c hc) (M c hc)
 obtain ⟨t,r1,r2,r3,r4⟩:∃t:Pl->Option Nat,t (.o 1000000)=some b/\(∀j,t (.s 1000000 j)=ρ (.s 1000000 j))/\(∀k,t (.o (1000001+k))=ρ' (.o (1000000+k)))/\(∀k j,t (.s (1000001+k) j)=ρ' (.s (1000000+k) j)):=
  ⟨fun | .o i=>if i=1000000 then some b else ρ' (.o (i-1)) | .s i j=>if i=1000000 then ρ (.s 1000000 j) else ρ' (.s (i-1) j),by simp,by simp,
   λ k=>by simp only; rw [if_neg (by omega),show 1000001+k-1=1000000+k by omega],λ k j=>by simp only; rw [if_neg (by omega),show 1000001+k-1=1000000+k by omega]⟩
 have he:ob0 (Ob.abs T::ro.map (imO (upF ro.length))) 1000000=some (0,.abs T):=l7 (k:=0) rfl
 have hE:∀(k:Nat) (o:Ob),ro[k]?=some o->ob0 (Ob.abs T::ro.map (imO (upF ro.length))) (1000001+k)=some (0,imO (upF ro.length) o):=λ k o l=>by
  rw [show 1000001+k=1000000+(k+1) by omega];exact l7 (by simp [l])
 have S:∀id x,ob0 (Ob.abs T::ro.map (imO (upF ro.length))) id=some x->(id=1000000/\x=(0,.abs T))\/∃k o,id=1000001+k/\ro[k]?=some o/\x=(0,imO (upF ro.length) o):=λ id x hx=>by
  obtain ⟨i,hi,rfl,l,hv⟩:=eg hx;cases i with
  | zero=>rw [he] at hx; exact .inl ⟨rfl,(Option.some.inj hx).symm⟩
  | succ k=>
    simp at l;obtain ⟨o,l,e⟩:=l;exact .inr ⟨k,o,by omega,l,by rw [e,<- hv]⟩
 have D:∀c,foot t 1000000 (.abs T) c->foot ρ 1000000 (.abs T) c:=λ c hc=>by
  rcases hc with q | ⟨_,j,q⟩
  ·rw [r1] at q; exact .inl (I.trans q)
  rw [r2] at q; exact .inr ⟨rfl,j,q⟩
 have r:∀k o F c,foot t (1000001+k) (imO F o) c↔foot ρ' (1000000+k) o c:=λ k o F c=>ace (r3 k) (r4 k) (mq F o);have J:∀(k:Nat) (o:Ob),ro[k]?=some o->ob0 ro (1000000+k)=some (0,o):=λ k o l=>l7 l
 have L:∀k o c,ro[k]?=some o->foot ρ' (1000000+k) o c->¬foot ρ 1000000 (.abs T) c:=λ k o c l hc hT=>by
  rcases E.own _ 0 o c (J k o l) hc with q | q
  ·exact M c hT q
  have q':w.heap.size<=c:=q;have:=G c hT;omega
 have h4:ago (ob0 ro) (ob0 (Ob.abs T::ro.map (imO (upF ro.length)))) ρ' t (upF ro.length):=λ id ver j u C=>by
  unfold upF at C;split at C
  ·rename_i hc;cases C;obtain ⟨rfl,h8,hh⟩:=hc;obtain ⟨k,rfl⟩:∃k,id=1000000+k:=⟨id-1000000,by omega⟩
   have hk:ro[k]?=some (ro[k]'(by omega)):=by simp [show k<ro.length by omega]
   have e1:1000000+k+1=1000001+k:=by omega
   exact ⟨_,_,J k _ hk,by rw [e1]; exact hE k _ hk,by rw [e1,r3],bt.im _ _⟩
  cases C
 refine ⟨c,t,rfl,⟨λ id v o hx=>?_,λ id h3 x x' c hx hj C Z=>?_,E.keeps.more z,λ id v o c hx C=>?_,λ id c O=>?_⟩,(hq.flat (R':=λ _=>False) hl).im (λ _ h=>h.elim) h4⟩
 ·rcases S id _ hx with ⟨rfl,hx⟩ | ⟨k,o',rfl,l,hx⟩
  ·cases hx;refine ⟨b,r1,?_⟩;rw [show (λ j=>t (.s 1000000 j))=λ j=>ρ (.s 1000000 j) from funext r2];exact T.loc hQ (W b (.inl I)) λ j c hc=>W c (.inr ⟨rfl,j,hc⟩)
  cases hx;exact ((E.obj _ _ _ (J k o' l)).flat (R':=λ _=>False) (ht o' (zaa l))).im (λ _ h=>h.elim) h4 (r3 k) (r4 k)
 ·rcases S id _ hx with ⟨rfl,U⟩ | ⟨k,o,rfl,l,U⟩<;>rcases S h3 _ hj with ⟨rfl,R⟩ | ⟨k',o',rfl,d,R⟩
  ·rfl
  ·subst U; subst R;exact (L k' o' c d ((r ..).1 Z) (D c C)).elim
  ·subst U; subst R;exact (L k o c l ((r ..).1 C) (D c Z)).elim
  subst U; subst R;have:=E.inj _ _ _ _ c (J k o l) (J k' o' d) ((r ..).1 C) ((r ..).1 Z);omega
 ·rcases S id _ hx with ⟨rfl,hx⟩ | ⟨k,o',rfl,l,hx⟩
  ·cases hx;exact .inl ⟨_,_,H,D c C⟩
  cases hx;exact (E.own _ 0 o' c (J k o' l) ((r ..).1 C)).imp (z c) id
 simp only [pu] at O;split at O
 ·rename_i v o hx;split at O
  ·rename_i hw;obtain ⟨i,hi,rfl,l,hv⟩:=eg hx;cases i with
   | zero=>
     rw [I] at O;cases O;exact ⟨r1,_,he,rfl,λ h=>by cases h⟩
   | succ k=>
     simp at l
     have hb:=E.pin (1000000+k) c (by
      have:ob0 (a.map (imO (dnF a.length))) (1000000+k)=some (0,imO (dnF a.length) o):=l7 (by rw [zaf,l]; rfl);simp only [pu,this,V];rw [if_pos hw,d1];rw [show 1000001+k=1000000+(k+1) by omega]
      exact O)
     obtain ⟨q1,o2,q2,q3⟩:=hb;obtain ⟨i2,hz,e2,hn,_⟩:=eg q2;have:i2=k:=by omega
     subst this;rw [show 1000000+(i2+1)=1000001+i2 by omega];exact ⟨by rw [r3]; exact q1,_,hE i2 _ hn,by rw [V]; exact q3.1,by rw [ara]; exact q3.2⟩
  cases O
 cases O
end

def kb (a:List Value) (m:Nat):List AV:=a.map (λ x=>AV.r (.v x))++List.replicate m .undef
section
variable {P:Program} {f:FuncId} {as:List AV} {res:AV}
theorem bme {po:List Ob} {ys:List Value} {z:RV} {n:Nat} (hl:ys.length=n) (h5:po.length<=os.length) (h1:∀o∈os,imO (vd os.length) o=o) (hy:∀y∈ys,y.oneCell'=true)
 (h:apq P f args po λ v ro=>∃m,v=.own (1000000+os.length) 0 0 n/\ro=os++[.box (kb ys m)]) :
 a8 P f args po (.own (1000000+os.length) 0 0 n) (os++[.row 1 z true true (ys.map RV.v)]):=by
 intro w cargs ρ B U hB hM W E;refine (h w cargs ρ B U hB hM W E).mono ?_;rintro e w' ⟨c,ρ',res,ro,rfl,⟨m,rfl,rfl⟩,d,hr⟩;have k:∀(x:Ob) (i:Nat) (o:Ob),os[i]?=some o->ob0 (os++[x]) (1000000+i)=some (0,o):=λ x i o a=>l7 (by rw [zae (zab.1 a).1]; exact a);have s:∀x:Ob,ob0 (os++[x]) (1000000+os.length)=some (0,x):=λ x=>l7 (by simp)
 have H:∀(y:Ob) (id:Nat) (x:Nat×Ob),ob0 (os++[y]) id=some x->(∃i o,id=1000000+i/\os[i]?=some o/\x=(0,o))\/(id=1000000+os.length/\x=(0,y)):=λ y id x hx=>by
  obtain ⟨i,hi,rfl,a,hv⟩:=eg hx;by_cases l:i<os.length
  ·rw [zae l] at a;exact .inl ⟨i,x.2,rfl,a,by rw [<- hv]⟩
  have:i=os.length:=by simp at hi; omega
  subst this;rw [zal (zac _)] at a;simp at a;exact .inr ⟨rfl,by rw [a,<- hv]⟩
 have p:∀(id:Nat) (x:Nat×Ob) (b:Nat),ob0 (os++[Ob.row 1 z true true (ys.map RV.v)]) id=some x->foot ρ' id x.2 b->∃x',ob0 (os++[Ob.box (kb ys m)]) id=some x'/\foot ρ' id x'.2 b/\(x.2.own=true->x'.2.own=true)/\x'.1=x.1:=λ id x b hx g=>by
  rcases H _ id x hx with ⟨i,o,rfl,a,rfl⟩ | ⟨rfl,rfl⟩
  ·exact ⟨_,k _ i o a,g,λ h=>h,rfl⟩
  rw [jz rfl] at g;exact ⟨_,s _,by rw [jz rfl]; exact g,λ _=>rfl,rfl⟩
 have t:∀c,g9 B (ob0 (os++[Ob.box (kb ys m)])) ρ' w' c->g9 B (ob0 (os++[Ob.row 1 z true true (ys.map RV.v)])) ρ' w' c:=λ c hc=>⟨hc.1,λ ⟨id,v,o,g1,g2,g3⟩=>by
  obtain ⟨x',G,D,q3,_⟩:=p id _ c g1 g3
  exact hc.2.1 ⟨id,x'.1,x'.2,G,q3 g2,D⟩,hc.2.2⟩
 have hF:ago (ob0 (os++[Ob.box (kb ys m)])) (ob0 (os++[Ob.row 1 z true true (ys.map RV.v)])) ρ' ρ' (vd os.length):=λ id ver j u g=>by
  unfold vd at g;split at g
  ·rename_i hc;cases g;obtain ⟨rfl,J,h4⟩:=hc;obtain ⟨q,rfl⟩:∃q,id=1000000+q:=⟨id-1000000,by omega⟩
   have hq:os[q]?=some (os[q]'(by omega)):=by simp [show q<os.length by omega]
   exact ⟨_,_,k _ q _ hq,k _ q _ hq,rfl,bt.refl _⟩
  cases g
 have K:ys.length<=(kb ys m).length:=by unfold kb; simp
 refine ⟨c,ρ',rfl,⟨λ id v o hx=>?_,λ id I x x' b hx S g O=>?_,d.keeps,λ id v o b hx g=>?_,λ id b M=>?_⟩,?_⟩
 ·rcases H _ id _ hx with ⟨i,o',rfl,a,F⟩ | ⟨rfl,F⟩
  ·cases F;have:=(d.obj (1000000+i) 0 o (k _ i o a)).im t hF (i:=1000000+i) rfl (λ _=>rfl)
   rwa [h1 o (zaa a)] at this
  cases F;obtain ⟨b,cs,ee,k1,N,Z,k4⟩:=d.obj _ 0 _ (s _);refine .inr ⟨b,cs,ee,(0,0),k1,N,by simp,λ _=>rfl,by rw [Z]; simpa using K,λ i x hx=>?_⟩;rw [zaf,zam] at hx;obtain ⟨y,C,rfl⟩:=hx;have hi:=(zab.1 C).1;refine ⟨rfl,λ j y' hj=>?_⟩
  have h2:j=0:=by
   have:=(zab.1 hj).1;simp [RV.cells] at this;omega
  subst h2;simp [RV.cells] at hj;subst hj;have l:i<cs.size:=by omega
  have hb:(kb ys m)[i]?=some (.r (.v y)):=by
   unfold kb;rw [zae (by simpa using hi)];simp [C]
  have Y:=k4 i _ cs[i] hb (by simp [l]);cases Y with
  | r h0=>
    cases h0;exact ⟨cs[i],by simp [l],hy _ (zaa C),.v _⟩
 ·obtain ⟨y,G,D,_⟩:=p id x b hx g;obtain ⟨y',R,V,_⟩:=p I x' b S O;exact d.inj id I y y' b G R D V
 ·obtain ⟨y,G,D,_⟩:=p id _ b hx g;exact d.own id y.1 y.2 b G D
 ·obtain ⟨G,o,D,q3⟩:=d.pin id b M;refine ⟨G,?_⟩;rcases H _ id _ D with ⟨i,o',rfl,a,hx⟩ | ⟨rfl,hx⟩
  ·cases hx;exact ⟨o,k _ i o a,q3⟩
  exfalso;simp only [pu] at M;split at M
  ·rename_i v o1 Q;obtain ⟨i,hi,h3,_,_⟩:=eg Q;omega
  cases M
 cases hr with
 | own _ _ _ _ _ J hat1=>
   obtain ⟨A,cap,rfl,k1,N,Z⟩:=hat1.live (s _);refine .own _ _ _ _ _ J ⟨0,_,s _,zac _,λ _=>⟨A,cap,rfl,k1,N,by simp [hl],λ L=>?_⟩⟩;obtain ⟨b',X,e',T,t1,t2,t3,t4⟩:=Z L;exact ⟨b',X,e',T,t1,by simpa using t2,t3,by simpa using t4⟩
theorem bgt {po:List Ob} {sz:Nat} {z:RV} (Z:po.length<=os.length) (J:∀o∈os,imO (vd os.length) o=o)
 (h:a8 P f args po (.nils sz z) os):a8 P f args po (.own (1000000+os.length) 0 0 0) (os++[.row sz z true true []]):=by
 intro w cargs ρ B G hB hM M t;refine (h w cargs ρ B G hB hM M t).mono ?_;rintro e Q ⟨c,ρ',rfl,k,hr⟩;cases hr;have D:∀(x:Ob) (i:Nat) (o:Ob),os[i]?=some o->ob0 (os++[x]) (1000000+i)=some (0,o):=λ x i o d=>l7 (by rw [zae (zab.1 d).1]; exact d);have O:∀x:Ob,ob0 (os++[x]) (1000000+os.length)=some (0,x):=λ x=>l7 (by simp)
 have E:∀(y:Ob) (id:Nat) (x:Nat×Ob),ob0 (os++[y]) id=some x->(∃i o,i<os.length/\id=1000000+i/\os[i]?=some o/\x=(0,o))\/(id=1000000+os.length/\x=(0,y)):=λ y id x hx=>by
  obtain ⟨i,hi,rfl,d,hv⟩:=eg hx;by_cases A:i<os.length
  ·rw [zae A] at d;exact .inl ⟨i,x.2,A,rfl,d,by rw [<- hv]⟩
  have:i=os.length:=by simp at hi; omega
  subst this;rw [zal (zac _)] at d;simp at d;exact .inr ⟨rfl,by rw [d,<- hv]⟩
 obtain ⟨a,F,R,T,r4⟩:∃a:Pl->Option Nat,(∀i,i<os.length->a (.o (1000000+i))=ρ' (.o (1000000+i)))/\(∀i j,i<os.length->a (.s (1000000+i) j)=ρ' (.s (1000000+i) j))/\a (.o (1000000+os.length))=none/\(∀j,a (.s (1000000+os.length) j)=none):=
  ⟨fun | .o i=>if i=1000000+os.length then none else ρ' (.o i) | .s i j=>if i=1000000+os.length then none else ρ' (.s i j),λ i hi=>by simp only; rw [if_neg (by omega)],λ i j hi=>by simp only; rw [if_neg (by omega)],by simp,by simp⟩
 have l:∀(id:Nat) (x:Nat×Ob) (b:Nat),ob0 (os++[Ob.row sz z true true []]) id=some x->foot a id x.2 b->ob0 os id=some x/\foot ρ' id x.2 b:=λ id x b hx g=>by
  rcases E _ id x hx with ⟨i,o,hi,rfl,d,rfl⟩ | ⟨rfl,rfl⟩
  ·refine ⟨l7 d,?_⟩;rcases g with q | ⟨L,j,q⟩
   ·exact .inl (by rw [<- F i hi]; exact q)
   exact .inr ⟨L,j,by rw [<- R i j hi]; exact q⟩
  rcases g with q | ⟨L,j,q⟩
  ·rw [T] at q; cases q
  cases L
 have m:∀c,g9 B (ob0 os) ρ' Q c->g9 B (ob0 (os++[Ob.row sz z true true []])) a Q c:=λ c hc=>⟨hc.1,λ ⟨id,v,o,V,X,U⟩=>by
  obtain ⟨p,r⟩:=l id _ c V U
  exact hc.2.1 ⟨id,v,o,p,X,r⟩,hc.2.2⟩
 have Y:ago (ob0 os) (ob0 (os++[Ob.row sz z true true []])) ρ' a (vd os.length):=λ id ver j u g=>by
  unfold vd at g;split at g
  ·rename_i hc;cases g;obtain ⟨rfl,W,h0⟩:=hc;obtain ⟨q,rfl⟩:∃q,id=1000000+q:=⟨id-1000000,by omega⟩
   have S:os[q]?=some (os[q]'(by omega)):=by simp [show q<os.length by omega]
   exact ⟨_,_,l7 S,D _ q _ S,F q (by omega),bt.refl _⟩
  cases g
 refine ⟨_,a,rfl,⟨λ id v o hx=>?_,λ id C x x' b hx K g H=>?_,k.keeps,λ id v o b hx g=>?_,λ id b hp=>?_⟩,?_⟩
 ·rcases E _ id _ hx with ⟨i,o',hi,rfl,d,n⟩ | ⟨rfl,n⟩
  ·cases n;have:=(k.obj (1000000+i) 0 o (l7 d)).im m Y (i:=1000000+i) (F i hi) (λ j=>R i j hi)
   rwa [J o (zaa d)] at this
  cases n;exact .inl ⟨rfl,T,rfl⟩
 ·obtain ⟨p,r⟩:=l id x b hx g;obtain ⟨N,I⟩:=l C x' b K H;exact k.inj id C x x' b p N r I
 ·obtain ⟨p,r⟩:=l id _ b hx g;exact k.own id v o b p r
 ·obtain ⟨p,o,r,q3⟩:=k.pin id b hp;obtain ⟨i,hi,rfl,d,_⟩:=eg r;exact ⟨by rw [F i hi]; exact p,o,D _ i o d,q3⟩
 exact .own _ _ _ _ _ rfl ⟨0,_,O _,zac _,λ _=>⟨none,0,rfl,zac _,by simp,by simp,by simp⟩⟩
end

variable {a b:Prop}
theorem sI (d:b) (c:a:=by first | decide | omega | exact λ _=>by decide | (simp +contextual; done) | kernel_rfl):a/\b:=⟨c,d⟩
theorem sJ (d:b) (c:a:=by first | omega | (simp; done) | (simp; omega) | kernel_rfl):a/\b:=⟨c,d⟩
theorem sL (d:b) (c:a:=by first | omega | (simp only [maxLen]; omega) | (simp; done) | (show _=true; kernel_rfl)):a/\b:=⟨c,d⟩
theorem sO (d:b) (c:a:=by omega):a/\b:=⟨c,d⟩
def p_m (d s:Nat):PR:=⟨some d,none,0,.see (.mov (.t s))⟩
def p_s (d:Nat) (x:PO):PR:=⟨some d,none,0,.see x⟩
def p_a (d:Nat) (x:PO):PR:=⟨some d,none,0,.act x⟩
def p_c (d u f:Nat) (a:List Opd):PR:=⟨some d,none,u,.call f a⟩
def p_g (d g:Nat) (b:Bool) (x:PO):PR:=⟨some d,some (g,b),0,.see x⟩
def o_i (n:Int):Opd:=.c (.r (.v (.int .i64 n)))
theorem abv (d s:Nat):p_m d s=⟨some d,none,0,.see (.mov (.t s))⟩:=(rfl)
theorem abu (d:Nat) (x:PO):p_s d x=⟨some d,none,0,.see x⟩:=(rfl)
theorem aby (d:Nat) (x:PO):p_a d x=⟨some d,none,0,.act x⟩:=(rfl)
theorem abx (d u f:Nat) (a:List Opd):p_c d u f a=⟨some d,none,u,.call f a⟩:=(rfl)
theorem abw (d g:Nat) (b:Bool) (x:PO):p_g d g b x=⟨some d,some (g,b),0,.see x⟩:=(rfl)
theorem ab1 (n:Int):o_i n=.c (.r (.v (.int .i64 n))):=(rfl)
attribute [push_cast high] abv abu aby abx abw ab1
def c7 (x:Int):Prop:=-9223372036854775808<=x/\x<=9223372036854775807
instance (x:Int):Decidable (c7 x):=inferInstanceAs (Decidable (_/\_))
theorem a5 {x:Int} (h:-9223372036854775808<=x/\x<=9223372036854775807):IntKind.i64.wrap x=x:=by rw [IntKind.wrap_i64]; omega
theorem aao (x:Int):c7 (IntKind.i64.wrap x):=by rw [IntKind.wrap_i64]; unfold c7; omega
theorem al6 (x m:Int) (n:Nat) (d:n<=62) (h:m=2^n-1):IntKind.i64.wrap ((zad IntKind.i64.bits x &&& zad IntKind.i64.bits m).toNat)=x%2^n:=by
 have i:2^n<=2^62:=Nat.pow_le_pow_right (by decide) d;have k:1<=2^n:=Nat.one_le_two_pow;have c:((2^n:Nat):Int)=(2:Int)^n:=by simp
 have e:(zad 64 m).toNat=2^n-1:=by
  rw [zah,h,<- c];omega
 have g:((2^64:Nat):Int)%(2:Int)^n=0:=by
  rw [show (64:Nat)=(64-n)+n by omega,Nat.pow_add];simp
 have a:(x%((2^64:Nat):Int)).toNat%2^n=(x%(2:Int)^n).toNat:=by
  have f:0<=x%((2^64:Nat):Int):=zai _ (by decide);have b:0<=x%(2:Int)^n:=zai _ (by omega);apply Int.ofNat.inj;show (((x%((2^64:Nat):Int)).toNat%2^n:Nat):Int)=((x%(2:Int)^n).toNat:Int);rw [Int.natCast_emod,zaj f,zaj b,c,Int.emod_emod_of_dvd _ (Int.dvd_of_emod_eq_zero g)]
 have b:0<=x%(2:Int)^n:=zai _ (by omega);have j:x%(2:Int)^n<2^n:=Int.emod_lt_of_pos _ (by omega);rw [show IntKind.i64.bits=64 from rfl,BitVec.toNat_and,e,Nat.and_two_pow_sub_one_eq_mod,zah,a,zaj b];exact a5 (by omega)
theorem ic {a b:Bool} (h:a=true↔b=true):AV.r (.v (.bool a))=bl b:=by
 have:a=b:=Bool.eq_iff_iff.2 h;rw [this]
def n8 (l:List UInt8):ByteArray:=⟨l.toArray⟩
theorem k9 (l:List UInt8):(n8 l).size=l.length:=by simp [n8,ByteArray.size]
theorem cq (l r:List UInt8):n8 l++n8 r=n8 (l++r):=by
 apply ByteArray.ext;simp [n8]
theorem azz (l:List UInt8) (a b:Nat) (c:b<=l.length):(n8 l).extract a b=n8 ((l.take b).drop a):=by
 apply ByteArray.ext;simp [n8,List.extract_eq_take_drop,List.drop_take]
theorem aol (l:List UInt8):(n8 l).toList=l:=by rw [ByteArray.toList_eq]; simp [n8]
theorem aon (l:List UInt8):(n8 l).data.toList=l:=by simp [n8]
theorem g7:4611686018427387904<=maxLen:=by decide
theorem sK (d:b) (c:a:=by first | omega | (have:=g7; omega) | (simp; done) | (simp; have:=g7; omega)):a/\b:=⟨c,d⟩
theorem sM (d:b) (c:a:=by first | decide | omega | kernel_rfl):a/\b:=⟨c,d⟩
def by8 (c:UInt8):RV:=.v (.int .u8 c.toNat)
abbrev bys (l:List UInt8):List RV:=l.map by8
abbrev sb (l:List UInt8):AV:=.r (.sl 1 (bys l))
abbrev rm (l:List UInt8):Ob:=.row 1 (.v (.int .u8 0)) true true (bys l)
theorem bca (c:UInt8):RV.good 1 (by8 c)=true:=rfl
theorem a9h (c:UInt8):RV.cells (by8 c)=[by8 c]:=rfl
theorem bgp (c:UInt8):RV.one (by8 c)=true:=rfl
theorem qi {a b:Type} (f:a->b) (l:List a):List.take l.length (List.map f l)=List.map f l:=List.take_of_length_le (by simp)
attribute [push_cast high] bca a9h bgp qi
theorem at0 (c:UInt8):aki (by8 c)=true:=by
 have:=c.toNat_lt;simp [aki,by8];omega
theorem ep (l:List UInt8):(bys l).all aki=true:=by
 rw [List.all_eq_true];intro x hx;obtain ⟨c,_,rfl⟩:=List.mem_map.1 hx;exact at0 c
theorem atz (c:UInt8):zg (by8 c)=c:=by simp [zg,by8]
theorem bc0 (l:List UInt8):(bys l).map zg=l:=by
 rw [List.map_map];have:zg∘by8=id:=funext atz;rw [this,List.map_id]
theorem di (l:List UInt8):(⟨((bys l).map zg).toArray⟩:ByteArray)=n8 l:=by rw [bc0]; rfl
theorem ac2 (x m:Int) (n:Nat) (b:n<=63) (f:m=2^n-1) (d:0<=x) (i:x<18446744073709551616):IntKind.u64.wrap ((zad IntKind.u64.bits x &&& zad IntKind.u64.bits m).toNat)=x%2^n:=by
 have g:2^n<=2^63:=Nat.pow_le_pow_right (by decide) b;have j:1<=2^n:=Nat.one_le_two_pow;have a:((2^n:Nat):Int)=(2:Int)^n:=by simp
 have e:(zad 64 m).toNat=2^n-1:=by
  rw [zah,f,<- a];omega
 have ex:(zad 64 x).toNat=x.toNat:=by rw [zah]; omega
 rw [show IntKind.u64.bits=64 from rfl,BitVec.toNat_and,e,ex,Nat.and_two_pow_sub_one_eq_mod,IntKind.wrap_u64];have c:((x.toNat%2^n:Nat):Int)=x%2^n:=by rw [Int.natCast_emod,zaj d,a]
 have h:0<=x%(2:Int)^n:=zai _ (by omega);have k:x%(2:Int)^n<2^n:=Int.emod_lt_of_pos _ (by omega);rw [c];omega
theorem ak9 (x:Int) (k:Nat) (a:k<=63):x.fdiv (2^min k IntKind.u64.bits)=x/2^k:=by
 rw [show min k IntKind.u64.bits=k from Nat.min_eq_left (by simp [IntKind.bits]; omega)];exact Int.fdiv_eq_ediv_of_nonneg _ (Int.le_of_lt (Int.pow_pos (by decide)))
theorem bdn (x:Int) (k:Nat) (a:k<=63):x.fdiv (2^min k IntKind.i64.bits)=x/2^k:=by
 rw [show min k IntKind.i64.bits=k from Nat.min_eq_left (by simp [IntKind.bits]; omega)];exact Int.fdiv_eq_ediv_of_nonneg _ (Int.le_of_lt (Int.pow_pos (by decide)))

end Go.Ev

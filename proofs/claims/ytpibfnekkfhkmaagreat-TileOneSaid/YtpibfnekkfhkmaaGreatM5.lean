import Derived.Below
import Derived.Test.YtpibfnekkfhkmaaGreatM4
open List renaming mem_of_getElem? → zaa, getElem?_eq_some_iff → zab, getElem?_append_left → zae, getElem?_map → zaf, append_eq_nil_iff → zak, getElem?_append_right → zal
open Nat renaming le_refl → zac
open BitVec renaming ofInt → zad, toNat_ofInt → zah
open Int renaming emod_nonneg → zai, toNat_of_nonneg → zaj
open Option renaming map_eq_some_iff → zam
namespace Go.Ev
set_option maxRecDepth 100000
open Go Go.RowKit
set_option linter.unusedSectionVars false
set_option linter.unnecessarySimpa false
set_option linter.unusedSimpArgs false
set_option linter.unusedVariables false
abbrev ax6 (w:World):Nat→Prop:=g8 (fun _=>True) (ob0 []) (fun _=>none) w
abbrev Rel0 (w:World):AV→Value→Prop:=RelA w (ax6 w) (ob0 []) (fun _=>none)
theorem aao {P:Program} {f:FuncId} {args:List AV} {res:AV} {cargs:Array Value} (h:a8 P f args [] res []) (w:World) (hgl:Gl P w fun _=>False) (hs:cargs.size=args.length)
  (hr:∀(i:Nat) (x:AV) (c:Value),args[i]?=some x→cargs[i]?=some c→Rel0 w x c):Calls P f cargs w fun e w'=>∃c,e=.returned c∧Below w.heap.size w w'∧∃ρ',RelA w' (g8 (fun _=>True) (ob0 []) ρ' w') (ob0 []) ρ' res c:=by
 have hno:∀b,¬jn (ob0 []) (fun _=>none) b:=fun b ⟨_,_,h,_⟩=>by simp [obs] at h
 refine (h w cargs (fun _=>none) (fun _=>True) (hgl.keep fun g _ _=>⟨rfl,fun hb=>hno g hb⟩) (fun _ _=>trivial) ⟨fun id v o h=>by simp [obs] at h,fun id id' x x' b h=>by simp [obs] at h,Keeps.refl _ _,fun id v o b h=>by simp [obs] at h,fun id b h=>by simp at h⟩ hs hr).mono ?_;rintro e w' ⟨c,ρ',rfl,hM,hR⟩;exact ⟨c,rfl,⟨hM.keeps.os,hM.keeps.tape,hM.keeps.output,hM.keeps.size,fun k hk=>hM.keeps.block k hk (hno k)⟩,ρ',hR⟩
theorem law_of_triple {P:Program} {f:FuncId} {args:List AV} {cargs:Array Value} (h:a8 P f args [] (bl true) []) (w:World) (hgl:Gl P w fun _=>False) (hs:cargs.size=args.length)
  (hr:∀(i:Nat) (x:AV) (c:Value),args[i]?=some x→cargs[i]?=some c→Rel0 w x c):Calls P f cargs w fun e w'=>e=.returned (.bool true)∧Below w.heap.size w w':=by
 refine (aao h w hgl hs hr).mono ?_;rintro e w' ⟨c,rfl,hb,ρ',hR⟩;cases hR with
 | r h=>cases h; exact ⟨rfl,hb⟩
theorem gl_none {P : Program} (h1 : P.globalNamed "internal/strconv.uint64pow10" = none) (h2 : qk = true → P.globalNamed "strconv.ErrSyntax" = none) (h3 : qk = true → P.globalNamed "strconv.ErrRange" = none) (w : World) (h4 : qk = true → P.globalNamed "unicode/utf8.first" = none := by intro h; cases h) (h5 : qk = true → P.globalNamed "unicode/utf8.acceptRanges" = none := by intro h; cases h) : Gl P w fun _ => False :=
 ⟨fun g h=>(by rw [h1] at h; cases h),fun he g h=>(by rw [h2 he] at h; cases h),fun he g h=>(by rw [h3 he] at h; cases h),fun he g h=>(by rw [h4 he] at h; cases h),fun he g h=>(by rw [h5 he] at h; cases h)⟩
theorem rel0_nil {w:World}:∀(i:Nat) (x:AV) (c:Value),([]:List AV)[i]?=some x→(#[]:Array Value)[i]?=some c→Rel0 w x c:=fun i x c h=>by simp at h
theorem rel0_cons {w:World} {x:AV} {c:Value} {xs:List AV} {cs:List Value} (h:Rel0 w x c) (hr:∀(i:Nat) (x:AV) (c:Value),xs[i]?=some x→cs.toArray[i]?=some c→Rel0 w x c) :
  ∀(i:Nat) (y:AV) (d:Value),(x::xs)[i]?=some y→(c::cs).toArray[i]?=some d→Rel0 w y d:=fun i y d hy hd=>by
 cases i with
 | zero=>simp at hy hd; subst hy; subst hd; exact h
 | succ i=>exact hr i y d (by simpa using hy) (by simpa using hd)
theorem rel0_v {w:World} (v:Value):Rel0 w (.r (.v v)) v:=.r (.v v)

open Go
mutual
theorem aix (F:Ren):∀(x:AV),x9 x=[]→imV F x=x
 | .r x,h=>by rw [imV]
 | .agg xs,h=>by rw [imV,rn F xs (by simpa [x9] using h)]
 | .tup xs,h=>by rw [imV,rn F xs (by simpa [x9] using h)]
 | .nils sz z,h=>by rw [imV]
 | .own id ver lo len,h=>by simp [x9] at h
 | .ptr id ver off,h=>by simp [x9] at h
 | .oel id ver idx off,h=>by simp [x9] at h
 | .rp ys,h=>by rw [imV]
 | .fn f xs k,h=>by rw [imV,rn F xs (by simpa [x9] using h)]
 | .mp id ver,h=>by simp [x9] at h
 | .ifc t x,h=>by rw [imV,aix F x (by simpa [x9] using h)]
 | .gd b x,h=>by rw [imV,aix F x (by simpa [x9] using h)]
 | .undef,h=>by rw [imV]
theorem rn (F:Ren):∀(xs:List AV),m5 xs=[]→imL F xs=xs
 | [],h=>by rw [imL]
 | x::xs,h=>by
  rw [m5,zak] at h;rw [imL,aix F x h.1,rn F xs h.2]
end
theorem az2:∀{xs:List AV},m5 xs=[]→∀{i:Nat} {x:AV},xs[i]?=some x→x9 x=[]
 | [],_,i,x,hx=>by simp at hx
 | y::ys,h,0,x,hx=>by simp at hx; subst hx; rw [m5,zak] at h; exact h.1
 | y::ys,h,i+1,x,hx=>by simp at hx; rw [m5,zak] at h; exact az2 h.2 hx
section
variable {P:Program} {f:FuncId} {as:List AV} {res:AV} {T:AbsT} {w w':World} {ob ob':Obs} {ρ ρ':Pl→Option Nat} {R R':Nat→Prop}
theorem RelA.free {x:AV} {c:Value} (h:RelA w R ob ρ x c) (hx:x9 x=[]) (hR:∀b,R b→R' b):RelA w R' ob' ρ' x c:=by
 have:=h.im (F:=fun _ _=>none) (ob':=ob') (ρ':=ρ') hR (fun _ _ _ _ h=>by cases h)
 rwa [aix _ _ hx] at this
theorem asz {as:List AV} {sz:Nat} {z:RV} (h:a8 P f as [] (.nils sz z) []):a8 P f as [] (.own 1000000 0 0 0) [.row sz z true true []]:=by
 intro w cargs ρ B hgl hB hM hcs hargs;refine (h w cargs ρ B hgl hB hM hcs hargs).mono ?_;rintro e w' ⟨c,ρ',rfl,hM',hr⟩;cases hr;have hob:ob0 [Ob.row sz z true true []] 1000000=some (0,.row sz z true true []):=by simp [ob0,obs,upd]
 have hid:∀id x,ob0 [Ob.row sz z true true []] id=some x→id=1000000∧x=(0,.row sz z true true []):=fun id x hx=>by
  obtain ⟨h1,h2,h3⟩:=xg hx
  have:id-1000000=0:=by
   have:=(zab.1 h2).1;simpa using this
  have hid:id=1000000:=by omega
  subst hid;rw [hob] at hx;exact ⟨rfl,(Option.some.inj hx).symm⟩
 refine ⟨_,fun _=>none,rfl,⟨fun id v o hx=>?_,fun id id' x x' b hx hx' _ _=>by rw [(hid id _ hx).1,(hid id' _ hx').1],hM'.keeps,fun id v o b hx hf=>?_,fun id b hp=>by simp [me,obs] at hp⟩,?_⟩
 ·obtain ⟨rfl,hx⟩:=hid id _ hx;cases hx;exact .inl ⟨rfl,rfl,rfl⟩
 ·rcases hf with hf | ⟨_,j,hf⟩<;>cases hf
 ·exact .own _ _ _ _ _ rfl ⟨0,_,hob,zac _,fun _=>⟨none,0,rfl,zac _,by simp,by simp,by simp⟩⟩
end

def qt (N:Nat):Ren:=fun id ver=>if ver=0∧1000000≤id∧id<1000000+N then some (id,ver) else none
structure Fam where
 S:List Ob→Prop
 N:Nat
 n:Nat
 pos:0<N
 len:∀{os:List Ob},S os→os.length=N
 flat:∀{os:List Ob},S os→∀o∈os,ea o∧o.own=true
 shut:∀{os:List Ob},S os→∀o∈os,imO (qt N) o=o
 root:∀{os:List Ob},S os→∃cells,os[0]?=some (.box cells)∧cells.length=n
def abi (os:List Ob) (ρ:Pl→Option Nat) (m:Nat):Option Nat:=
 if m/os.length=0 then ρ (.o (1000000+m%os.length)) else match os[m%os.length]? with
  | some o=>if o.isAbs=true then ρ (.s (1000000+m%os.length) (m/os.length-1)) else none
  | none=>none
theorem bfm {os:List Ob} {i:Nat} (ρ:Pl→Option Nat) (h:i<os.length):abi os ρ i=ρ (.o (1000000+i)):=by
 simp [abi,Nat.div_eq_of_lt h,Nat.mod_eq_of_lt h]
theorem bfl {os:List Ob} {i:Nat} {o:Ob} (ρ:Pl→Option Nat) (h:os[i]?=some o) (ha:o.isAbs=true) (j:Nat):abi os ρ (i+(j+1)*os.length)=ρ (.s (1000000+i) j):=by
 have hi:=(zab.1 h).1;have h0:0<os.length:=by omega
 have h1:(i+(j+1)*os.length)/os.length=j+1:=by rw [Nat.add_mul_div_right _ _ h0,Nat.div_eq_of_lt hi]; omega
 have h2:(i+(j+1)*os.length)%os.length=i:=by rw [Nat.add_mul_mod_self_right,Nat.mod_eq_of_lt hi]
 simp [abi,h1,h2,h,ha]
structure Lie (w:World) (os:List Ob) (ρ:Pl→Option Nat):Prop where
 obj:∀id v o,ob0 os id=some (v,o)→dn w (fun _=>False) (ob0 os) ρ id o
 inj:∀id id' x x' b,ob0 os id=some x→ob0 os id'=some x'→foot ρ id x.2 b→foot ρ id' x'.2 b→id=id'
theorem bn {os:List Ob} {id:Nat} {x:Nat×Ob} (h:ob0 os id=some x):∃i,i<os.length∧id=1000000+i∧os[i]?=some x.2∧x.1=0:=by
 obtain ⟨h1,h2,h3⟩:=xg h;exact ⟨id-1000000,(zab.1 h2).1,by omega,h2,h3⟩
theorem alh {os:List Ob} {ρ:Pl→Option Nat} {id c:Nat} {x:Nat×Ob} (hx:ob0 os id=some x) (h:foot ρ id x.2 c):∃m,abi os ρ m=some c:=by
 obtain ⟨i,hi,rfl,ho,_⟩:=bn hx;rcases h with h | ⟨ha,j,h⟩
 ·exact ⟨i,by rw [bfm ρ hi]; exact h⟩
 ·exact ⟨i+(j+1)*os.length,by rw [bfl ρ ho ha]; exact h⟩
theorem ako {os:List Ob} {ρ:Pl→Option Nat} (h0:0<os.length) {m c:Nat} (h:abi os ρ m=some c):∃id x,ob0 os id=some x∧foot ρ id x.2 c:=by
 have hi:m%os.length<os.length:=Nat.mod_lt _ h0;have ho:os[m%os.length]?=some os[m%os.length]:=by simp [hi]
 refine ⟨1000000+m%os.length,(0,os[m%os.length]),i8 ho,?_⟩;unfold abi at h;split at h
 ·exact .inl h
 ·rw [ho] at h;simp only at h;split at h
  ·rename_i ha; exact .inr ⟨ha,_,h⟩
  ·cases h
theorem Lie.stays {w w':World} {os:List Ob} {ρ:Pl→Option Nat} (hL:Lie w os ρ) (hw:∀m c,abi os ρ m=some c→w'.heap[c]?=w.heap[c]?):Lie w' os ρ:=by
 refine ⟨fun id v o h=>?_,hL.inj⟩
 have hs:Stays w w' (fun _=>False) (fun _=>False) (ob0 os) (ob0 os) ρ ρ:=
  ⟨fun b h=>h.elim,fun id v o h=>⟨v,o,h,zac _,fun _=>⟨rfl,y7.refl o,fun b cs e fr hb hh=>⟨cs,e,fr,by
   obtain ⟨m,hm⟩:=alh h (.inl hb)
   rw [hw m b hm,hh],rfl⟩⟩⟩⟩
 refine (hL.obj id v o h).stays hs rfl (fun _=>rfl) fun b hb=>?_;obtain ⟨m,hm⟩:=alh h hb;exact hw m b hm
def Fam.T (F:Fam):AbsT where
 size:=F.n
 Q w b φ:=∃os ρ,F.S os∧Lie w os ρ∧ρ (.o 1000000)=some b∧∀m,φ m=abi os ρ m
 loc:=by
  rintro w w' b φ ⟨os,ρ,h1,h2,h3,h4⟩ hb hφ;refine ⟨os,ρ,h1,h2.stays fun m c hm=>?_,h3,h4⟩;rw [← h4] at hm;exact hφ m c hm
 root:=by
  rintro w b φ ⟨os,ρ,h1,h2,h3,h4⟩;obtain ⟨cells,hc,hn⟩:=F.root h1;obtain ⟨b',cs,e,g1,g2,g3,_⟩:=h2.obj 1000000 0 _ (i8 (k:=0) hc);rw [h3] at g1;cases g1;exact ⟨cs,e,g2,by rw [g3,hn]⟩
 lt:=by
  rintro w b φ ⟨os,ρ,h1,h2,h3,h4⟩ j c hc;rw [h4] at hc;obtain ⟨id,x,g1,g2⟩:=ako (by rw [F.len h1]; exact F.pos) hc;exact (h2.obj id x.1 x.2 g1).foot_lt g2
 view:=[]
 rp:=fun R hQ hb hφ=>⟨fun _=>undef,fun j y hj=>by simp at hj⟩
def a1i (N M:Nat):Ren:=fun id ver=>if ver=0∧1000000+N≤id∧id<1000000+N+M then some (id-N+1,ver) else none
theorem Keeps.more {I J:Nat→Prop} {w w':World} (h:Keeps I w w') (hI:∀b,I b→J b):Keeps J w w':=⟨h.os,h.tape,h.output,h.size,fun b hb hn=>h.block b hb fun hi=>hn (hI b hi)⟩
def bhx:Ob→Prop
 | .row _ _ _ _ xs=>∀x,x∈xs→dp x
 | _=>False
section
variable {P:Program} {f:FuncId}
theorem a1j {F F':Fam} (hN:F'.N=F.N) {as:List AV} {res:AV} {ex:List Ob} (h:∀os,F.S os→∃os',F'.S os'∧a8 P f (.ptr 1000000 0 0::as) os res (os'++ex)) (has:m5 as=[]) (hex:∀o∈ex,bhx o) (hf:v9 res) :
  a8 P f (.ptr 1000000 0 0::as) [.abs F.T] (imV (a1i F.N ex.length) res) (.abs F'.T::ex):=by
 intro w cargs ρ B hgl hB hM hcs hargs;have hob:ob0 [Ob.abs F.T] 1000000=some (0,.abs F.T):=by simp [ob0,obs,upd]
 obtain ⟨b,hρ,os,ρ0,hS,hL,hb0,hφ⟩:=hM.obj 1000000 0 (.abs F.T) hob;obtain ⟨os',hS',hT⟩:=h os hS;have hlen:=F.len hS;have hlen':os'.length=F.N:=by rw [F'.len hS',hN]
 have hpos:=F.pos
 have heldA:∀c,jn (ob0 os) ρ0 c→foot ρ 1000000 (.abs F.T) c:=fun c ⟨id,x,g1,g2⟩=>by
  obtain ⟨m,hm⟩:=alh g1 g2;exact .inr ⟨rfl,m,(hφ m).trans hm⟩
 have heldH:∀c,jn (ob0 os) ρ0 c→jn (ob0 [Ob.abs F.T]) ρ c:=fun c hc=>⟨1000000,_,hob,heldA c hc⟩
 obtain ⟨cells,hc0,hcn⟩:=F.root hS
 refine (hT w cargs ρ0 B (hgl.keep fun g h1 h2=>⟨rfl,fun hc=>h2 (heldH g hc)⟩) (fun c hc=>hB c (hc.imp (heldH c) id))
  ⟨fun id v o g=>?_,hL.inj,Keeps.refl _ _,fun id v o c g1 g2=>.inl ⟨id,_,g1,g2⟩,fun id c g=>by cases g⟩ hcs (fun i x c hx hc=>?_)).mono ?_
 ·obtain ⟨i,hi,_,ho,_⟩:=bn g;exact (hL.obj id v o g).flat (F.flat hS o (zaa ho)).1
 ·cases i with
  | zero=>
   simp at hx;subst hx;have h0:=hargs 0 _ c rfl hc;cases h0 with
   | ptr _ _ _ _ hc1 hat=>
    refine .ptr _ _ _ _ hc1 ⟨0,_,i8 (k:=0) hc0,zac _,fun _=>?_⟩;obtain ⟨b',hb',rfl⟩:=hat.live hob;rw [hρ] at hb';cases hb';exact ⟨b,hb0,rfl⟩
  | succ i=>
   simp at hx;refine (hargs (i+1) x c (by simpa using hx) hc).free (az2 has hx) fun b hb=>⟨hb.1,?_,hb.2.2⟩
   rintro ⟨id,v,o,g1,g2,g3⟩;exact hb.2.1 ⟨1000000,0,_,hob,rfl,heldA b ⟨id,_,g1,g3⟩⟩
 ·rintro e w' ⟨c,ρ',rfl,hM',hr⟩
  have hpin:ρ' (.o 1000000)=some b:=(hM'.pin 1000000 b (by
   simp only [me,i8 (k:=0) hc0]
   exact hb0)).1
  have hin:∀(i:Nat) (o:Ob),os'[i]?=some o→ob0 (os'++ex) (1000000+i)=some (0,o):=fun i o ho=>i8 (by rw [zae (zab.1 ho).1]; exact ho)
  have hix:∀(k:Nat) (o:Ob),ex[k]?=some o→ob0 (os'++ex) (1000000+F.N+k)=some (0,o):=fun k o ho=>by
   rw [show 1000000+F.N+k=1000000+(F.N+k) by omega];exact i8 (by rw [zal (by omega),hlen',Nat.add_sub_cancel_left]; exact ho)
  have hLie:Lie w' os' ρ':=by
   refine ⟨fun id v o g=>?_,fun id id' x x' c g1 g2 f1 f2=>?_⟩
   ·obtain ⟨i,hi,rfl,ho,hv⟩:=bn g;simp only at ho;have hmem:=zaa ho;have hfl:=F'.flat hS' o hmem;have hsh:=F'.shut hS' o hmem;have ho1:=((hM'.obj (1000000+i) 0 o (hin i o ho)).flat (R':=fun _=>False) hfl.1)
    have hF:adf (ob0 (os'++ex)) (ob0 os') ρ' ρ' (qt F'.N):=fun id ver j u hf=>by
     unfold qt at hf;split at hf
     ·rename_i hc;cases hf;obtain ⟨rfl,hc1,hc2⟩:=hc;obtain ⟨q,rfl⟩:∃q,id=1000000+q:=⟨id-1000000,by omega⟩
      have hq:os'[q]?=some (os'[q]'(by omega)):=by simp [show q<os'.length by omega]
      exact ⟨_,_,hin q _ hq,i8 hq,rfl,y7.refl _⟩
     ·cases hf
    have:=ho1.im (fun _ h=>h) hF (i:=1000000+i) rfl (fun _=>rfl)
    rwa [hsh] at this
   ·obtain ⟨i,hi,rfl,ho,_⟩:=bn g1;obtain ⟨i',hi',rfl,ho',_⟩:=bn g2;exact hM'.inj _ _ _ _ c (hin i _ ho) (hin i' _ ho') f1 f2
  obtain ⟨ρ2,r1,r2,r3,r4⟩:∃ρ2:Pl→Option Nat,ρ2 (.o 1000000)=some b∧(∀m,ρ2 (.s 1000000 m)=abi os' ρ' m)∧(∀k,ρ2 (.o (1000001+k))=ρ' (.o (1000000+F.N+k)))∧(∀k j,ρ2 (.s (1000001+k) j)=none):=
   ⟨fun | .o i=>if i=1000000 then some b else ρ' (.o (i+F.N-1)) | .s i j=>if i=1000000 then abi os' ρ' j else none,by simp,by simp,fun k=>by
    simp only;rw [if_neg (by omega),show 1000001+k+F.N-1=1000000+F.N+k by omega],fun k j=>by
    simp only
    rw [if_neg (by omega)]⟩
  have hA:ob0 (Ob.abs F'.T::ex) 1000000=some (0,.abs F'.T):=i8 (k:=0) rfl
  have hE:∀(k:Nat) (o:Ob),ex[k]?=some o→ob0 (Ob.abs F'.T::ex) (1000001+k)=some (0,o):=fun k o ho=>by
   rw [show 1000001+k=1000000+(k+1) by omega];exact i8 (by simpa using ho)
  have hid:∀id x,ob0 (Ob.abs F'.T::ex) id=some x→(id=1000000∧x=(0,.abs F'.T))∨∃k o,id=1000001+k∧ex[k]?=some o∧x=(0,o):=fun id x hx=>by
   obtain ⟨i,hi,rfl,ho,hv⟩:=bn hx;cases i with
   | zero=>rw [hA] at hx; exact .inl ⟨rfl,(Option.some.inj hx).symm⟩
   | succ k=>
    simp at ho;exact .inr ⟨k,x.2,by omega,ho,by rw [← hv]⟩
  have hna:∀(k:Nat) (o:Ob),ex[k]?=some o→o.isAbs=false:=fun k o ho=>by
   have:=hex o (zaa ho);cases o<;>first | rfl | exact this.elim
  have footA:∀c,foot ρ2 1000000 (.abs F'.T) c→∃i o,os'[i]?=some o∧foot ρ' (1000000+i) o c:=fun c hc=>by
   rcases hc with q | ⟨_,j,q⟩
   ·rw [r1] at q;cases q;exact ⟨0,os'[0]'(by omega),by simp [show 0<os'.length by omega],.inl hpin⟩
   ·rw [r2] at q;obtain ⟨id,x,g1,g2⟩:=ako (by omega) q;obtain ⟨i,hi,rfl,ho,_⟩:=bn g1;exact ⟨i,x.2,ho,g2⟩
  have footE:∀(k:Nat) (o:Ob),ex[k]?=some o→∀c,foot ρ2 (1000001+k) o c→foot ρ' (1000000+F.N+k) o c:=fun k o ho c hc=>by
   rw [fm (hna k o ho)] at hc ⊢;rw [r3] at hc;exact hc
  have hfree:∀c,g8 B (ob0 (os'++ex)) ρ' w' c→g8 B (ob0 (Ob.abs F'.T::ex)) ρ2 w' c:=fun c hc=>by
   refine ⟨hc.1,?_,hc.2.2⟩;rintro ⟨id,v,o,g1,g2,g3⟩;rcases hid id _ g1 with ⟨rfl,hx⟩ | ⟨k,o',rfl,ho,hx⟩
   ·cases hx;obtain ⟨i,o,ho,hf⟩:=footA c g3;exact hc.2.1 ⟨_,_,_,hin i o ho,(F'.flat hS' o (zaa ho)).2,hf⟩
   ·cases hx;exact hc.2.1 ⟨_,_,_,hix k o ho,g2,footE k o ho c g3⟩
  have hF:adf (ob0 (os'++ex)) (ob0 (Ob.abs F'.T::ex)) ρ' ρ2 (a1i F.N ex.length):=fun id ver j u hf=>by
   unfold a1i at hf;split at hf
   ·rename_i hc;cases hf;obtain ⟨rfl,hc1,hc2⟩:=hc;obtain ⟨k,rfl⟩:∃k,id=1000000+F.N+k:=⟨id-1000000-F.N,by omega⟩
    have hk:ex[k]?=some (ex[k]'(by omega)):=by simp [show k<ex.length by omega]
    have e1:1000000+F.N+k-F.N+1=1000001+k:=by omega
    refine ⟨_,_,hix k _ hk,by rw [e1]; exact hE k _ hk,by rw [e1,r3],y7.refl _⟩
   ·cases hf
  refine ⟨c,ρ2,rfl,⟨fun id v o hx=>?_,fun id id' x x' c hx hx' hf hf'=>?_,hM'.keeps.more heldH,fun id v o c hx hf=>?_,fun id c hp=>?_⟩,hr.im hfree hF⟩
  ·rcases hid id _ hx with ⟨rfl,hx⟩ | ⟨k,o',rfl,ho,hx⟩
   ·cases hx;exact ⟨b,r1,os',ρ',hS',hLie,hpin,r2⟩
   ·cases hx;have hpl:=hex o (zaa ho);cases o with
    | row sz z app wr xs=>
     have:=(hM'.obj _ 0 _ (hix k _ ho)).im hfree hF (i:=1000001+k) (r3 k);rcases hM'.obj _ 0 _ (hix k _ ho) with ⟨q1,q2⟩ | ⟨b1,cs,e,fr,q1,q2,q3,q4,q5,q6⟩
     ·exact .inl ⟨q1,by rw [r3]; exact q2⟩
     ·refine .inr ⟨b1,cs,e,fr,by rw [r3]; exact q1,q2,q3,q4,q5,fun i x hx=>⟨(q6 i x hx).1,fun j y hy=>?_⟩⟩;obtain ⟨u,t1,t2,t3⟩:=(q6 i x hx).2 j y hy;exact ⟨u,t1,t2,t3.flat (pq.cells (hpl x (zaa hx)) hy)⟩
    | _=>exact hpl.elim
  ·rcases hid id _ hx with ⟨rfl,ex1⟩ | ⟨k,o,rfl,ho,ex1⟩<;>rcases hid id' _ hx' with ⟨rfl,ex2⟩ | ⟨k',o',rfl,ho',ex2⟩
   ·rfl
   ·subst ex1; subst ex2;obtain ⟨i,o,hoi,hfi⟩:=footA c hf;have:=hM'.inj _ _ _ _ c (hin i o hoi) (hix k' o' ho') hfi (footE k' o' ho' c hf');have:=(zab.1 hoi).1;omega
   ·subst ex1; subst ex2;obtain ⟨i,o',hoi,hfi⟩:=footA c hf';have:=hM'.inj _ _ _ _ c (hin i o' hoi) (hix k o ho) hfi (footE k o ho c hf);have:=(zab.1 hoi).1;omega
   ·subst ex1; subst ex2;have:=hM'.inj _ _ _ _ c (hix k o ho) (hix k' o' ho') (footE k o ho c hf) (footE k' o' ho' c hf');omega
  ·rcases hid id _ hx with ⟨rfl,hx⟩ | ⟨k,o',rfl,ho,hx⟩
   ·cases hx;obtain ⟨i,o,hoi,hfi⟩:=footA c hf;exact (hM'.own _ 0 o c (hin i o hoi) hfi).imp (heldH c) id
   ·cases hx;exact (hM'.own _ 0 o c (hix k o ho) (footE k o ho c hf)).imp (heldH c) id
  ·simp only [me] at hp;split at hp
   ·rename_i v o hx;split at hp
    ·rename_i hpo
     have hid0:id=1000000:=by
      obtain ⟨i,hi,rfl,_,_⟩:=bn hx;simpa using hi
     subst hid0;rw [hρ] at hp;cases hp;exact ⟨r1,_,hA,rfl,fun h=>by cases h⟩
    ·cases hp
   ·cases hp
theorem bcq {F:Fam} {as:List AV} {os':List Ob} (hS':F.S os') (hT:a8 P f as [] (.ptr 1000000 0 0) os'):a8 P f as [] (.ptr 1000000 0 0) [.abs F.T]:=by
 intro w cargs ρ B hgl hB hM hcs hargs;have hlen':=F.len hS';have hpos:=F.pos;refine (hT w cargs ρ B hgl hB hM hcs hargs).mono ?_;rintro e w' ⟨c,ρ',rfl,hM',hr⟩;obtain ⟨cells,hc0,hcn⟩:=F.root hS';obtain ⟨b,_,_,hpin,_⟩:=hM'.obj 1000000 0 _ (i8 (k:=0) hc0);have hin:∀(i:Nat) (o:Ob),os'[i]?=some o→ob0 os' (1000000+i)=some (0,o):=fun i o ho=>i8 ho
 have hLie:Lie w' os' ρ':=by
  refine ⟨fun id v o g=>?_,hM'.inj⟩;obtain ⟨i,hi,rfl,ho,hv⟩:=bn g;exact (hM'.obj _ _ _ g).flat (F.flat hS' o (zaa ho)).1
 obtain ⟨ρ2,r1,r2⟩:∃ρ2:Pl→Option Nat,ρ2 (.o 1000000)=some b∧(∀m,ρ2 (.s 1000000 m)=abi os' ρ' m):=
  ⟨fun | .o i=>if i=1000000 then some b else none | .s i j=>if i=1000000 then abi os' ρ' j else none,by simp,by simp⟩
 have hA:ob0 [Ob.abs F.T] 1000000=some (0,.abs F.T):=i8 (k:=0) rfl
 have hid:∀id x,ob0 [Ob.abs F.T] id=some x→id=1000000∧x=(0,.abs F.T):=fun id x hx=>by
  obtain ⟨i,hi,rfl,ho,hv⟩:=bn hx;have h0:i=0:=by simpa using hi
  subst h0;rw [hA] at hx;exact ⟨rfl,(Option.some.inj hx).symm⟩
 have footA:∀c,foot ρ2 1000000 (.abs F.T) c→∃i o,os'[i]?=some o∧foot ρ' (1000000+i) o c:=fun c hc=>by
  rcases hc with q | ⟨_,j,q⟩
  ·rw [r1] at q;cases q;exact ⟨0,os'[0]'(by omega),by simp [show 0<os'.length by omega],.inl hpin⟩
  ·rw [r2] at q;obtain ⟨id,x,g1,g2⟩:=ako (by omega) q;obtain ⟨i,hi,rfl,ho,_⟩:=bn g1;exact ⟨i,x.2,ho,g2⟩
 refine ⟨c,ρ2,rfl,⟨fun id v o hx=>?_,fun id id' x x' c hx hx' hf hf'=>?_,hM'.keeps,fun id v o c hx hf=>?_,fun id c hp=>?_⟩,?_⟩
 ·obtain ⟨rfl,hx⟩:=hid id _ hx;cases hx;exact ⟨b,r1,os',ρ',hS',hLie,hpin,r2⟩
 ·rw [(hid id _ hx).1,(hid id' _ hx').1]
 ·obtain ⟨rfl,hx⟩:=hid id _ hx;cases hx;obtain ⟨i,o,hoi,hfi⟩:=footA c hf;exact hM'.own _ 0 o c (hin i o hoi) hfi
 ·simp [me,ob0,obs] at hp
 ·cases hr with
  | ptr _ _ _ _ hc1 hat=>
   refine .ptr _ _ _ _ hc1 ⟨0,_,hA,zac _,fun _=>?_⟩;obtain ⟨b',hb',rfl⟩:=hat.live (i8 (k:=0) hc0);rw [hpin] at hb';cases hb';exact ⟨b,r1,rfl⟩
def dnF (M:Nat):Ren:=fun id ver=>if ver=0∧1000001≤id∧id<1000001+M then some (id-1,ver) else none
def upF (M:Nat):Ren:=fun id ver=>if ver=0∧1000000≤id∧id<1000000+M then some (id+1,ver) else none
theorem a97 {T:AbsT} {as as':List AV} {po po' ro ro':List Ob} {res res':AV} (h:a8 P f (.rp T.view::as) po res ro)
  (ha:imL (dnF po'.length) as'=as) (hp:po'.map (imO (dnF po'.length))=po) (hr:ro.map (imO (upF ro.length))=ro') (hres:imV (upF ro.length) res=res')
  (hfp:∀o∈po',ea o) (hfr:∀o∈ro,ea o) (hfl:v9 res) :
  a8 P f (.ptr 1000000 0 0::as') (.abs T::po') res' (.abs T::ro'):=by
 subst ha hp hr hres;intro w cargs ρ B hgl hB hM hcs hargs;have hob:ob0 (Ob.abs T::po') 1000000=some (0,.abs T):=i8 (k:=0) rfl
 have hobP:∀(k:Nat) (o:Ob),po'[k]?=some o→ob0 (Ob.abs T::po') (1000001+k)=some (0,o):=fun k o ho=>by
  rw [show 1000001+k=1000000+(k+1) by omega];exact i8 (by simpa using ho)
 obtain ⟨b,hρ,hQ⟩:=hM.obj 1000000 0 (.abs T) hob
 obtain ⟨ρd,d1,d2⟩:∃ρd:Pl→Option Nat,(∀k,ρd (.o (1000000+k))=ρ (.o (1000001+k)))∧(∀k j,ρd (.s (1000000+k) j)=ρ (.s (1000001+k) j)):=
  ⟨fun | .o i=>ρ (.o (i+1)) | .s i j=>ρ (.s (i+1) j),fun k=>by simp only; rw [show 1000000+k+1=1000001+k by omega],fun k j=>by simp only; rw [show 1000000+k+1=1000001+k by omega]⟩
 have absI:∀(F:Ren) (o:Ob),(imO F o).isAbs=o.isAbs:=fun F o=>by cases o<;>rfl
 have pinI:∀(F:Ren) (o:Ob),(imO F o).pinned=o.pinned:=fun F o=>by cases o<;>rfl
 have ownI:∀(F:Ren) (o:Ob),(imO F o).own=o.own:=fun F o=>by cases o<;>rfl
 have hA:∀id v o,ob0 (po'.map (imO (dnF po'.length))) id=some (v,o)→∃k o',id=1000000+k∧v=0∧po'[k]?=some o'∧o=imO (dnF po'.length) o':=fun id v o hx=>by
  obtain ⟨i,hi,rfl,ho,hv⟩:=bn hx;rw [zaf,zam] at ho;obtain ⟨o',ho',e⟩:=ho;exact ⟨i,o',rfl,hv,ho',e.symm⟩
 have footD:∀k o F c,foot ρd (1000000+k) (imO F o) c↔foot ρ (1000001+k) o c:=fun k o F c=>aad (d1 k) (d2 k) (absI F o)
 have heldH:∀c,jn (ob0 (po'.map (imO (dnF po'.length)))) ρd c→jn (ob0 (Ob.abs T::po')) ρ c:=fun c ⟨id,x,g1,g2⟩=>by
  obtain ⟨k,o',rfl,hv,ho',e⟩:=hA id x.1 x.2 g1;rw [e,footD] at g2;exact ⟨_,_,hobP k o' ho',g2⟩
 have notT:∀c,foot ρ 1000000 (.abs T) c→¬jn (ob0 (po'.map (imO (dnF po'.length)))) ρd c:=fun c hc ⟨id,x,g1,g2⟩=>by
  obtain ⟨k,o',rfl,hv,ho',e⟩:=hA id x.1 x.2 g1;rw [e,footD] at g2;have:=hM.inj _ _ _ _ c hob (hobP k o' ho') hc g2;omega
 have ownD:∀c,Own (ob0 (po'.map (imO (dnF po'.length)))) ρd c→Own (ob0 (Ob.abs T::po')) ρ c:=fun c ⟨id,v,o,g1,g2,g3⟩=>by
  obtain ⟨k,o',rfl,hv,ho',rfl⟩:=hA id v o g1;rw [footD] at g3;exact ⟨_,_,_,hobP k o' ho',by rw [← ownI]; exact g2,g3⟩
 have hfree:∀c,g8 B (ob0 (Ob.abs T::po')) ρ w c→g8 B (ob0 (po'.map (imO (dnF po'.length)))) ρd w c:=fun c hc=>⟨hc.1,fun h=>hc.2.1 (ownD c h),hc.2.2⟩
 have hfoot:∀c,foot ρ 1000000 (.abs T) c→c<w.heap.size:=fun c hc=>(hM.obj 1000000 0 (.abs T) hob).foot_lt hc
 have hfreeT:∀c,foot ρ 1000000 (.abs T) c→g8 B (ob0 (po'.map (imO (dnF po'.length)))) ρd w c:=fun c hc=>
  ⟨hfoot c hc,fun ⟨id,v,o,g1,g2,g3⟩=>notT c hc ⟨id,_,g1,g3⟩,hB c (.inl ⟨_,_,hob,hc⟩)⟩
 have hF:adf (ob0 (Ob.abs T::po')) (ob0 (po'.map (imO (dnF po'.length)))) ρ ρd (dnF po'.length):=fun id ver j u hf=>by
  unfold dnF at hf;split at hf
  ·rename_i hc;cases hf;obtain ⟨rfl,hc1,hc2⟩:=hc;obtain ⟨k,rfl⟩:∃k,id=1000001+k:=⟨id-1000001,by omega⟩
   have hk:po'[k]?=some (po'[k]'(by omega)):=by simp [show k<po'.length by omega]
   have e1:1000001+k-1=1000000+k:=by omega
   refine ⟨_,_,hobP k _ hk,by rw [e1]; exact i8 (by rw [zaf,hk]; rfl),by rw [e1,d1],y7.im _ _⟩
  ·cases hf
 refine (h w cargs ρd B (hgl.keep fun g h1 h2=>⟨rfl,fun hc=>h2 (heldH g hc)⟩) (fun c hc=>hB c (hc.imp (heldH c) id))
  ⟨fun id v o g=>?_,fun id id' x x' c g g' f f'=>?_,Keeps.refl _ _,fun id v o c g1 g2=>.inl ⟨id,_,g1,g2⟩,fun id c g=>by cases g⟩ (by rw [hcs]; simp [gm]) (fun i x c hx hc=>?_)).mono ?_
 ·obtain ⟨k,o',rfl,rfl,ho',rfl⟩:=hA id v o g;exact ((hM.obj _ _ _ (hobP k o' ho')).flat (R':=fun _=>False) (hfp o' (zaa ho'))).im (fun _ h=>h.elim) hF (d1 k) (d2 k)
 ·obtain ⟨k,o,rfl,hv,ho,e⟩:=hA id x.1 x.2 g;obtain ⟨k',o',rfl,hv',ho',e'⟩:=hA id' x'.1 x'.2 g';rw [e,footD] at f;rw [e',footD] at f';have:=hM.inj _ _ _ _ c (hobP k o ho) (hobP k' o' ho') f f';omega
 ·cases i with
  | zero=>
   simp at hx;subst hx;have h0:=hargs 0 _ c rfl hc;cases h0 with
   | ptr _ _ _ _ hc1 hat=>
    obtain ⟨b',hb',rfl⟩:=hat.live hob;rw [hρ] at hb';cases hb';obtain ⟨g,hg⟩:=T.rp (g8 B (ob0 (po'.map (imO (dnF po'.length)))) ρd w) hQ (hfreeT b (.inl hρ)) fun j c hc=>hfreeT c (.inr ⟨rfl,j,hc⟩);exact .rp T.view b 0 g (hfreeT b (.inl hρ)) hg
  | succ i=>
   simp at hx;rw [yn,zam] at hx;obtain ⟨y,hy,rfl⟩:=hx;exact (hargs (i+1) y c (by simpa using hy) hc).im hfree hF
 ·rintro e w' ⟨c,ρ',rfl,hM',hrr⟩;have hblk:∀c,foot ρ 1000000 (.abs T) c→w'.heap[c]?=w.heap[c]?:=fun c hc=>hM'.keeps.block c (hfoot c hc) (notT c hc)
  obtain ⟨ρ2,r1,r2,r3,r4⟩:∃ρ2:Pl→Option Nat,ρ2 (.o 1000000)=some b∧(∀j,ρ2 (.s 1000000 j)=ρ (.s 1000000 j))∧(∀k,ρ2 (.o (1000001+k))=ρ' (.o (1000000+k)))∧(∀k j,ρ2 (.s (1000001+k) j)=ρ' (.s (1000000+k) j)):=
   ⟨fun | .o i=>if i=1000000 then some b else ρ' (.o (i-1)) | .s i j=>if i=1000000 then ρ (.s 1000000 j) else ρ' (.s (i-1) j),by simp,by simp,
    fun k=>by simp only; rw [if_neg (by omega),show 1000001+k-1=1000000+k by omega],fun k j=>by simp only; rw [if_neg (by omega),show 1000001+k-1=1000000+k by omega]⟩
  have hA2:ob0 (Ob.abs T::ro.map (imO (upF ro.length))) 1000000=some (0,.abs T):=i8 (k:=0) rfl
  have hE:∀(k:Nat) (o:Ob),ro[k]?=some o→ob0 (Ob.abs T::ro.map (imO (upF ro.length))) (1000001+k)=some (0,imO (upF ro.length) o):=fun k o ho=>by
   rw [show 1000001+k=1000000+(k+1) by omega];exact i8 (by simp [ho])
  have hid:∀id x,ob0 (Ob.abs T::ro.map (imO (upF ro.length))) id=some x→(id=1000000∧x=(0,.abs T))∨∃k o,id=1000001+k∧ro[k]?=some o∧x=(0,imO (upF ro.length) o):=fun id x hx=>by
   obtain ⟨i,hi,rfl,ho,hv⟩:=bn hx;cases i with
   | zero=>rw [hA2] at hx; exact .inl ⟨rfl,(Option.some.inj hx).symm⟩
   | succ k=>
    simp at ho;obtain ⟨o,ho,e⟩:=ho;exact .inr ⟨k,o,by omega,ho,by rw [e,← hv]⟩
  have footT:∀c,foot ρ2 1000000 (.abs T) c→foot ρ 1000000 (.abs T) c:=fun c hc=>by
   rcases hc with q | ⟨_,j,q⟩
   ·rw [r1] at q; exact .inl (hρ.trans q)
   ·rw [r2] at q; exact .inr ⟨rfl,j,q⟩
  have footE:∀k o F c,foot ρ2 (1000001+k) (imO F o) c↔foot ρ' (1000000+k) o c:=fun k o F c=>aad (r3 k) (r4 k) (absI F o);have hin:∀(k:Nat) (o:Ob),ro[k]?=some o→ob0 ro (1000000+k)=some (0,o):=fun k o ho=>i8 ho
  have apart:∀k o c,ro[k]?=some o→foot ρ' (1000000+k) o c→¬foot ρ 1000000 (.abs T) c:=fun k o c ho hc hT=>by
   rcases hM'.own _ 0 o c (hin k o ho) hc with q | q
   ·exact notT c hT q
   ·have q':w.heap.size≤c:=q;have:=hfoot c hT;omega
  have hF2:adf (ob0 ro) (ob0 (Ob.abs T::ro.map (imO (upF ro.length)))) ρ' ρ2 (upF ro.length):=fun id ver j u hf=>by
   unfold upF at hf;split at hf
   ·rename_i hc;cases hf;obtain ⟨rfl,hc1,hc2⟩:=hc;obtain ⟨k,rfl⟩:∃k,id=1000000+k:=⟨id-1000000,by omega⟩
    have hk:ro[k]?=some (ro[k]'(by omega)):=by simp [show k<ro.length by omega]
    have e1:1000000+k+1=1000001+k:=by omega
    exact ⟨_,_,hin k _ hk,by rw [e1]; exact hE k _ hk,by rw [e1,r3],y7.im _ _⟩
   ·cases hf
  refine ⟨c,ρ2,rfl,⟨fun id v o hx=>?_,fun id id' x x' c hx hx' hf hf'=>?_,hM'.keeps.more heldH,fun id v o c hx hf=>?_,fun id c hp=>?_⟩,(hrr.flat (R':=fun _=>False) hfl).im (fun _ h=>h.elim) hF2⟩
  ·rcases hid id _ hx with ⟨rfl,hx⟩ | ⟨k,o',rfl,ho,hx⟩
   ·cases hx;refine ⟨b,r1,?_⟩;rw [show (fun j=>ρ2 (.s 1000000 j))=fun j=>ρ (.s 1000000 j) from funext r2];exact T.loc hQ (hblk b (.inl hρ)) fun j c hc=>hblk c (.inr ⟨rfl,j,hc⟩)
   ·cases hx;exact ((hM'.obj _ _ _ (hin k o' ho)).flat (R':=fun _=>False) (hfr o' (zaa ho))).im (fun _ h=>h.elim) hF2 (r3 k) (r4 k)
  ·rcases hid id _ hx with ⟨rfl,ex1⟩ | ⟨k,o,rfl,ho,ex1⟩<;>rcases hid id' _ hx' with ⟨rfl,ex2⟩ | ⟨k',o',rfl,ho',ex2⟩
   ·rfl
   ·subst ex1; subst ex2;exact (apart k' o' c ho' ((footE ..).1 hf') (footT c hf)).elim
   ·subst ex1; subst ex2;exact (apart k o c ho ((footE ..).1 hf) (footT c hf')).elim
   ·subst ex1; subst ex2;have:=hM'.inj _ _ _ _ c (hin k o ho) (hin k' o' ho') ((footE ..).1 hf) ((footE ..).1 hf');omega
  ·rcases hid id _ hx with ⟨rfl,hx⟩ | ⟨k,o',rfl,ho,hx⟩
   ·cases hx;exact .inl ⟨_,_,hob,footT c hf⟩
   ·cases hx;exact (hM'.own _ 0 o' c (hin k o' ho) ((footE ..).1 hf)).imp (heldH c) id
  ·simp only [me] at hp;split at hp
   ·rename_i v o hx;split at hp
    ·rename_i hpo;obtain ⟨i,hi,rfl,ho,hv⟩:=bn hx;cases i with
     | zero=>
      rw [hρ] at hp;cases hp;exact ⟨r1,_,hA2,rfl,fun h=>by cases h⟩
     | succ k=>
      simp at ho
      have hpin:=hM'.pin (1000000+k) c (by
       have:ob0 (po'.map (imO (dnF po'.length))) (1000000+k)=some (0,imO (dnF po'.length) o):=i8 (by rw [zaf,ho]; rfl);simp only [me,this,pinI];rw [if_pos hpo,d1];rw [show 1000001+k=1000000+(k+1) by omega]
       exact hp)
      obtain ⟨q1,o2,q2,q3⟩:=hpin;obtain ⟨i2,hi2,e2,ho2,_⟩:=bn q2;have:i2=k:=by omega
      subst this;rw [show 1000000+(i2+1)=1000001+i2 by omega];exact ⟨by rw [r3]; exact q1,_,hE i2 _ ho2,by rw [pinI]; exact q3.1,by rw [ao7]; exact q3.2⟩
    ·cases hp
   ·cases hp
end

def fo (xs:List Value) (m:Nat):List AV:=xs.map (fun x=>AV.r (.v x))++List.replicate m .undef
section
variable {P:Program} {f:FuncId} {as:List AV} {res:AV}
theorem bh6 {args:List AV} {po os:List Ob} {ys:List Value} {z:RV} {n:Nat} (hl:ys.length=n) (hpo:po.length≤os.length) (hsh:∀o∈os,imO (qt os.length) o=o) (hy:∀y∈ys,y.oneCell'=true)
  (h:amv P f args po fun v ro=>∃m,v=.own (1000000+os.length) 0 0 n∧ro=os++[.box (fo ys m)]) :
  a8 P f args po (.own (1000000+os.length) 0 0 n) (os++[.row 1 z true true (ys.map RV.v)]):=by
 intro w cargs ρ B hgl hB hM hcs hargs;refine (h w cargs ρ B hgl hB hM hcs hargs).mono ?_;rintro e w' ⟨c,ρ',res,ro,rfl,⟨m,rfl,rfl⟩,hM',hr⟩;have hin:∀(x:Ob) (i:Nat) (o:Ob),os[i]?=some o→ob0 (os++[x]) (1000000+i)=some (0,o):=fun x i o ho=>i8 (by rw [zae (zab.1 ho).1]; exact ho);have hla:∀x:Ob,ob0 (os++[x]) (1000000+os.length)=some (0,x):=fun x=>i8 (by simp)
 have hat:∀(y:Ob) (id:Nat) (x:Nat×Ob),ob0 (os++[y]) id=some x→(∃i o,id=1000000+i∧os[i]?=some o∧x=(0,o))∨(id=1000000+os.length∧x=(0,y)):=fun y id x hx=>by
  obtain ⟨i,hi,rfl,ho,hv⟩:=bn hx;by_cases hlt:i<os.length
  ·rw [zae hlt] at ho;exact .inl ⟨i,x.2,rfl,ho,by rw [← hv]⟩
  ·have:i=os.length:=by simp at hi; omega
   subst this;rw [zal (zac _)] at ho;simp at ho;exact .inr ⟨rfl,by rw [ho,← hv]⟩
 have hft:∀(id:Nat) (x:Nat×Ob) (b:Nat),ob0 (os++[Ob.row 1 z true true (ys.map RV.v)]) id=some x→foot ρ' id x.2 b→∃x',ob0 (os++[Ob.box (fo ys m)]) id=some x'∧foot ρ' id x'.2 b∧(x.2.own=true→x'.2.own=true)∧x'.1=x.1:=fun id x b hx hf=>by
  rcases hat _ id x hx with ⟨i,o,rfl,ho,rfl⟩ | ⟨rfl,rfl⟩
  ·exact ⟨_,hin _ i o ho,hf,fun h=>h,rfl⟩
  ·rw [fm rfl] at hf;exact ⟨_,hla _,by rw [fm rfl]; exact hf,fun _=>rfl,rfl⟩
 have hfree:∀c,g8 B (ob0 (os++[Ob.box (fo ys m)])) ρ' w' c→g8 B (ob0 (os++[Ob.row 1 z true true (ys.map RV.v)])) ρ' w' c:=fun c hc=>⟨hc.1,fun ⟨id,v,o,g1,g2,g3⟩=>by
  obtain ⟨x',q1,q2,q3,_⟩:=hft id _ c g1 g3
  exact hc.2.1 ⟨id,x'.1,x'.2,q1,q3 g2,q2⟩,hc.2.2⟩
 have hF:adf (ob0 (os++[Ob.box (fo ys m)])) (ob0 (os++[Ob.row 1 z true true (ys.map RV.v)])) ρ' ρ' (qt os.length):=fun id ver j u hf=>by
  unfold qt at hf;split at hf
  ·rename_i hc;cases hf;obtain ⟨rfl,hc1,hc2⟩:=hc;obtain ⟨q,rfl⟩:∃q,id=1000000+q:=⟨id-1000000,by omega⟩
   have hq:os[q]?=some (os[q]'(by omega)):=by simp [show q<os.length by omega]
   exact ⟨_,_,hin _ q _ hq,hin _ q _ hq,rfl,y7.refl _⟩
  ·cases hf
 have hlen:ys.length≤(fo ys m).length:=by unfold fo; simp
 refine ⟨c,ρ',rfl,⟨fun id v o hx=>?_,fun id id' x x' b hx hx' hf hf'=>?_,hM'.keeps,fun id v o b hx hf=>?_,fun id b hp=>?_⟩,?_⟩
 ·rcases hat _ id _ hx with ⟨i,o',rfl,ho,hx2⟩ | ⟨rfl,hx2⟩
  ·cases hx2;have:=(hM'.obj (1000000+i) 0 o (hin _ i o ho)).im hfree hF (i:=1000000+i) rfl (fun _=>rfl)
   rwa [hsh o (zaa ho)] at this
  ·cases hx2;obtain ⟨b,cs,ee,k1,k2,k3,k4⟩:=hM'.obj _ 0 _ (hla _);refine .inr ⟨b,cs,ee,(0,0),k1,k2,by simp,fun _=>rfl,by rw [k3]; simpa using hlen,fun i x hx=>?_⟩;rw [zaf,zam] at hx;obtain ⟨y,hyi,rfl⟩:=hx;have hi:=(zab.1 hyi).1;refine ⟨rfl,fun j y' hj=>?_⟩
   have hj0:j=0:=by
    have:=(zab.1 hj).1;simp [RV.cells] at this;omega
   subst hj0;simp [RV.cells] at hj;subst hj;have hlt:i<cs.size:=by omega
   have hb:(fo ys m)[i]?=some (.r (.v y)):=by
    unfold fo;rw [zae (by simpa using hi)];simp [hyi]
   have hr':=k4 i _ cs[i] hb (by simp [hlt]);cases hr' with
   | r h0=>
    cases h0;exact ⟨cs[i],by simp [hlt],hy _ (zaa hyi),.v _⟩
 ·obtain ⟨y,q1,q2,_⟩:=hft id x b hx hf;obtain ⟨y',q1',q2',_⟩:=hft id' x' b hx' hf';exact hM'.inj id id' y y' b q1 q1' q2 q2'
 ·obtain ⟨y,q1,q2,_⟩:=hft id _ b hx hf;exact hM'.own id y.1 y.2 b q1 q2
 ·obtain ⟨q1,o,q2,q3⟩:=hM'.pin id b hp;refine ⟨q1,?_⟩;rcases hat _ id _ q2 with ⟨i,o',rfl,ho,hx⟩ | ⟨rfl,hx⟩
  ·cases hx;exact ⟨o,hin _ i o ho,q3⟩
  ·exfalso;simp only [me] at hp;split at hp
   ·rename_i v o1 hx1;obtain ⟨i,hi,hid,_,_⟩:=bn hx1;omega
   ·cases hp
 ·cases hr with
  | own _ _ _ _ _ hc1 hat1=>
   obtain ⟨A,cap,rfl,k1,k2,k3⟩:=hat1.live (hla _);refine .own _ _ _ _ _ hc1 ⟨0,_,hla _,zac _,fun _=>⟨A,cap,rfl,k1,k2,by simp [hl],fun hcap=>?_⟩⟩;obtain ⟨b',cs',e',fr',t1,t2,t3,t4⟩:=k3 hcap;exact ⟨b',cs',e',fr',t1,by simpa using t2,t3,by simpa using t4⟩
theorem bcw {args:List AV} {po os:List Ob} {sz:Nat} {z:RV} (hpo:po.length≤os.length) (hsh:∀o∈os,imO (qt os.length) o=o)
  (h:a8 P f args po (.nils sz z) os):a8 P f args po (.own (1000000+os.length) 0 0 0) (os++[.row sz z true true []]):=by
 intro w cargs ρ B hgl hB hM hcs hargs;refine (h w cargs ρ B hgl hB hM hcs hargs).mono ?_;rintro e w' ⟨c,ρ',rfl,hM',hr⟩;cases hr;have hin:∀(x:Ob) (i:Nat) (o:Ob),os[i]?=some o→ob0 (os++[x]) (1000000+i)=some (0,o):=fun x i o ho=>i8 (by rw [zae (zab.1 ho).1]; exact ho);have hla:∀x:Ob,ob0 (os++[x]) (1000000+os.length)=some (0,x):=fun x=>i8 (by simp)
 have hat:∀(y:Ob) (id:Nat) (x:Nat×Ob),ob0 (os++[y]) id=some x→(∃i o,i<os.length∧id=1000000+i∧os[i]?=some o∧x=(0,o))∨(id=1000000+os.length∧x=(0,y)):=fun y id x hx=>by
  obtain ⟨i,hi,rfl,ho,hv⟩:=bn hx;by_cases hlt:i<os.length
  ·rw [zae hlt] at ho;exact .inl ⟨i,x.2,hlt,rfl,ho,by rw [← hv]⟩
  ·have:i=os.length:=by simp at hi; omega
   subst this;rw [zal (zac _)] at ho;simp at ho;exact .inr ⟨rfl,by rw [ho,← hv]⟩
 obtain ⟨ρ2,r1,r2,r3,r4⟩:∃ρ2:Pl→Option Nat,(∀i,i<os.length→ρ2 (.o (1000000+i))=ρ' (.o (1000000+i)))∧(∀i j,i<os.length→ρ2 (.s (1000000+i) j)=ρ' (.s (1000000+i) j))∧ρ2 (.o (1000000+os.length))=none∧(∀j,ρ2 (.s (1000000+os.length) j)=none):=
  ⟨fun | .o i=>if i=1000000+os.length then none else ρ' (.o i) | .s i j=>if i=1000000+os.length then none else ρ' (.s i j),fun i hi=>by simp only; rw [if_neg (by omega)],fun i j hi=>by simp only; rw [if_neg (by omega)],by simp,by simp⟩
 have hft:∀(id:Nat) (x:Nat×Ob) (b:Nat),ob0 (os++[Ob.row sz z true true []]) id=some x→foot ρ2 id x.2 b→ob0 os id=some x∧foot ρ' id x.2 b:=fun id x b hx hf=>by
  rcases hat _ id x hx with ⟨i,o,hi,rfl,ho,rfl⟩ | ⟨rfl,rfl⟩
  ·refine ⟨i8 ho,?_⟩;rcases hf with q | ⟨ha,j,q⟩
   ·exact .inl (by rw [← r1 i hi]; exact q)
   ·exact .inr ⟨ha,j,by rw [← r2 i j hi]; exact q⟩
  ·rcases hf with q | ⟨ha,j,q⟩
   ·rw [r3] at q; cases q
   ·cases ha
 have hfree:∀c,g8 B (ob0 os) ρ' w' c→g8 B (ob0 (os++[Ob.row sz z true true []])) ρ2 w' c:=fun c hc=>⟨hc.1,fun ⟨id,v,o,g1,g2,g3⟩=>by
  obtain ⟨q1,q2⟩:=hft id _ c g1 g3
  exact hc.2.1 ⟨id,v,o,q1,g2,q2⟩,hc.2.2⟩
 have hF:adf (ob0 os) (ob0 (os++[Ob.row sz z true true []])) ρ' ρ2 (qt os.length):=fun id ver j u hf=>by
  unfold qt at hf;split at hf
  ·rename_i hc;cases hf;obtain ⟨rfl,hc1,hc2⟩:=hc;obtain ⟨q,rfl⟩:∃q,id=1000000+q:=⟨id-1000000,by omega⟩
   have hq:os[q]?=some (os[q]'(by omega)):=by simp [show q<os.length by omega]
   exact ⟨_,_,i8 hq,hin _ q _ hq,r1 q (by omega),y7.refl _⟩
  ·cases hf
 refine ⟨_,ρ2,rfl,⟨fun id v o hx=>?_,fun id id' x x' b hx hx' hf hf'=>?_,hM'.keeps,fun id v o b hx hf=>?_,fun id b hp=>?_⟩,?_⟩
 ·rcases hat _ id _ hx with ⟨i,o',hi,rfl,ho,hx2⟩ | ⟨rfl,hx2⟩
  ·cases hx2;have:=(hM'.obj (1000000+i) 0 o (i8 ho)).im hfree hF (i:=1000000+i) (r1 i hi) (fun j=>r2 i j hi)
   rwa [hsh o (zaa ho)] at this
  ·cases hx2;exact .inl ⟨rfl,r3,rfl⟩
 ·obtain ⟨q1,q2⟩:=hft id x b hx hf;obtain ⟨q1',q2'⟩:=hft id' x' b hx' hf';exact hM'.inj id id' x x' b q1 q1' q2 q2'
 ·obtain ⟨q1,q2⟩:=hft id _ b hx hf;exact hM'.own id v o b q1 q2
 ·obtain ⟨q1,o,q2,q3⟩:=hM'.pin id b hp;obtain ⟨i,hi,rfl,ho,_⟩:=bn q2;exact ⟨by rw [r1 i hi]; exact q1,o,hin _ i o ho,q3⟩
 ·exact .own _ _ _ _ _ rfl ⟨0,_,hla _,zac _,fun _=>⟨none,0,rfl,zac _,by simp,by simp,by simp⟩⟩
end

def p_m (d s:Nat):PR:=⟨some d,none,0,.see (.mov (.t s))⟩
def p_s (d:Nat) (x:PO):PR:=⟨some d,none,0,.see x⟩
def p_a (d:Nat) (x:PO):PR:=⟨some d,none,0,.act x⟩
def p_c (d u f:Nat) (xs:List Opd):PR:=⟨some d,none,u,.call f xs⟩
def p_g (d g:Nat) (b:Bool) (x:PO):PR:=⟨some d,some (g,b),0,.see x⟩
def o_i (n:Int):Opd:=.c (.r (.v (.int .i64 n)))
theorem zh (d s:Nat):p_m d s=⟨some d,none,0,.see (.mov (.t s))⟩:=(rfl)
theorem zg (d:Nat) (x:PO):p_s d x=⟨some d,none,0,.see x⟩:=(rfl)
theorem zl (d:Nat) (x:PO):p_a d x=⟨some d,none,0,.act x⟩:=(rfl)
theorem zk (d u f:Nat) (xs:List Opd):p_c d u f xs=⟨some d,none,u,.call f xs⟩:=(rfl)
theorem zj (d g:Nat) (b:Bool) (x:PO):p_g d g b x=⟨some d,some (g,b),0,.see x⟩:=(rfl)
theorem zo (n:Int):o_i n=.c (.r (.v (.int .i64 n))):=(rfl)
attribute [push_cast high] zh zg zl zk zj zo
def in64 (x:Int):Prop:=-9223372036854775808≤x∧x≤9223372036854775807
instance (x:Int):Decidable (in64 x):=inferInstanceAs (Decidable (_∧_))
theorem a7 {x:Int} (h:-9223372036854775808≤x∧x≤9223372036854775807):IntKind.i64.wrap x=x:=by rw [IntKind.wrap_i64]; omega
theorem aeh (x:Int):in64 (IntKind.i64.wrap x):=by rw [IntKind.wrap_i64]; unfold in64; omega
theorem ajg (x m:Int) (n:Nat) (hn:n≤62) (hm:m=2^n-1):IntKind.i64.wrap ((zad IntKind.i64.bits x &&& zad IntKind.i64.bits m).toNat)=x%2^n:=by
 have hp:2^n≤2^62:=Nat.pow_le_pow_right (by decide) hn;have hq:1≤2^n:=Nat.one_le_two_pow;have e3:((2^n:Nat):Int)=(2:Int)^n:=by simp
 have e:(zad 64 m).toNat=2^n-1:=by
  rw [zah,hm,← e3];omega
 have hd:((2^64:Nat):Int)%(2:Int)^n=0:=by
  rw [show (64:Nat)=(64-n)+n by omega,Nat.pow_add];simp
 have hmod:(x%((2^64:Nat):Int)).toNat%2^n=(x%(2:Int)^n).toNat:=by
  have h1:0≤x%((2^64:Nat):Int):=zai _ (by decide);have h2:0≤x%(2:Int)^n:=zai _ (by omega);apply Int.ofNat.inj;show (((x%((2^64:Nat):Int)).toNat%2^n:Nat):Int)=((x%(2:Int)^n).toNat:Int);rw [Int.natCast_emod,zaj h1,zaj h2,e3,Int.emod_emod_of_dvd _ (Int.dvd_of_emod_eq_zero hd)]
 have h2:0≤x%(2:Int)^n:=zai _ (by omega);have h3:x%(2:Int)^n<2^n:=Int.emod_lt_of_pos _ (by omega);rw [show IntKind.i64.bits=64 from rfl,BitVec.toNat_and,e,Nat.and_two_pow_sub_one_eq_mod,zah,hmod,zaj h2];exact a7 (by omega)
theorem la {a b:Bool} (h:a=true↔b=true):AV.r (.v (.bool a))=bl b:=by
 have:a=b:=Bool.eq_iff_iff.2 h;rw [this]
def a9s (l:List UInt8):ByteArray:=⟨l.toArray⟩
theorem a6l (l:List UInt8):(a9s l).toList=l:=by rw [ByteArray.toList_eq]; simp [a9s]
theorem j7:4611686018427387904≤maxLen:=by decide
def by8 (c:UInt8):RV:=.v (.int .u8 c.toNat)
abbrev bys (l:List UInt8):List RV:=l.map by8
abbrev sb (l:List UInt8):AV:=.r (.sl 1 (bys l))
abbrev qg (l:List UInt8):Ob:=.row 1 (.v (.int .u8 0)) true true (bys l)
theorem a84 (c:UInt8):RV.good 1 (by8 c)=true:=rfl
theorem a6g (c:UInt8):RV.cells (by8 c)=[by8 c]:=rfl
theorem bcr (c:UInt8):RV.one (by8 c)=true:=rfl
theorem akg {α β:Type} (f:α→β) (l:List α):List.take l.length (List.map f l)=List.map f l:=List.take_of_length_le (by simp)
attribute [push_cast high] a84 a6g bcr akg
theorem a2t (c:UInt8):ahu (by8 c)=true:=by
 have:=c.toNat_lt;simp [ahu,by8];omega
theorem a2s (l:List UInt8):(bys l).all ahu=true:=by
 rw [List.all_eq_true];intro x hx;obtain ⟨c,_,rfl⟩:=List.mem_map.1 hx;exact a2t c
theorem a2r (c:UInt8):we (by8 c)=c:=by simp [we,by8]
theorem a9r (l:List UInt8):(bys l).map we=l:=by
 rw [List.map_map];have:we∘by8=id:=funext a2r;rw [this,List.map_id]
theorem ayn (l:List UInt8):(⟨((bys l).map we).toArray⟩:ByteArray)=a9s l:=by rw [a9r]; rfl
theorem ajf (x m:Int) (n:Nat) (hn:n≤63) (hm:m=2^n-1) (h0:0≤x) (h1:x<18446744073709551616):IntKind.u64.wrap ((zad IntKind.u64.bits x &&& zad IntKind.u64.bits m).toNat)=x%2^n:=by
 have hp:2^n≤2^63:=Nat.pow_le_pow_right (by decide) hn;have hq:1≤2^n:=Nat.one_le_two_pow;have e3:((2^n:Nat):Int)=(2:Int)^n:=by simp
 have e:(zad 64 m).toNat=2^n-1:=by
  rw [zah,hm,← e3];omega
 have ex:(zad 64 x).toNat=x.toNat:=by rw [zah]; omega
 rw [show IntKind.u64.bits=64 from rfl,BitVec.toNat_and,e,ex,Nat.and_two_pow_sub_one_eq_mod,IntKind.wrap_u64];have h2:((x.toNat%2^n:Nat):Int)=x%2^n:=by rw [Int.natCast_emod,zaj h0,e3]
 have h3:0≤x%(2:Int)^n:=zai _ (by omega);have h4:x%(2:Int)^n<2^n:=Int.emod_lt_of_pos _ (by omega);rw [h2];omega
theorem au2 (x:Int) (k:Nat) (hk:k≤63):x.fdiv (2^min k IntKind.u64.bits)=x/2^k:=by
 rw [show min k IntKind.u64.bits=k from Nat.min_eq_left (by simp [IntKind.bits]; omega)];exact Int.fdiv_eq_ediv_of_nonneg _ (Int.le_of_lt (Int.pow_pos (by decide)))
theorem bie (x:Int) (k:Nat) (hk:k≤63):x.fdiv (2^min k IntKind.i64.bits)=x/2^k:=by
 rw [show min k IntKind.i64.bits=k from Nat.min_eq_left (by simp [IntKind.bits]; omega)];exact Int.fdiv_eq_ediv_of_nonneg _ (Int.le_of_lt (Int.pow_pos (by decide)))

end Go.Ev

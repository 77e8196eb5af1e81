import Derived.Below
import Derived.Test.YtjpejkfhkbaakaaGreatM4
namespace Go.Ev
set_option maxHeartbeats 8000000
set_option maxRecDepth 100000
open Go Go.RowKit
set_option linter.unusedSectionVars false
set_option linter.unnecessarySimpa false
set_option linter.unusedSimpArgs false
set_option linter.unusedVariables false
abbrev arn (w:World):Nat->Prop:=d7 (fun _=>True) (ob0 []) (fun _=>none) w
abbrev Rel0 (w:World):AV->Value->Prop:=RelA w (arn w) (ob0 []) (fun _=>none)
variable {args:List AV} {cargs:Array Value}
theorem aea {P:Program} {f:FuncId} {j:AV} (h:a9 P f args [] j []) (w:World) (n:Gl P w fun _=>False) (r:cargs.size=args.length)
 (q:∀(i:Nat) (x:AV) (c:Value),args[i]?=some x->cargs[i]?=some c->Rel0 w x c):Calls P f cargs w fun e m=>∃c,e=.returned c/\Below w.heap.size w m/\∃a,RelA m (d7 (fun _=>True) (ob0 []) a m) (ob0 []) a j c:=by
 have l:∀b,¬om (ob0 []) (fun _=>none) b:=fun b ⟨_,_,h,_⟩=>by simp [obs] at h
 refine (h w cargs (fun _=>none) (fun _=>True) (n.keep fun g _ _=>⟨rfl,fun p=>l g p⟩) (fun _ _=>trivial) ⟨fun id v o h=>by simp [obs] at h,fun id t x x' b h=>by simp [obs] at h,Keeps.refl _ _,fun id v o b h=>by simp [obs] at h,fun id b h=>by simp at h⟩ r q).mono ?_;rintro e m ⟨c,a,rfl,d,u⟩;exact ⟨c,rfl,⟨d.keeps.os,d.keeps.tape,d.keeps.output,d.keeps.size,fun k s=>d.keeps.block k s (l k)⟩,a,u⟩
theorem law_of_triple {P:Program} {f:FuncId} (h:a9 P f args [] (bl true) []) (w:World) (a:Gl P w fun _=>False) (j:cargs.size=args.length)
 (k:∀(i:Nat) (x:AV) (c:Value),args[i]?=some x->cargs[i]?=some c->Rel0 w x c):Calls P f cargs w fun e b=>e=.returned (.bool true)/\Below w.heap.size w b:=by
 refine (aea h w a j k).mono ?_;rintro e b ⟨c,rfl,g,d,l⟩;cases l with
 | r h=>cases h; exact ⟨rfl,g⟩
theorem gl_none {P : Program} (f : P.globalNamed "internal/strconv.uint64pow10" = none) (c : ic = true → P.globalNamed "strconv.ErrSyntax" = none) (e : ic = true → P.globalNamed "strconv.ErrRange" = none) (w : World) (d : ic = true → P.globalNamed "unicode/utf8.first" = none := by intro h; cases h) (b : ic = true → P.globalNamed "unicode/utf8.acceptRanges" = none := by intro h; cases h) : Gl P w fun _ => False :=
 ⟨fun g h=>(by rw [f] at h; cases h),fun a g h=>(by rw [c a] at h; cases h),fun a g h=>(by rw [e a] at h; cases h),fun a g h=>(by rw [d a] at h; cases h),fun a g h=>(by rw [b a] at h; cases h)⟩
theorem rel0_nil {w:World}:∀(i:Nat) (x:AV) (c:Value),([]:List AV)[i]?=some x->(#[]:Array Value)[i]?=some c->Rel0 w x c:=fun i x c h=>by simp at h
theorem rel0_cons {w:World} {x:AV} {c:Value} {b:List AV} {cs:List Value} (h:Rel0 w x c) (e:∀(i:Nat) (x:AV) (c:Value),b[i]?=some x->cs.toArray[i]?=some c->Rel0 w x c) :
 ∀(i:Nat) (y:AV) (d:Value),(x::b)[i]?=some y->(c::cs).toArray[i]?=some d->Rel0 w y d:=fun i y d hy a=>by
 cases i with
 | zero=>simp at hy a; subst hy; subst a; exact h
 | succ i=>exact e i y d (by simpa using hy) (by simpa using a)
theorem rel0_v {w:World} (v:Value):Rel0 w (.r (.v v)) v:=.r (.v v)

open Go
mutual
theorem acl (F:Ren):∀(x:AV),q9 x=[]->imV F x=x
 | .r x,h=>by rw [imV]
 | .agg xs,h=>by rw [imV,yj F xs (by simpa [q9] using h)]
 | .tup xs,h=>by rw [imV,yj F xs (by simpa [q9] using h)]
 | .nils sz z,h=>by rw [imV]
 | .own id ver lo len,h=>by simp [q9] at h
 | .ptr id ver off,h=>by simp [q9] at h
 | .oel id ver idx off,h=>by simp [q9] at h
 | .rp ys,h=>by rw [imV]
 | .fn f xs k,h=>by rw [imV,yj F xs (by simpa [q9] using h)]
 | .mp id ver,h=>by simp [q9] at h
 | .ifc t x,h=>by rw [imV,acl F x (by simpa [q9] using h)]
 | .gd b x,h=>by rw [imV,acl F x (by simpa [q9] using h)]
 | .undef,h=>by rw [imV]
theorem yj (F:Ren):∀(a:List AV),l9 a=[]->imL F a=a
 | [],h=>by rw [imL]
 | x::a,h=>by
   rw [l9,List.append_eq_nil_iff] at h;rw [imL,acl F x h.1,yj F a h.2]
end
section
variable {P:Program} {f:FuncId} {as:List AV} {res:AV} {T:AbsT} {w w':World} {ob ob':Obs} {ρ ρ':Pl->Option Nat} {R R':Nat->Prop}
theorem ajs {as:List AV} {sz:Nat} {z:RV} (h:a9 P f as [] (.nils sz z) []):a9 P f as [] (.own 1000000 0 0 0) [.row sz z true true []]:=by
 intro w cargs ρ B m r t p d;refine (h w cargs ρ B m r t p d).mono ?_;rintro e C ⟨c,q,rfl,l,s⟩;cases s;have g:ob0 [Ob.row sz z true true []] 1000000=some (0,.row sz z true true []):=by simp [ob0,obs,upd]
 have a:∀id x,ob0 [Ob.row sz z true true []] id=some x->id=1000000/\x=(0,.row sz z true true []):=fun id x hx=>by
  obtain ⟨D,u,A⟩:=yf hx
  have:id-1000000=0:=by
   have:=(List.getElem?_eq_some_iff.1 u).1;simpa using this
  have a:id=1000000:=by omega
  subst a;rw [g] at hx;exact ⟨rfl,(Option.some.inj hx).symm⟩
 refine ⟨_,fun _=>none,rfl,⟨fun id v o hx=>?_,fun id n x x' b hx k _ _=>by rw [(a id _ hx).1,(a n _ k).1],l.keeps,fun id v o b hx i=>?_,fun id b y=>by simp [vm,obs] at y⟩,?_⟩
 ·obtain ⟨rfl,hx⟩:=a id _ hx;cases hx;exact .inl ⟨rfl,rfl,rfl⟩
 ·rcases i with i | ⟨_,j,i⟩<;>cases i
 exact .own _ _ _ _ _ rfl ⟨0,_,g,Nat.le_refl _,fun _=>⟨none,0,rfl,Nat.le_refl _,by simp,by simp,by simp⟩⟩
end

def p_m (d s:Nat):PR:=⟨some d,none,0,.see (.mov (.t s))⟩
def p_s (d:Nat) (x:PO):PR:=⟨some d,none,0,.see x⟩
def p_a (d:Nat) (x:PO):PR:=⟨some d,none,0,.act x⟩
def p_c (d u f:Nat) (a:List Opd):PR:=⟨some d,none,u,.call f a⟩
def p_g (d g:Nat) (b:Bool) (x:PO):PR:=⟨some d,some (g,b),0,.see x⟩
def o_i (n:Int):Opd:=.c (.r (.v (.int .i64 n)))
theorem nd (d s:Nat):p_m d s=⟨some d,none,0,.see (.mov (.t s))⟩:=(rfl)
theorem nc (d:Nat) (x:PO):p_s d x=⟨some d,none,0,.see x⟩:=(rfl)
theorem nh (d:Nat) (x:PO):p_a d x=⟨some d,none,0,.act x⟩:=(rfl)
theorem ng (d u f:Nat) (a:List Opd):p_c d u f a=⟨some d,none,u,.call f a⟩:=(rfl)
theorem nf (d g:Nat) (b:Bool) (x:PO):p_g d g b x=⟨some d,some (g,b),0,.see x⟩:=(rfl)
theorem nj (n:Int):o_i n=.c (.r (.v (.int .i64 n))):=(rfl)
attribute [push_cast high] nd nc nh ng nf nj
def b7 (x:Int):Prop:=-9223372036854775808<=x/\x<=9223372036854775807
instance (x:Int):Decidable (b7 x):=inferInstanceAs (Decidable (_/\_))
theorem a5 {x:Int} (h:-9223372036854775808<=x/\x<=9223372036854775807):IntKind.i64.wrap x=x:=by rw [IntKind.wrap_i64]; omega
theorem dv {a b:Bool} (h:a=true↔b=true):AV.r (.v (.bool a))=bl b:=by
 have:a=b:=Bool.eq_iff_iff.2 h;rw [this]
theorem ep:4611686018427387904<=maxLen:=by decide
def by8 (c:UInt8):RV:=.v (.int .u8 c.toNat)
theorem aqu (c:UInt8):RV.good 1 (by8 c)=true:=rfl
theorem ao0 (c:UInt8):RV.cells (by8 c)=[by8 c]:=rfl
theorem atq (c:UInt8):RV.one (by8 c)=true:=rfl
theorem ags {a b:Type} (f:a->b) (l:List a):List.take l.length (List.map f l)=List.map f l:=List.take_of_length_le (by simp)
attribute [push_cast high] aqu ao0 atq ags

end Go.Ev

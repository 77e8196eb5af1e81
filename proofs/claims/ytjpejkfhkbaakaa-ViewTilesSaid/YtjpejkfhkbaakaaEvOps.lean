import Derived.Test.YtjpejkfhkbaakaaEvData
namespace Go.Ev
open Go
set_option linter.unnecessarySimpa false
set_option linter.unusedSimpArgs false
set_option linter.unusedVariables false

inductive Opd where
  | t (n : Nat)
  | c (x : AV)
inductive PO where
  | mov (x : Opd)
  | pick (c a b : Opd)
  | bin (op : BinOp) (x y : Opd)
  | beq (neg : Bool) (x y : Opd)
  | eqn (neg : Bool) (x : Opd)
  | un (op : UnOp) (x : Opd)
  | conv (k : IntKind) (x : Opd)
  | toStr (x : Opd)
  | toBytes (z : RV) (x : Opd)
  | new (zs : List AV)
  | box (x : Opd)
  | build (zs : List AV) (ps : List (Nat × Nat × Opd))
  | mkf (f : Fn) (xs : List Opd) (k : Nat := 0)
  | eqa (neg : Bool) (ks : List Nat) (x y : Opd)
  | bsl (sz : Nat) (z : RV) (ps : List Opd)
  | ld (n : Option Nat) (x : Opd)
  | st (n : Nat) (x y : Opd)
  | nck (x : Opd)
  | fa (off : Nat) (x : Opd)
  | fld (off : Nat) (n : Option Nat) (x : Opd)
  | ia (sz : Nat) (z : RV) (x i : Opd)
  | ixs (x i : Opd)
  | sls (x : Opd) (lo hi : Option Opd)
  | sll (sz : Nat) (x : Opd) (lo hi mx : Option Opd)
  | mks (sz : Nat) (z : RV) (bytes : Nat) (l c : Opd)
  | len (str : Bool) (x : Opd)
  | app (sz : Nat) (z : RV) (bytes : Nat) (x y : Opd)
  | cpy (sz : Nat) (x y : Opd)
  | ext (x : Opd) (i : Nat)
  | mm (mx : Bool) (x : Opd) (ys : List Opd)
  | iaa (n sz : Nat) (x i : Opd)
  | carry (sub : Bool) (x y c : Opd)

structure Rs where
  ok : Prop
  v : AV
  ob : Obs
  rd : List Nat
  wr : List Nat

abbrev Env := Nat → AV
def put (d : Nat) (x : AV) (e : Env) : Env := fun n => if n = d then x else e n
def upd (id : Nat) (x : Nat × Ob) (ob : Obs) : Obs := fun n => if n = id then some x else ob n
def Opd.ev (e : Env) : Opd → AV
  | .t n => e n
  | .c x => x
abbrev bl (b : Bool) : AV := .r (.v (.bool b))
abbrev int (k : IntKind) (n : Int) : AV := .r (.v (.int k n))
abbrev Vs := Prop × AV
def Rs.and (p : Prop) (r : Rs) : Rs := ⟨p ∧ r.ok, r.v, r.ob, r.rd, r.wr⟩
/-- None of what is covered: nothing is claimed where the guard says no. -/
def bad (g : Bool) : Vs := (g = true → False, .undef)
/-- The same, of an object that was looked up. -/
def badI (g : Bool) (id : Nat) (ob : Obs) : Rs := ⟨g = true → False, .undef, ob, [id], []⟩
def AV.bare : AV → AV
  | .gd _ x => x
  | x => x
def AV.may (g : Bool) : AV → Prop
  | .gd b _ => g = true → b = true
  | _ => True
def Vs.q (ob : Obs) (p : Prop) (v : Vs) : Rs := ⟨p ∧ v.1, v.2, ob, [], []⟩
def nv (ob : Obs) (id : Nat) : Nat := match ob id with | some (v, _) => v + 1 | none => 0

def binI (g : Bool) (op : BinOp) (k k' : IntKind) (a b : Int) : Vs :=
  match op with
  | .add => (k = k', int k (k.wrap (a + b)))
  | .sub => (k = k', int k (k.wrap (a - b)))
  | .mul => (k = k', int k (k.wrap (a * b)))
  | .quo => (k = k' ∧ (g = true → ¬ b = 0), int k (k.wrap (a.tdiv b)))
  | .rem => (k = k' ∧ (g = true → ¬ b = 0), int k (a.tmod b))
  | .and => (k = k', int k (k.wrap ((BitVec.ofInt k.bits a &&& BitVec.ofInt k.bits b).toNat)))
  | .or => (k = k', int k (k.wrap ((BitVec.ofInt k.bits a ||| BitVec.ofInt k.bits b).toNat)))
  | .xor => (k = k', int k (k.wrap ((BitVec.ofInt k.bits a ^^^ BitVec.ofInt k.bits b).toNat)))
  | .andNot => (k = k', int k (k.wrap ((BitVec.ofInt k.bits a &&& ~~~ BitVec.ofInt k.bits b).toNat)))
  | .eql => (k = k', bl (a == b))
  | .neq => (k = k', bl (a != b))
  | .lss => (k = k', bl (decide (a < b)))
  | .gtr => (k = k', bl (decide (a > b)))
  | .leq => (k = k', bl (decide (a ≤ b)))
  | .geq => (k = k', bl (decide (a ≥ b)))
  | .shl => ((g = true → 0 ≤ b), int k (k.wrap (a * 2 ^ (min b.toNat k.bits))))
  | .shr => ((g = true → 0 ≤ b), int k (a.fdiv (2 ^ (min b.toNat k.bits))))
abbrev strv (a : ByteArray) : AV := .r (.v (.string a))
def binS (g : Bool) (op : BinOp) (a b : ByteArray) : Vs :=
  match op with
  | .add => ((g = true → a.size + b.size ≤ 9223372036854775807), strv (a ++ b))
  | .eql => (True, bl (a.toList == b.toList))
  | .neq => (True, bl (!(a.toList == b.toList)))
  | .lss => (True, bl (Op.bytesLess a.toList b.toList))
  | .geq => (True, bl (!Op.bytesLess a.toList b.toList))
  | _ => bad g
def bin2 (g : Bool) (op : BinOp) : AV → AV → Vs
  | .r (.v (.int k a)), .r (.v (.int k' b)) => binI g op k k' a b
  | .r (.v (.string a)), .r (.v (.string b)) => binS g op a b
  | _, _ => bad g
def pick3 (g : Bool) : AV → AV → AV → Vs
  | .r (.v (.bool c)), .r (.v (.bool a)), .r (.v (.bool b)) => (True, bl (bif c then a else b))
  | .r (.v (.bool c)), .gd h (.r (.v (.bool a))), .r (.v (.bool b)) => ((g = true → c = true → h = true), bl (bif c then a else b))
  | .r (.v (.bool c)), .r (.v (.bool a)), .gd h (.r (.v (.bool b))) => ((g = true → c = false → h = true), bl (bif c then a else b))
  | .r (.v (.bool c)), .r (.v (.bool a)), .undef => ((g = true → c = true), bl a)
  | .r (.v (.bool c)), .undef, .r (.v (.bool b)) => ((g = true → c = false), bl b)
  | .r (.v (.bool c)), .gd h .undef, .r (.v (.bool b)) => ((g = true → c = false), bl b)
  | .r (.v (.bool c)), .r (.v (.bool a)), .gd h .undef => ((g = true → c = true), bl a)
  | _, _, _ => bad g
def beq2 (g neg : Bool) : AV → AV → Vs
  | .r (.v (.bool a)), .r (.v (.bool b)) => (True, bl (bif neg then !(a == b) else (a == b)))
  | _, _ => bad g
def un1 (g : Bool) (op : UnOp) : AV → Vs
  | .r (.v (.int k n)) => match op with
    | .neg => (True, int k (k.wrap (0 - n)))
    | .xor => (True, int k (k.wrap ((BitVec.ofInt k.bits (if k.signed then -1 else k.max) ^^^ BitVec.ofInt k.bits n).toNat)))
    | _ => bad g
  | .r (.v (.bool b)) => match op with
    | .not => (True, bl !b)
    | _ => bad g
  | _ => bad g
def conv1 (g : Bool) (k : IntKind) : AV → Vs
  | .r (.v (.int _ n)) => (True, int k (k.wrap n))
  | _ => bad g

/-- A live row. -/
def rowAt (ob : Obs) (id ver : Nat) : Option (Nat × RV × Bool × Bool × List RV) :=
  match ob id with
  | some (v, .row sz z app wr xs) => if ver = v then some (sz, z, app, wr, xs) else none
  | _ => none
def boxAt (ob : Obs) (id ver : Nat) : Option (List AV) :=
  match ob id with
  | some (v, .box cells) => if ver = v then some cells else none
  | _ => none
/-- A pointer to what keeps its place. -/
def ptrAt (ob : Obs) (id ver : Nat) : Option Unit :=
  match ob id with
  | some (v, .box _) => if ver = v then some () else none
  | some (v, .abs _) => if ver = v then some () else none
  | _ => none
def len1 (g str : Bool) : AV → Obs → Rs
  | .r (.sl _ xs), ob => Vs.q ob (str = false) (True, int .i64 xs.length)
  | .r (.v (.string s)), ob => Vs.q ob (str = true) (True, int .i64 s.size)
  | .nils _ _, ob => Vs.q ob (str = false) (True, int .i64 0)
  | .own id ver _ n, ob => match rowAt ob id ver with
    | some _ => ⟨str = false, int .i64 n, ob, [id], []⟩
    | none => badI g id ob
  | _, ob => Vs.q ob True (bad g)
def ia2 (g : Bool) (sz : Nat) (z : RV) : AV → AV → Obs → Rs
  | .r (.sl sz' xs), .r (.v (.int _ i)), ob => Vs.q ob (sz' = sz) ((g = true → 0 ≤ i ∧ i < xs.length), .rp (xs.getD i.toNat z).cells)
  | .own id ver lo n, .r (.v (.int _ i)), ob => match rowAt ob id ver with
    | some (sz', _) => ⟨sz' = sz ∧ (g = true → 0 ≤ i ∧ i < n), .oel id ver (lo + i.toNat) 0, ob, [id], []⟩
    | none => badI g id ob
  | _, _, ob => Vs.q ob True (bad g)
def ixs2 (g : Bool) : AV → AV → Vs
  | .r (.v (.string s)), .r (.v (.int _ i)) => ((g = true → 0 ≤ i ∧ i < s.size), int .u8 (s.data.toList.getD i.toNat 0).toNat)
  | _, _ => bad g
def ldb (id : Nat) (ob : Obs) (g : Bool) (n : Option Nat) (off : Nat) : Option (List AV) → Rs
  | some cells => match n with
    | none => ⟨g = true → off < cells.length, cells.getD off .undef, ob, [id], []⟩
    | some n => ⟨g = true → off + n ≤ cells.length, .agg ((cells.drop off).take n), ob, [id], []⟩
  | none => badI g id ob
def ldr (id : Nat) (ob : Obs) (g : Bool) (n : Option Nat) (idx off : Nat) : Option (Nat × RV × Bool × Bool × List RV) → Rs
  | some (sz, z, _, _, xs) => match n with
    | none => ⟨g = true → off < sz, .r ((xs.getD idx z).cells.getD off (.v (.bool false))), ob, [id], []⟩
    | some n => ⟨g = true → off + n ≤ sz, .r (.agg (((xs.getD idx z).cells.drop off).take n)), ob, [id], []⟩
  | none => badI g id ob
def ld1 (g : Bool) (n : Option Nat) : AV → Obs → Rs
  | .ptr id ver off, ob => ldb id ob g n off (boxAt ob id ver)
  | .oel id ver idx off, ob => ldr id ob g n idx off (rowAt ob id ver)
  | .rp ys, ob => match n with
    | none => Vs.q ob True ((g = true → 0 < ys.length), .r (ys.getD 0 (.v (.bool false))))
    | some n => Vs.q ob True ((g = true → n ≤ ys.length), .r (.agg (ys.take n)))
  | _, ob => Vs.q ob True (bad g)
def nck1 (g : Bool) : AV → Obs → Rs
  | .ptr id ver off, ob => match ptrAt ob id ver with
    | some _ => ⟨True, .ptr id ver off, ob, [id], []⟩
    | none => badI g id ob
  | .oel id ver idx off, ob => match rowAt ob id ver with
    | some _ => ⟨True, .oel id ver idx off, ob, [id], []⟩
    | none => badI g id ob
  | .rp ys, ob => Vs.q ob True (True, .rp ys)
  | .fn (.func f) xs k, ob => Vs.q ob True (True, .fn (.func f) xs k)
  | _, ob => Vs.q ob True (bad g)
def eqn1 (g neg : Bool) : AV → Obs → Rs
  | .ptr id ver _, ob => match ptrAt ob id ver with
    | some _ => ⟨True, bl neg, ob, [id], []⟩
    | none => badI g id ob
  | .r (.v (.pointer none)), ob => Vs.q ob True (True, bl !neg)
  | _, ob => Vs.q ob True (bad g)
def fa1 (g : Bool) (off : Nat) : AV → Obs → Rs
  | .ptr id ver o, ob => match boxAt ob id ver with
    | some _ => ⟨True, .ptr id ver (o + off), ob, [id], []⟩
    | none => badI g id ob
  | .oel id ver idx o, ob => match rowAt ob id ver with
    | some (sz, _) => ⟨g = true → o + off ≤ sz, .oel id ver idx (o + off), ob, [id], []⟩
    | none => badI g id ob
  | .rp ys, ob => Vs.q ob True (True, .rp (ys.drop off))
  | _, ob => Vs.q ob True (bad g)
def fld1 (g : Bool) (off : Nat) (n : Option Nat) (x : AV) : Vs :=
  match x with
  | .agg cs => match n with
    | none => ((g = true → off < cs.length), cs.getD off .undef)
    | some n => ((g = true → off + n ≤ cs.length), .agg ((cs.drop off).take n))
  | .r (.agg cs) => match n with
    | none => ((g = true → off < cs.length), .r (cs.getD off (.v (.bool false))))
    | some n => ((g = true → off + n ≤ cs.length), .r (.agg ((cs.drop off).take n)))
  | _ => bad g
def bnd (d : Int) : Option AV → Option Int
  | none => some d
  | some (.r (.v (.int _ i))) => some i
  | _ => none
def sls3 (g : Bool) : AV → Option AV → Option AV → Vs
  | .r (.v (.string s)), lo, hi => match bnd 0 lo, bnd s.size hi with
    | some l, some h => ((g = true → 0 ≤ l ∧ l ≤ h ∧ h ≤ s.size), strv (s.extract l.toNat h.toNat))
    | _, _ => bad g
  | _, _, _ => bad g
def sll4 (g : Bool) (sz : Nat) : AV → Option AV → Option AV → Option AV → Obs → Rs
  | .r (.sl sz' xs), lo, hi, mx, ob => match bnd 0 lo, bnd xs.length hi, bnd xs.length mx with
    | some l, some h, some m => Vs.q ob (sz' = sz) ((g = true → 0 ≤ l ∧ l ≤ h ∧ h ≤ m ∧ m ≤ xs.length), .r (.sl sz ((xs.take h.toNat).drop l.toNat)))
    | _, _, _ => Vs.q ob True (bad g)
  | .own id ver lo0 n, lo, hi, mx, ob => match bnd 0 lo, bnd n hi, bnd n mx with
    | some l, some h, some m => match rowAt ob id ver with
      | some (sz', _) => ⟨sz' = sz ∧ (g = true → 0 ≤ l ∧ l ≤ h ∧ h ≤ m ∧ m ≤ n), .own id ver (lo0 + l.toNat) (h - l).toNat, ob, [id], []⟩
      | none => badI g id ob
    | _, _, _ => Vs.q ob True (bad g)
  | _, _, _, _, ob => Vs.q ob True (bad g)
def ext1 (g : Bool) (i : Nat) : AV → Vs
  | .tup xs => (i < xs.length, xs.getD i .undef)
  | _ => bad g
def splice {α : Type} (l : List α) (i : Nat) (m : List α) : List α := l.take i ++ m ++ l.drop (i + m.length)
def src (ob : Obs) : AV → Option (Nat × List RV × List Nat)
  | .r (.sl sz xs) => some (sz, xs, [])
  | .nils sz _ => some (sz, [], [])
  | .own id ver lo len => match rowAt ob id ver with
    | some (sz, _, _, _, xs) => some (sz, (xs.drop lo).take len, [id])
    | none => none
  | _ => none
/-- The bytes of a row. -/
def byteOf : RV → UInt8
  | .v (.int _ n) => UInt8.ofNat n.toNat
  | _ => 0
def isByte : RV → Bool
  | .v (.int .u8 n) => decide (0 ≤ n ∧ n < 256)
  | _ => false
def AV.one : AV → Bool
  | .r x => x.one
  | .agg _ => false
  | .tup _ => false
  | .gd _ _ => false
  | .undef => false
  | _ => true
def AV.boxable : AV → Bool
  | .agg _ => true
  | .r (.agg _) => true
  | x => x.one
def toStr1 (ob : Obs) : Option (Nat × List RV × List Nat) → Rs
  | some (sz, ys, rd) => ⟨sz = 1 ∧ ys.all isByte = true, strv ⟨(ys.map byteOf).toArray⟩, ob, rd, []⟩
  | none => Vs.q ob False (False, .undef)
def fillA (g : Bool) (e : Env) : List AV → List (Nat × Nat × Opd) → Vs
  | zs, [] => (True, .agg zs)
  | zs, (off, n, x) :: r => ((x.ev e).may g ∧ (g = true → (x.ev e).bare.boxable = true ∧ (x.ev e).bare.cells.length = n ∧ off + n ≤ zs.length) ∧ (fillA g e (splice zs off (x.ev e).bare.cells) r).1, (fillA g e (splice zs off (x.ev e).bare.cells) r).2)
def barel (e : Env) : List Opd → List AV
  | [] => []
  | x :: xs => (x.ev e).bare :: barel e xs
def mayl (g : Bool) (e : Env) : List Opd → Prop
  | [] => True
  | x :: xs => (x.ev e).may g ∧ mayl g e xs
/-- Two scalars of a kind are the same. -/
def eq2 : Nat → AV → AV → Option Bool
  | 0, .r (.v (.int k a)), .r (.v (.int k' b)) => if k = k' then some (a == b) else none
  | 1, .r (.v (.bool a)), .r (.v (.bool b)) => some (a == b)
  | 2, .r (.v (.string a)), .r (.v (.string b)) => some (a.toList == b.toList)
  | _, _, _ => none
def eql : List Nat → List AV → List AV → Option Bool
  | [], [], [] => some true
  | k :: ks, x :: xs, y :: ys => match eq2 k x y, eql ks xs ys with
    | some a, some b => some (a && b)
    | _, _ => none
  | _, _, _ => none
def AV.isA : AV → Bool
  | .agg _ => true
  | .r (.agg _) => true
  | _ => false
def eqa1 (g neg : Bool) : Option Bool → Vs
  | some b => (True, bl (bif neg then !b else b))
  | none => bad g
/-- The least or the greatest of numbers. -/
def mmL (g mx : Bool) : AV → List AV → Vs
  | x, [] => (True, x)
  | .r (.v (.int k a)), .r (.v (.int k' b)) :: ys => mmL g mx (int k (bif mx then max a b else min a b)) ys
  | _, _ => bad g
/-- The place of an array's element. -/
def iaa2 (g : Bool) (n sz : Nat) : AV → AV → Obs → Rs
  | .ptr id ver o, .r (.v (.int _ i)), ob => match boxAt ob id ver with
    | some _ => ⟨g = true → 0 ≤ i ∧ i < n, .ptr id ver (o + i.toNat * sz), ob, [id], []⟩
    | none => badI g id ob
  | .oel id ver idx o, .r (.v (.int _ i)), ob => match rowAt ob id ver with
    | some (sz', _) => ⟨g = true → 0 ≤ i ∧ i < n ∧ o + n * sz ≤ sz', .oel id ver idx (o + i.toNat * sz), ob, [id], []⟩
    | none => badI g id ob
  | .rp ys, .r (.v (.int _ i)), ob => Vs.q ob True ((g = true → 0 ≤ i ∧ i < n), .rp (ys.drop (i.toNat * sz)))
  | _, _, ob => Vs.q ob True (bad g)
/-- A sum or a difference of 64 bits, with what is carried. -/
def carry3 (g sub : Bool) : AV → AV → AV → Vs
  | .r (.v (.int .u64 x)), .r (.v (.int .u64 y)), .r (.v (.int .u64 c)) => ((g = true → 0 ≤ x ∧ 0 ≤ y ∧ 0 ≤ c ∧ c ≤ 1 ∧ x < 18446744073709551616 ∧ y < 18446744073709551616),
      bif sub then .tup [int .u64 ((x + 18446744073709551616 - y - c) % 18446744073709551616), int .u64 (if x < y + c then 1 else 0)]
      else .tup [int .u64 ((x + y + c) % 18446744073709551616), int .u64 ((x + y + c) / 18446744073709551616)])
  | _, _, _ => bad g
/-- The value of an operation in which nothing is written. -/
def PO.see (g : Bool) (e : Env) (ob : Obs) : PO → Rs
  | .mov x => Vs.q ob ((x.ev e).may g) (True, (x.ev e).bare)
  | .pick c a b => Vs.q ob ((c.ev e).may g) (pick3 g (c.ev e).bare (a.ev e) (b.ev e))
  | .bin op x y => Vs.q ob ((x.ev e).may g ∧ (y.ev e).may g) (bin2 g op (x.ev e).bare (y.ev e).bare)
  | .beq neg x y => Vs.q ob ((x.ev e).may g ∧ (y.ev e).may g) (beq2 g neg (x.ev e).bare (y.ev e).bare)
  | .eqn neg x => Rs.and ((x.ev e).may g) (eqn1 g neg (x.ev e).bare ob)
  | .un op x => Vs.q ob ((x.ev e).may g) (un1 g op (x.ev e).bare)
  | .conv k x => Vs.q ob ((x.ev e).may g) (conv1 g k (x.ev e).bare)
  | .len str x => Rs.and ((x.ev e).may g) (len1 g str (x.ev e).bare ob)
  | .ia sz z x i => Rs.and ((x.ev e).may g ∧ (i.ev e).may g) (ia2 g sz z (x.ev e).bare (i.ev e).bare ob)
  | .ixs x i => Vs.q ob ((x.ev e).may g ∧ (i.ev e).may g) (ixs2 g (x.ev e).bare (i.ev e).bare)
  | .ld n x => Rs.and ((x.ev e).may g) (ld1 g n (x.ev e).bare ob)
  | .nck x => Rs.and ((x.ev e).may g) (nck1 g (x.ev e).bare ob)
  | .fa off x => Rs.and ((x.ev e).may g) (fa1 g off (x.ev e).bare ob)
  | .fld off n x => Vs.q ob ((x.ev e).may g) (fld1 g off n (x.ev e).bare)
  | .sls x lo hi => Vs.q ob ((x.ev e).may g ∧ mayO g e lo ∧ mayO g e hi) (sls3 g (x.ev e).bare (bareO e lo) (bareO e hi))
  | .sll sz x lo hi mx => Rs.and ((x.ev e).may g ∧ mayO g e lo ∧ mayO g e hi ∧ mayO g e mx) (sll4 g sz (x.ev e).bare (bareO e lo) (bareO e hi) (bareO e mx) ob)
  | .ext x i => Vs.q ob ((x.ev e).may g) (ext1 g i (x.ev e).bare)
  | .toStr x => Rs.and ((x.ev e).may g) (toStr1 ob (src ob (x.ev e).bare))
  | .build zs ps => Vs.q ob True (fillA g e zs ps)
  | .mkf f xs k => Vs.q ob (mayl g e xs) (True, .fn f (barel e xs) k)
  | .eqa neg ks x y => Vs.q ob ((x.ev e).may g ∧ (y.ev e).may g ∧ (g = true → (x.ev e).bare.isA = true ∧ (y.ev e).bare.isA = true)) (eqa1 g neg (eql ks (x.ev e).bare.cells (y.ev e).bare.cells))
  | .mm mx x ys => Vs.q ob ((x.ev e).may g ∧ mayl g e ys) (mmL g mx (x.ev e).bare (barel e ys))
  | .iaa n sz x i => Rs.and ((x.ev e).may g ∧ (i.ev e).may g) (iaa2 g n sz (x.ev e).bare (i.ev e).bare ob)
  | .carry sub x y c => Vs.q ob ((x.ev e).may g ∧ (y.ev e).may g ∧ (c.ev e).may g) (carry3 g sub (x.ev e).bare (y.ev e).bare (c.ev e).bare)
  | _ => Vs.q ob False (False, .undef)
where
  mayO (g : Bool) (e : Env) : Option Opd → Prop
    | none => True
    | some x => (x.ev e).may g
  bareO (e : Env) : Option Opd → Option AV
    | none => none
    | some x => some (x.ev e).bare

/-- The cells of a value, as values of no memory of the activation's own; the rows that are given away. -/
def AV.rv (ob : Obs) : AV → Option (RV × List Nat)
  | .r x => some (x, [])
  | .nils sz _ => some (.sl sz [], [])
  | .own id ver lo len => match rowAt ob id ver with
    | some (sz, _, _, _, xs) => some (.sl sz ((xs.drop lo).take len), [id])
    | none => none
  | _ => none
def rvs (ob : Obs) : List AV → Option (List RV × List Nat)
  | [] => some ([], [])
  | x :: xs => match x.rv ob, rvs ob xs with
    | some (y, i), some (ys, j) => some (y :: ys, i ++ j)
    | _, _ => none
/-- A struct's or a scalar's value. -/
def AV.elt (ob : Obs) : AV → Option (RV × List Nat)
  | .agg xs => match rvs ob xs with
    | some (ys, i) => some (.agg ys, i)
    | none => none
  | x => x.rv ob
/-- A row that is given away is written no more. -/
def frz (ob : Obs) (i : Nat) : Option (Nat × Ob) → Obs
  | some (v, .row sz z app _ xs) => upd i (v, .row sz z app false xs) ob
  | _ => ob
def freeze (ob : Obs) : List Nat → Obs
  | [] => ob
  | i :: is => freeze (frz ob i (ob i)) is
def badR (ob : Obs) : Rs := ⟨False, .undef, ob, [], []⟩
/-- A new object in slot d. -/
def newOb (ob : Obs) (d : Nat) (x : Ob) (y : Nat → AV) (ok : Prop) (rd wr : List Nat) : Rs := ⟨ok, y (nv ob d), upd d (nv ob d, x) ob, d :: rd, d :: wr⟩
def RV.good (sz : Nat) (x : RV) : Bool := x.cells.length == sz && x.cells.all (·.one)
def stb (id : Nat) (ver : Nat) (ob : Obs) (n off : Nat) (y : List AV) : Option (List AV) → Rs
  | some cells => ⟨y.length = n ∧ off + n ≤ cells.length ∧ y.all (·.one) = true, .undef, upd id (ver, .box (splice cells off y)) ob, [id], [id]⟩
  | none => badR ob
def str (id : Nat) (ver : Nat) (ob : Obs) (n idx off : Nat) (y : List RV) : Option (Nat × RV × Bool × Bool × List RV) → Rs
  | some (sz, z, app, wr, xs) =>
    ⟨y.length = n ∧ off + n ≤ sz ∧ wr = true ∧ y.all (·.one) = true, .undef,
      upd id (ver, .row sz z app wr (xs.set idx (match xs.getD idx z with | .agg cs => .agg (splice cs off y) | x => y.getD 0 x))) ob, [id], [id]⟩
  | none => badR ob
def st2 (n : Nat) (x y : AV) (ob : Obs) : Rs := match x with
  | .ptr id ver off => Rs.and (y.boxable = true) (stb id ver ob n off y.cells (boxAt ob id ver))
  | .oel id ver idx off => match rvs ob y.cells with
    | some (ys, []) => Rs.and (y.boxable = true) (str id ver ob n idx off ys (rowAt ob id ver))
    | _ => badR ob
  | _ => badR ob
def app3 (d : Nat) (ob : Obs) (sz : Nat) (z : RV) (bytes : Nat) : AV → Option (Nat × List RV × List Nat) → Rs
  | .nils sz' _, some (sy, ys, rd) => newOb ob d (.row sz z true true ys) (fun v => .own d v 0 ys.length) (sz' = sz ∧ sy = sz ∧ ys.length * bytes ≤ 140737488355328 ∧ ys.length ≤ maxLen) rd []
  | .own id ver 0 len, some (sy, ys, rd) => match rowAt ob id ver with
    | some (sz', z', app, wr, xs) => ⟨sz' = sz ∧ sy = sz ∧ app = true ∧ wr = true ∧ (len + ys.length) * bytes ≤ 140737488355328 ∧ len + ys.length ≤ maxLen,
        .own id (ver + 1) 0 (len + ys.length), upd id (ver + 1, .row sz z' app wr (xs.take len ++ ys)) ob, id :: rd, [id]⟩
    | none => badR ob
  | _, _ => badR ob
/-- A row behind a copy: simp leaves it standing. -/
def spl {α : Type} (l : List α) (i : Nat) (m : List α) : List α := splice l i m
def cpy3 (ob : Obs) (sz : Nat) : AV → Option (Nat × List RV × List Nat) → Rs
  | .own id ver lo n, some (sy, ys, rd) => match rowAt ob id ver with
    | some (sz', z', app, wr, xs) => ⟨sz' = sz ∧ sy = sz ∧ wr = true, int .i64 ((Nat.min ys.length n : Nat) : Int), upd id (ver, .row sz z' app wr (spl xs lo (ys.take n))) ob, id :: rd, [id]⟩
    | none => badR ob
  | _, _ => badR ob
def eltsOf (e : Env) (ob : Obs) (g : Bool) : List Opd → Option (Prop × List RV × List Nat)
  | [] => some (True, [], [])
  | x :: xs => match (x.ev e).bare.elt ob, eltsOf e ob g xs with
    | some (y, i), some (p, ys, j) => some ((x.ev e).may g ∧ p, y :: ys, i ++ j)
    | _, _ => none
def zerosAt (l : Int) (z : RV) : List RV := List.replicate l.toNat z
def toBytes1 (d : Nat) (z : RV) (ob : Obs) : AV → Rs
  | .r (.v (.string s)) => newOb ob d (.row 1 z false true (s.data.toList.map fun b => .v (.int .u8 b.toNat))) (fun v => .own d v 0 s.size) (s.size ≤ maxLen) [] []
  | _ => badR ob
def mks2 (d : Nat) (sz : Nat) (z : RV) (bytes : Nat) (ob : Obs) : AV → AV → Rs
  | .r (.v (.int _ l)), .r (.v (.int _ c)) => newOb ob d (.row sz z true true (zerosAt l z)) (fun v => .own d v 0 l.toNat) (0 ≤ l ∧ l ≤ c ∧ c ≤ maxLen ∧ c * bytes ≤ 281474976710656) [] []
  | _, _ => badR ob
/-- What an operation does in which objects are written; d is the slot that it writes. -/
def PO.act (d : Nat) (e : Env) (ob : Obs) : PO → Rs
  | .new zs => newOb ob d (.box zs) (fun v => .ptr d v 0) True [] []
  | .box x => newOb ob d (.box (x.ev e).bare.cells) (fun v => .ptr d v 0) ((x.ev e).may true ∧ (x.ev e).bare.boxable = true) [] []
  | .bsl sz z ps => match eltsOf e ob true ps with
    | some (p, ys, fz) => newOb (freeze ob fz) d (.row sz z true true ys) (fun v => .own d v 0 ys.length) (p ∧ ys.all (·.good sz) = true ∧ d ∉ fz) fz fz
    | none => badR ob
  | .st n x y => Rs.and ((x.ev e).may true ∧ (y.ev e).may true) (st2 n (x.ev e).bare (y.ev e).bare ob)
  | .cpy sz x y => Rs.and ((x.ev e).may true ∧ (y.ev e).may true) (cpy3 ob sz (x.ev e).bare (src ob (y.ev e).bare))
  | .app sz z bytes x y => Rs.and ((x.ev e).may true ∧ (y.ev e).may true) (app3 d ob sz z bytes (x.ev e).bare (src ob (y.ev e).bare))
  | .toBytes z x => Rs.and ((x.ev e).may true) (toBytes1 d z ob (x.ev e).bare)
  | .mks sz z bytes l c => Rs.and ((l.ev e).may true ∧ (c.ev e).may true) (mks2 d sz z bytes ob (l.ev e).bare (c.ev e).bare)
  | _ => badR ob
end Go.Ev

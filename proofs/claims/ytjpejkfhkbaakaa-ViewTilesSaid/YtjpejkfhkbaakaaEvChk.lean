import Derived.Test.YtjpejkfhkbaakaaEvOps
namespace Go.Ev
open Go
set_option linter.unnecessarySimpa false
set_option linter.unusedSimpArgs false
set_option linter.unusedVariables false

/-- Two scalars are the same. -/
def eqv : Value → Value → Bool
  | .int k a, .int k' b => k == k' && a == b
  | .bool a, .bool b => a == b
  | .string a, .string b => a.data.toList == b.data.toList
  | .pointer none, .pointer none => true
  | .nilFunc, .nilFunc => true
  | .nilIface, .nilIface => true
  | _, _ => false
theorem eqv_eq {a b : Value} (h : eqv a b = true) : a = b := by
  unfold eqv at h
  split at h
  · rw [Bool.and_eq_true, beq_iff_eq, beq_iff_eq] at h
    rw [h.1, h.2]
  · rw [beq_iff_eq] at h
    rw [h]
  · rename_i a b
    rw [beq_iff_eq] at h
    obtain ⟨⟨a⟩⟩ := a
    obtain ⟨⟨b⟩⟩ := b
    simp only at h
    rw [h]
  · rfl
  · rfl
  · rfl
  · cases h
/-- A value of no memory. -/
def eqz : Value → AV → Bool
  | .slice none 0 0, .nils _ _ => true
  | v, .r (.v x) => eqv v x
  | _, _ => false
def opd : Operand → Opd → Bool
  | .tmp t, .t n => t == n
  | .const v, .c x => eqz v x
  | .func f, .c (.fn (.func f') [] 0) => f == f'
  | _, _ => false
section
variable {w : World} {R : Nat → Prop} {ob : Obs} {ρ : Pl → Option Nat}
theorem eqz_rel {v : Value} {x : AV} (h : eqz v x = true) : RelA w R ob ρ x v := by
  unfold eqz at h
  split at h
  · exact .nils _ _
  · rw [eqv_eq h]; exact .r (.v _)
  · cases h
theorem opd_rel {a : Act} {e : Env} (henv : ∀ t, RelA w R ob ρ (e t) (a.tmps.getD t undef)) {x : Operand} {y : Opd} (h : opd x y = true) : RelA w R ob ρ (y.ev e) (a.eval x) := by
  unfold opd at h
  split at h
  · simp at h; subst h; exact henv _
  · exact eqz_rel h
  · simp at h; subst h; exact .fn _ [] 0 #[] #[] rfl rfl (by simp)
  · cases h
theorem RelA.bare {g : Bool} (hg : g = true) {x : AV} {c : Value} (h : RelA w R ob ρ x c) (hm : x.may g) : RelA w R ob ρ x.bare c := by
  cases h <;> first | (simp only [AV.bare]; constructor <;> assumption) | skip
  · simp only [AV.bare, AV.may] at *
    rename_i h hf
    exact h (hm hg)
end

def opdO : Option Operand → Option Opd → Bool
  | none, none => true
  | some x, some y => opd x y
  | _, _ => false
def isSlice (P : Program) (t : TypeId) (f : TypeId → TypeInfo → Bool) : Bool :=
  match P.underlying t with
  | some (.slice e) => match P.info? e with
    | some i => f e i
    | none => false
  | _ => false
def isDesc (P : Program) (t : TypeId) (f : TypeDesc → Bool) : Bool :=
  match P.underlying t with
  | some d => f d
  | none => false
def aggN (P : Program) (t : TypeId) (n : Option Nat) : Bool :=
  match P.underlying t, P.info? t with
  | some (.struct _), some i => n == some i.size
  | some (.array _ _), some i => n == some i.size
  | some _, some _ => n == none
  | _, _ => false
def fieldOk (P : Program) (t : TypeId) (f : Nat) (k : Go.Field → TypeInfo → Bool) : Bool :=
  match P.underlying t with
  | some (.struct fs) => match fs[f]? with
    | some fd => match P.info? fd.type with
      | some i => k fd i
      | none => false
    | none => false
  | _ => false
/-- A value of no memory, of a row's element. -/
def eqr : Value → RV → Bool
  | .slice none 0 0, .sl _ [] => true
  | v, .v x => eqv v x
  | _, _ => false
def all2 {α β : Type} (f : α → β → Bool) : List α → List β → Bool
  | [], [] => true
  | x :: xs, y :: ys => f x y && all2 f xs ys
  | _, _ => false
def placeOk (P : Program) (t : TypeId) (p : Nat × Operand) (q : Nat × Nat × Opd) : Bool :=
  opd p.2 q.2.2 && (match P.underlying t with
  | some (.struct fs) => match fs[p.1]? with
    | some f => match P.info? f.type with
      | some i => f.offset == q.1 && i.size == q.2.1
      | none => false
    | none => false
  | some (.array _ e) => match P.info? e with
    | some i => p.1 * i.size == q.1 && i.size == q.2.1
    | none => false
  | _ => false)
def lenOk (str : Bool) : TypeDesc → Bool
  | .string => str
  | .slice _ => !str
  | _ => false
def buildOk (P : Program) : TypeDesc → Bool
  | .struct fs => fs.all fun f => (P.info? f.type).isSome
  | .array _ e => (P.info? e).isSome
  | _ => false
/-- Kinds of scalars: 0 a number, 1 a truth, 2 a text. -/
def kindIs : Nat → TypeDesc → Bool
  | 0, .int _ => true
  | 1, .bool => true
  | 2, .string => true
  | _, _ => false
def flatF (P : Program) : List Go.Field → List Nat → Nat → Bool
  | [], [], _ => true
  | f :: fs, k :: ks, i => f.name != "_" && f.offset == i && isDesc P f.type (kindIs k) && flatF P fs ks (i + 1)
  | _, _, _ => false
/-- A struct of scalars of these kinds. -/
def eqTy (P : Program) (t : TypeId) (ks : List Nat) : Bool :=
  (match P.underlying t with
  | some (.struct fs) => flatF P fs.toList ks 0
  | _ => false) && !P.stoodInHeld t && !P.eqGuardType P.depth t
/-- The function is the sum or the difference with what is carried, for which the model stands in. -/
def isCarry (P : Program) (sub : Bool) (f : FuncId) : Bool := match P.funcs[f]? with
  | some fn => fn.body.isNone && (fn.name == if sub then "math/bits.Sub64" else "math/bits.Add64") && (fn.origin == "" || fn.origin == fn.name)
  | none => false
/-- A quiet operation is the one that is said. -/
def chkSee (P : Program) (o : Oper) (po : PO) : Bool :=
  match o.op, po with
  | .move x, .mov y => opd x y
  | .assign x, .mov y => opd x y
  | .pick c a b, .pick c' a' b' => opd c c' && opd a a' && opd b b'
  | .binOp op t x y _, .bin op' x' y' => op == op' && opd x x' && opd y y'
  | .binOp op t x y _, .beq neg x' y' => (if neg then op == .neq else op == .eql) && isDesc P t (fun d => match d with | .bool => true | _ => false) && opd x x' && opd y y'
  | .unOp op _ x, .un op' x' => op == op' && opd x x'
  | .convert a d x, .conv k x' => isDesc P a (fun _ => true) && isDesc P d (fun u => match u with | .int k' => k == k' | _ => false) && opd x x'
  | .call c, .len str x' => match c.callee with
    | .builtin .len => match c.args.toList, c.argTypes.toList with
      | [x], [t] => opd x x' && isDesc P t (lenOk str)
      | _, _ => false
    | _ => false
  | .indexAddr t x i, .ia sz _ x' i' => isSlice P t (fun _ inf => inf.size == sz) && opd x x' && opd i i'
  | .index t x i, .ixs x' i' => isDesc P t (fun d => match d with | .string => true | _ => false) && opd x x' && opd i i'
  | .load t x, .ld n x' => aggN P t n && opd x x'
  | .nilCheck x, .nck x' => opd x x'
  | .fieldAddr t x f, .fa off x' => fieldOk P t f (fun fd i => fd.offset == off && i.size != 0) && opd x x'
  | .field t x f, .fld off n x' => fieldOk P t f (fun fd i => fd.offset == off && aggN P fd.type n) && opd x x'
  | .slice t x lo hi mx, .sls x' lo' hi' => isDesc P t (fun d => match d with | .string => true | _ => false) && mx.isNone && opd x x' && opdO lo lo' && opdO hi hi'
  | .slice t x lo hi mx, .sll sz x' lo' hi' mx' => isSlice P t (fun _ inf => inf.size == sz) && opd x x' && opdO lo lo' && opdO hi hi' && opdO mx mx' && (mx.isNone || hi.isSome)
  | .extract x i, .ext x' i' => i == i' && opd x x'
  | .convert a d x, .toStr x' => isSlice P a (fun e _ => isDesc P e (fun d => match d with | .int .u8 => true | _ => false)) && isDesc P d (fun d => match d with | .string => true | _ => false) && opd x x'
  | .build t ps, .build zs qs => (match P.info? t with | some i => (match i.zero with | some z => all2 eqz z.cells.toList zs | none => false) | none => false) && isDesc P t (buildOk P) && all2 (placeOk P t) ps.toList qs
  | .makeFunc f first cap, .mkf f' xs k => f == f' && first.size == k && all2 opd (first ++ cap).toList xs
  | .call c, .mm mx x' ys' => (match c.callee with
    | .builtin .min => !mx
    | .builtin .max => mx
    | _ => false) && (match c.args.toList with
    | x :: ys => opd x x' && all2 opd ys ys'
    | _ => false)
  | .indexAddr t x i, .iaa n sz x' i' => (match P.underlying t with
    | some (.array n' e) => n == n' && (match P.info? e with
      | some inf => inf.size == sz
      | none => false)
    | _ => false) && opd x x' && opd i i'
  | .call c, .carry sub x' y' z' => (match c.callee with
    | .value (.func f) => isCarry P sub f
    | _ => false) && (match c.args.toList with
    | [x, y, z] => opd x x' && opd y y' && opd z z'
    | _ => false)
  | .binOp op t x y _, .eqa neg ks x' y' => (if neg then op == .neq else op == .eql) && eqTy P t ks && opd x x' && opd y y'
  | .binOp op t x y _, .eqn neg x' => (match y with | .const (.pointer none) => true | _ => false) && (if neg then op == .neq else op == .eql) && isDesc P t (fun d => match d with | .pointer _ => true | _ => false) && opd x x'
  | _, _ => false

/-- An operation in which objects are written is the one that is said. -/
def chkAct (P : Program) (o : Oper) (po : PO) : Bool :=
  match o.op, po with
  | .alloc e, .new zs => match P.info? e with
    | some i => match i.zero with
      | some z => all2 eqz z.cells.toList zs
      | none => false
    | none => false
  | .box _ x, .box x' => opd x x'
  | .buildSlice t n ps, .bsl sz _ ps' => isSlice P t (fun _ i => i.size == sz && i.zero.isSome) && n == ps'.length && all2 (fun p q => opd p.2 q) ps.toList ps' && ps.toList.map (·.1) == List.range n && n * sz ≤ 16777216 && n ≤ 16777216
  | .store t x y, .st n x' y' => (match P.info? t with | some i => i.size == n | none => false) && opd x x' && opd y y'
  | .call c, .app sz _ bytes x' y' => match c.callee with
    | .builtin .append => match c.args.toList, c.argTypes.toList with
      | [x, y], [t, u] => isSlice P t (fun _ i => i.size == sz && i.bytes == bytes && (match i.zero with | some z => z.cells.size == sz | none => false) && sz != 0) && isSlice P u (fun _ _ => true) && opd x x' && opd y y'
      | _, _ => false
    | _ => false
  | .call c, .cpy sz x' y' => match c.callee with
    | .builtin .copy => match c.args.toList, c.argTypes.toList with
      | [x, y], [t, u] => isSlice P t (fun _ i => i.size == sz) && isSlice P u (fun _ _ => true) && opd x x' && opd y y'
      | _, _ => false
    | _ => false
  | .convert a d x, .toBytes _ x' => isDesc P a (fun d => match d with | .string => true | _ => false) && isSlice P d (fun e i => i.size == 1 && isDesc P e (fun d => match d with | .int .u8 => true | _ => false)) && opd x x'
  | .makeSlice t l c, .mks sz z bytes l' c' => isSlice P t (fun _ i => i.size == sz && i.bytes == bytes && sz != 0 && (match i.zero with | some v => all2 eqr v.cells.toList z.cells && v.cells.size == sz | none => false)) && opd l l' && opd c c'
  | _, _ => false
end Go.Ev

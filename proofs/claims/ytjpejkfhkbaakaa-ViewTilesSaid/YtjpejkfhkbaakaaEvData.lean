import Derived.WalkKit
namespace Go.Ev
open Go
set_option linter.unnecessarySimpa false
set_option linter.unusedSimpArgs false
set_option linter.unusedVariables false

inductive RV where
  | v (x : Value)
  | agg (xs : List RV)
  | sl (sz : Nat) (xs : List RV)
inductive AV where
  | r (x : RV)
  | agg (xs : List AV)
  | tup (xs : List AV)
  | nils (sz : Nat) (z : RV)
  | own (id ver lo len : Nat)
  | ptr (id ver off : Nat)
  | oel (id ver idx off : Nat)
  | rp (ys : List RV)
  | fn (f : Fn) (cap : List AV) (k : Nat := 0)
  | gd (b : Bool) (x : AV)
  | undef
instance : Inhabited RV := ⟨.v (.bool false)⟩
instance : Inhabited AV := ⟨.undef⟩
/-- A place: of an object, or of the j-th block within it. -/
inductive Pl where
  | o (id : Nat)
  | s (id j : Nat)
deriving DecidableEq
instance : Coe Nat Pl := ⟨Pl.o⟩
def RV.cells : RV → List RV
  | .agg xs => xs
  | x => [x]
def AV.cells : AV → List AV
  | .agg xs => xs
  | .r (.agg xs) => xs.map .r
  | x => [x]
def RV.one : RV → Bool
  | .v x => x.oneCell'
  | .agg _ => false
  | .sl _ _ => true

section
variable (w : World) (R : Nat → Prop)
inductive RelV : RV → Value → Prop where
  | v (x : Value) : RelV (.v x) x
  | agg (xs : List RV) (cs : Array Value) (hl : cs.size = xs.length) (h : ∀ (i : Nat) (x : RV) (c : Value), xs[i]? = some x → cs[i]? = some c → RelV x c) : RelV (.agg xs) (.agg cs)
  | sl (sz : Nat) (xs : List RV) (A : Option Addr) (cap : Nat) (hc : xs.length ≤ cap) (hm : cap ≤ maxLen) (b o : Nat) (g : Nat → Nat → Value)
      (hA : 0 < xs.length → A = some ⟨b, o, none⟩ ∧ R b)
      (hz : ∀ (i : Nat) (x : RV), xs[i]? = some x → x.cells.length = sz)
      (hg : ∀ (i : Nat) (x : RV) (j : Nat) (y : RV), xs[i]? = some x → x.cells[j]? = some y → w.cell? ⟨b, o + i * sz + j, none⟩ = some (g i j) ∧ (g i j).oneCell' = true)
      (hr : ∀ (i : Nat) (x : RV) (j : Nat) (y : RV), xs[i]? = some x → x.cells[j]? = some y → RelV y (g i j)) : RelV (.sl sz xs) (.slice A xs.length cap)
end

theorem RelV.mono {w w' : World} {R R' : Nat → Prop} {x : RV} {c : Value} (h : RelV w R x c) (hw : ∀ b, R b → R' b ∧ w'.heap[b]? = w.heap[b]?) : RelV w' R' x c := by
  induction h with
  | v x => exact .v x
  | agg xs cs hl _ ih => exact .agg xs cs hl ih
  | sl sz xs A cap hc hm b o g hA hz hg hr ih =>
    refine .sl sz xs A cap hc hm b o g (fun h0 => ⟨(hA h0).1, (hw b (hA h0).2).1⟩) hz (fun i x j y hi hj => ?_) ih
    have h0 : 0 < xs.length := by
      have := (List.getElem?_eq_some_iff.1 hi).1
      omega
    obtain ⟨h1, h2⟩ := hg i x j y hi hj
    refine ⟨?_, h2⟩
    rw [← h1]
    simp only [World.cell?]
    rw [(hw b (hA h0).2).2]

/-- What a thing of many blocks is: Q: what lies in the world at its root and its inner blocks. -/
structure AbsT where
  size : Nat
  Q : World → Nat → (Nat → Option Nat) → Prop
  loc : ∀ {w w' : World} {b : Nat} {φ : Nat → Option Nat}, Q w b φ → w'.heap[b]? = w.heap[b]? → (∀ j c, φ j = some c → w'.heap[c]? = w.heap[c]?) → Q w' b φ
  root : ∀ {w : World} {b : Nat} {φ : Nat → Option Nat}, Q w b φ → ∃ cs e, w.heap[b]? = some (.cells cs e (0, 0)) ∧ cs.size = size
  lt : ∀ {w : World} {b : Nat} {φ : Nat → Option Nat}, Q w b φ → ∀ j c, φ j = some c → c < w.heap.size
  view : List RV
  rp : ∀ {w : World} {b : Nat} {φ : Nat → Option Nat} (R : Nat → Prop), Q w b φ → R b → (∀ j c, φ j = some c → R c) →
    ∃ g : Nat → Value, ∀ (j : Nat) (y : RV), view[j]? = some y → w.cell? ⟨b, 0 + j, none⟩ = some (g j) ∧ (g j).oneCell' = true ∧ RelV w R y (g j)
inductive Ob where
  | box (cells : List AV)
  | row (sz : Nat) (z : RV) (app wr : Bool) (xs : List RV)
  | abs (T : AbsT)
def Ob.own : Ob → Bool
  | .box _ => true
  | .row _ _ _ wr _ => wr
  | .abs _ => true
/-- What keeps its root block. -/
def Ob.pinned : Ob → Bool
  | .row _ _ _ _ _ => false
  | _ => true
def Ob.isAbs : Ob → Bool
  | .abs _ => true
  | _ => false
/-- The blocks of an object. -/
def foot (ρ : Pl → Option Nat) (id : Nat) (o : Ob) (b : Nat) : Prop := ρ id = some b ∨ (o.isAbs = true ∧ ∃ j, ρ (.s id j) = some b)
theorem foot_na {ρ : Pl → Option Nat} {id : Nat} {o : Ob} {b : Nat} (h : o.isAbs = false) : foot ρ id o b ↔ ρ id = some b := by simp [foot, h]
theorem foot_congr {ρ ρ' : Pl → Option Nat} {id id' : Nat} {o o' : Ob} {b : Nat} (h1 : ρ' id' = ρ id) (h2 : ∀ j, ρ' (.s id' j) = ρ (.s id j)) (h3 : o'.isAbs = o.isAbs) : foot ρ' id' o' b ↔ foot ρ id o b := by simp only [foot, h1, h2, h3]
/-- The places of one are those of the other. -/
def SameP (ρ ρ' : Pl → Option Nat) (i i' : Nat) : Prop := ρ' (.o i') = ρ (.o i) ∧ ∀ j, ρ' (.s i' j) = ρ (.s i j)
theorem SameP.foot {ρ ρ' : Pl → Option Nat} {i i' : Nat} (h : SameP ρ ρ' i i') {o o' : Ob} {b : Nat} (h3 : o'.isAbs = o.isAbs) : foot ρ' i' o' b ↔ foot ρ i o b := foot_congr h.1 h.2 h3
def seti (ρ : Pl → Option Nat) (id : Nat) (b : Option Nat) : Pl → Option Nat := fun i => if i = id then b else ρ i
theorem foot_seti {ρ : Pl → Option Nat} {id j : Nat} {o : Ob} {x : Option Nat} {b : Nat} (h : j ≠ id) : foot (seti ρ id x) j o b ↔ foot ρ j o b := foot_congr (by simp [seti, h]) (by simp [seti]) rfl
abbrev Obs := Nat → Option (Nat × Ob)

/-- The slice value of a handle onto a row. -/
def OwnRel (w : World) (ρ : Pl → Option Nat) (id : Nat) (lo len : Nat) (c : Value) : Ob → Prop
  | .box _ => False
  | .abs _ => False
  | .row sz _ _ _ xs => ∃ A cap, c = .slice A len cap ∧ len ≤ cap ∧ cap ≤ maxLen ∧ lo + len ≤ xs.length ∧
      (0 < cap → ∃ b cs e fr, ρ id = some b ∧ A = some ⟨b, lo * sz, none⟩ ∧ w.heap[b]? = some (.cells cs e fr) ∧ (lo + cap) * sz ≤ cs.size)
def OelRel (ρ : Pl → Option Nat) (id idx off : Nat) (c : Value) : Ob → Prop
  | .box _ => False
  | .abs _ => False
  | .row sz _ _ _ xs => idx < xs.length ∧ off ≤ sz ∧ ∃ b, ρ id = some b ∧ c = .pointer (some ⟨b, idx * sz + off, none⟩)


/-- A handle of version ver onto object id: the object is there; if it is still of that version, X holds of it. -/
def At (ob : Obs) (id ver : Nat) (X : Ob → Prop) : Prop := ∃ v o, ob id = some (v, o) ∧ ver ≤ v ∧ (ver = v → X o)
section
variable (w : World) (R : Nat → Prop) (ob : Obs) (ρ : Pl → Option Nat)
inductive RelA : AV → Value → Prop where
  | r {x : RV} {c : Value} (h : RelV w R x c) : RelA (.r x) c
  | agg (xs : List AV) (cs : Array Value) (hl : cs.size = xs.length) (h : ∀ (i : Nat) (x : AV) (c : Value), xs[i]? = some x → cs[i]? = some c → RelA x c) : RelA (.agg xs) (.agg cs)
  | tup (xs : List AV) (cs : Array Value) (hl : cs.size = xs.length) (h : ∀ (i : Nat) (x : AV) (c : Value), xs[i]? = some x → cs[i]? = some c → RelA x c) : RelA (.tup xs) (.tuple cs)
  | nils (sz : Nat) (z : RV) : RelA (.nils sz z) (.slice none 0 0)
  | own (id ver lo len : Nat) (c : Value) (hc : c.oneCell' = true) (h : At ob id ver (OwnRel w ρ id lo len c)) : RelA (.own id ver lo len) c
  | ptr (id ver off : Nat) (c : Value) (hc : c.oneCell' = true) (h : At ob id ver fun _ => ∃ b, ρ id = some b ∧ c = .pointer (some ⟨b, off, none⟩)) : RelA (.ptr id ver off) c
  | oel (id ver idx off : Nat) (c : Value) (hc : c.oneCell' = true) (h : At ob id ver (OelRel ρ id idx off c)) : RelA (.oel id ver idx off) c
  | rp (ys : List RV) (b o : Nat) (g : Nat → Value) (hR : R b) (hg : ∀ (j : Nat) (y : RV), ys[j]? = some y → w.cell? ⟨b, o + j, none⟩ = some (g j) ∧ (g j).oneCell' = true ∧ RelV w R y (g j)) :
      RelA (.rp ys) (.pointer (some ⟨b, o, none⟩))
  | fn (f : Fn) (xs : List AV) (k : Nat) (fs cs : Array Value) (hk : fs.size = k) (hl : fs.size + cs.size = xs.length) (h : ∀ (i : Nat) (x : AV) (c : Value), xs[i]? = some x → (fs ++ cs)[i]? = some c → RelA x c) : RelA (.fn f xs k) (.func f fs cs)
  | gd (b : Bool) {x : AV} {c : Value} (h : b = true → RelA x c) (hf : b = false → c = undef) : RelA (.gd b x) c
  | undef (c : Value) : RelA .undef c
end

/-- Of one version an object keeps its kind, and a row its size, and is no shorter. -/
def Keep : Ob → Ob → Prop
  | .box _, .box _ => True
  | .abs T, .abs T' => T'.size = T.size
  | .row sz _ _ _ xs, .row sz' _ _ _ xs' => sz' = sz ∧ xs.length ≤ xs'.length
  | _, _ => False
theorem Keep.refl (o : Ob) : Keep o o := by cases o <;> simp [Keep]
/-- What a step may do to the world, seen from the values that stand. -/
structure Stays (w w' : World) (R R' : Nat → Prop) (ob ob' : Obs) (ρ ρ' : Pl → Option Nat) : Prop where
  free : ∀ b, R b → R' b ∧ w'.heap[b]? = w.heap[b]?
  obj : ∀ id v o, ob id = some (v, o) → ∃ v' o', ob' id = some (v', o') ∧ v ≤ v' ∧ (v = v' → ρ' id = ρ id ∧ Keep o o' ∧
      (∀ b cs e fr, ρ id = some b → w.heap[b]? = some (.cells cs e fr) → ∃ cs' e' fr', w'.heap[b]? = some (.cells cs' e' fr') ∧ cs'.size = cs.size))

section
variable {w w' : World} {R R' : Nat → Prop} {ob ob' : Obs} {ρ ρ' : Pl → Option Nat}
theorem Stays.at_ (h : Stays w w' R R' ob ob' ρ ρ') {id ver : Nat} {X X' : Ob → Prop} (ha : At ob id ver X)
    (hx : ∀ o o', X o → ρ' id = ρ id → Keep o o' → (∀ b cs e fr, ρ id = some b → w.heap[b]? = some (.cells cs e fr) → ∃ cs' e' fr', w'.heap[b]? = some (.cells cs' e' fr') ∧ cs'.size = cs.size) → X' o') :
    At ob' id ver X' := by
  obtain ⟨v, o, h1, h2, h3⟩ := ha
  obtain ⟨v', o', g1, g2, g3⟩ := h.obj id v o h1
  refine ⟨v', o', g1, Nat.le_trans h2 g2, fun e => ?_⟩
  obtain ⟨k1, k2, k3⟩ := g3 (by omega)
  exact hx o o' (h3 (by omega)) k1 k2 k3

theorem RelA.stays (h : Stays w w' R R' ob ob' ρ ρ') {x : AV} {c : Value} (hx : RelA w R ob ρ x c) : RelA w' R' ob' ρ' x c := by
  induction hx with
  | r h0 => exact .r (h0.mono h.free)
  | agg xs cs hl _ ih => exact .agg xs cs hl ih
  | tup xs cs hl _ ih => exact .tup xs cs hl ih
  | nils sz z => exact .nils sz z
  | own id ver lo len c hc ha =>
    refine .own id ver lo len c hc (h.at_ ha fun o o' ho hρ hk hb => ?_)
    cases o with
    | box _ => exact ho.elim
    | abs _ => exact ho.elim
    | row sz z1 a1 w1 xs =>
      cases o' with
      | box _ => exact hk.elim
      | abs _ => exact hk.elim
      | row sz' z2 a2 w2 xs' =>
        obtain ⟨rfl, hk⟩ := hk
        obtain ⟨A, cap, e1, e2, e3, e4, e5⟩ := ho
        refine ⟨A, cap, e1, e2, e3, by omega, fun h0 => ?_⟩
        obtain ⟨b, cs, e, fr, f1, f2, f3, f4⟩ := e5 h0
        obtain ⟨cs', e', fr', g1, g2⟩ := hb b cs e fr f1 f3
        exact ⟨b, cs', e', fr', by rw [hρ, f1], f2, g1, by rw [g2]; exact f4⟩
  | ptr id ver off c hc ha => exact .ptr id ver off c hc (h.at_ ha fun o o' ho hρ hk hb => by rw [hρ]; exact ho)
  | oel id ver idx off c hc ha =>
    refine .oel id ver idx off c hc (h.at_ ha fun o o' ho hρ hk hb => ?_)
    cases o with
    | box _ => exact ho.elim
    | abs _ => exact ho.elim
    | row sz z1 a1 w1 xs =>
      cases o' with
      | box _ => exact hk.elim
      | abs _ => exact hk.elim
      | row sz' z2 a2 w2 xs' =>
        obtain ⟨rfl, hk⟩ := hk
        obtain ⟨e1, e2, e3⟩ := ho
        exact ⟨by omega, e2, by rw [hρ]; exact e3⟩
  | rp ys b o g hR hg =>
    refine .rp ys b o g (h.free b hR).1 fun j y hj => ?_
    obtain ⟨h1, h2, h3⟩ := hg j y hj
    refine ⟨?_, h2, h3.mono h.free⟩
    rw [← h1]
    simp only [World.cell?]
    rw [(h.free b hR).2]
  | fn f xs k fs cs hk hl _ ih => exact .fn f xs k fs cs hk hl ih
  | gd b _ hf ih => exact .gd b ih hf
  | undef c => exact .undef c
end

/-- The state of an activation: what its slots hold, and its objects. -/
structure St where
  e : Nat → AV
  ob : Obs
def Own (ob : Obs) (ρ : Pl → Option Nat) (b : Nat) : Prop := ∃ id v o, ob id = some (v, o) ∧ o.own = true ∧ foot ρ id o b
def Free (B : Nat → Prop) (ob : Obs) (ρ : Pl → Option Nat) (w : World) (b : Nat) : Prop := b < w.heap.size ∧ ¬ Own ob ρ b ∧ B b

/-- An object lies in the world. -/
def ObRel (w : World) (R : Nat → Prop) (ob : Obs) (ρ : Pl → Option Nat) (id : Nat) : Ob → Prop
  | .box cells => ∃ b cs e, ρ id = some b ∧ w.heap[b]? = some (.cells cs e (0, 0)) ∧ cs.size = cells.length ∧
      ∀ (i : Nat) (x : AV) (c : Value), cells[i]? = some x → cs[i]? = some c → RelA w R ob ρ x c
  | .abs T => ∃ b, ρ id = some b ∧ T.Q w b (fun j => ρ (.s id j))
  | .row sz _ app _ xs => (xs = [] ∧ ρ id = none) ∨ ∃ b cs e fr, ρ id = some b ∧ w.heap[b]? = some (.cells cs e fr) ∧
      (∀ k, k < cs.size → ¬ (fr.1 ≤ k ∧ k < fr.2)) ∧ (app = true → fr = (0, 0)) ∧ xs.length * sz ≤ cs.size ∧
      ∀ (i : Nat) (x : RV), xs[i]? = some x → x.cells.length = sz ∧ ∀ (j : Nat) (y : RV), x.cells[j]? = some y → ∃ c, cs[i * sz + j]? = some c ∧ c.oneCell' = true ∧ RelV w R y c

/-- What a call leaves of what was there: all but what it was handed to write. -/
structure Keeps (I : Nat → Prop) (w w' : World) : Prop where
  os : w'.os = w.os
  tape : w'.tape = w.tape
  output : w'.output = w.output
  size : w.heap.size ≤ w'.heap.size
  block : ∀ b, b < w.heap.size → ¬ I b → w'.heap[b]? = w.heap[b]?
theorem Keeps.refl (I : Nat → Prop) (w : World) : Keeps I w w := ⟨rfl, rfl, rfl, Nat.le_refl _, fun _ _ _ => rfl⟩
theorem Keeps.trans {I : Nat → Prop} {a b c : World} (h : Keeps I a b) (k : Keeps I b c) : Keeps I a c :=
  ⟨k.os.trans h.os, k.tape.trans h.tape, k.output.trans h.output, Nat.le_trans h.size k.size, fun i hi hn => (k.block i (Nat.lt_of_lt_of_le hi h.size) hn).trans (h.block i hi hn)⟩

/-- What is fixed in an activation: how many slots it has, the blocks that it may write from the start, those that its caller points at, those in which what came in lies, and the world at its start. -/
structure Cx where
  n : Nat
  I : Nat → Prop
  pn : Nat → Option Nat
  B : Nat → Prop
  w0 : World
/-- The objects of an activation lie in the world. -/
structure Mem (X : Cx) (ob : Obs) (ρ : Pl → Option Nat) (w : World) : Prop where
  obj : ∀ id v o, ob id = some (v, o) → ObRel w (Free X.B ob ρ w) ob ρ id o
  inj : ∀ id id' x x' b, ob id = some x → ob id' = some x' → foot ρ id x.2 b → foot ρ id' x'.2 b → id = id'
  keeps : Keeps X.I X.w0 w
  own : ∀ id v o b, ob id = some (v, o) → foot ρ id o b → X.I b ∨ X.w0.heap.size ≤ b
  pin : ∀ id b, X.pn id = some b → ρ id = some b ∧ ∃ o, ob id = some (0, o) ∧ o.pinned = true
/-- The state holds in an activation and a world. -/
structure Gam (X : Cx) (s : St) (ρ : Pl → Option Nat) (a : Act) (w : World) : Prop extends Mem X s.ob ρ w where
  sz : a.tmps.size = X.n
  df : a.defers = []
  env : ∀ t, RelA w (Free X.B s.ob ρ w) s.ob ρ (s.e t) (a.tmps.getD t undef)
  pnn : ∀ id, id < 1000000 → X.pn id = none
  small : X.n ≤ 100000
  base : ∀ b, X.I b ∨ X.w0.heap.size ≤ b → X.B b
end Go.Ev

import Derived.Test.YtjpejkfhkbaakaaEvAll
namespace Go.Ev
open Go
set_option linter.unnecessarySimpa false
set_option linter.unusedSimpArgs false
set_option linter.unusedVariables false

/-- Names of objects: of an object and its version another's. -/
abbrev Ren := Nat → Nat → Option (Nat × Nat)
mutual
def imV (F : Ren) : AV → AV
  | .r x => .r x
  | .agg xs => .agg (imL F xs)
  | .tup xs => .tup (imL F xs)
  | .nils sz z => .nils sz z
  | .own id ver lo len => match F id ver with | some (i, v) => .own i v lo len | none => .undef
  | .ptr id ver off => match F id ver with | some (i, v) => .ptr i v off | none => .undef
  | .oel id ver idx off => match F id ver with | some (i, v) => .oel i v idx off | none => .undef
  | .rp ys => .rp ys
  | .fn f xs k => .fn f (imL F xs) k
  | .gd b x => .gd b (imV F x)
  | .undef => .undef
def imL (F : Ren) : List AV → List AV
  | [] => []
  | x :: xs => imV F x :: imL F xs
end
def imO (F : Ren) : Ob → Ob
  | .box cells => .box (imL F cells)
  | .row sz z app wr xs => .row sz z app wr xs
  | .abs T => .abs T
theorem imL_get (F : Ren) : ∀ (xs : List AV) (i : Nat), (imL F xs)[i]? = (xs[i]?).map (imV F)
  | [], i => by simp [imL]
  | x :: xs, 0 => by simp [imL]
  | x :: xs, i + 1 => by simp [imL, imL_get F xs i]
theorem imL_length (F : Ren) : ∀ (xs : List AV), (imL F xs).length = xs.length
  | [] => by simp [imL]
  | x :: xs => by simp [imL, imL_length F xs]

section
variable {P : Program} {X Y : Cx} {w w' : World} {s : St} {ρ ρ' : Pl → Option Nat} {a : Act} {ob ob' : Obs} {R R' : Nat → Prop} {F : Ren}

/-- What a renaming must keep. -/
def Fits (ob ob' : Obs) (ρ ρ' : Pl → Option Nat) (F : Ren) : Prop := ∀ id ver i v, F id ver = some (i, v) → ∃ o o', ob id = some (ver, o) ∧ ob' i = some (v, o') ∧ ρ' i = ρ id ∧ Keep o o'

theorem Keep.own {lo len id id' : Nat} {c : Value} {o o' : Ob} (h : OwnRel w ρ id lo len c o) (hk : Keep o o') (hρ : ρ' id' = ρ id) : OwnRel w ρ' id' lo len c o' := by
  cases o with
  | box _ => exact h.elim
  | abs _ => exact h.elim
  | row sz z1 a1 w1 xs =>
    cases o' with
    | box _ => exact hk.elim
    | abs _ => exact hk.elim
    | row sz' z2 a2 w2 xs' =>
      obtain ⟨rfl, hk⟩ := hk
      obtain ⟨A, cap, e1, e2, e3, e4, e5⟩ := h
      refine ⟨A, cap, e1, e2, e3, by omega, fun h0 => ?_⟩
      obtain ⟨b, cs, e, fr, f1, f2, f3, f4⟩ := e5 h0
      exact ⟨b, cs, e, fr, by rw [hρ, f1], f2, f3, f4⟩

theorem RelA.im (hR : ∀ b, R b → R' b) (hF : Fits ob ob' ρ ρ' F) {x : AV} {c : Value} (h : RelA w R ob ρ x c) : RelA w R' ob' ρ' (imV F x) c := by
  induction h with
  | r h0 => rw [imV]; exact .r (h0.mono fun b hb => ⟨hR b hb, rfl⟩)
  | agg xs cs hl _ ih =>
    rw [imV]
    refine .agg _ cs (by rw [imL_length]; exact hl) fun i x c hx hc => ?_
    rw [imL_get, Option.map_eq_some_iff] at hx
    obtain ⟨y, hy, rfl⟩ := hx
    exact ih i y c hy hc
  | tup xs cs hl _ ih =>
    rw [imV]
    refine .tup _ cs (by rw [imL_length]; exact hl) fun i x c hx hc => ?_
    rw [imL_get, Option.map_eq_some_iff] at hx
    obtain ⟨y, hy, rfl⟩ := hx
    exact ih i y c hy hc
  | nils sz z => rw [imV]; exact .nils sz z
  | own id ver lo len c hc ha =>
    rw [imV]
    split
    · rename_i i v hf
      obtain ⟨o, o', h1, h2, h3, h4⟩ := hF _ _ _ _ hf
      exact .own _ _ _ _ _ hc ⟨v, o', h2, Nat.le_refl _, fun _ => Keep.own (ha.live h1) h4 h3⟩
    · exact .undef _
  | ptr id ver off c hc ha =>
    rw [imV]
    split
    · rename_i i v hf
      obtain ⟨o, o', h1, h2, h3, h4⟩ := hF _ _ _ _ hf
      exact .ptr _ _ _ _ hc ⟨v, o', h2, Nat.le_refl _, fun _ => by rw [h3]; exact ha.live h1⟩
    · exact .undef _
  | oel id ver idx off c hc ha =>
    rw [imV]
    split
    · rename_i i v hf
      obtain ⟨o, o', h1, h2, h3, h4⟩ := hF _ _ _ _ hf
      refine .oel _ _ _ _ _ hc ⟨v, o', h2, Nat.le_refl _, fun _ => ?_⟩
      have hr := ha.live h1
      cases o with
      | box _ => exact hr.elim
      | abs _ => exact hr.elim
      | row sz z1 a1 w1 xs =>
        cases o' with
        | box _ => exact h4.elim
        | abs _ => exact h4.elim
        | row sz' z2 a2 w2 xs' =>
          obtain ⟨rfl, h4⟩ := h4
          obtain ⟨e1, e2, e3⟩ := hr
          exact ⟨by omega, e2, by rw [h3]; exact e3⟩
    · exact .undef _
  | rp ys b o g hRb hg =>
    rw [imV]
    exact .rp ys b o g (hR b hRb) fun j y hj => ⟨(hg j y hj).1, (hg j y hj).2.1, (hg j y hj).2.2.mono fun b hb => ⟨hR b hb, rfl⟩⟩
  | fn f xs k fs cs hk hl _ ih =>
    rw [imV]
    refine .fn f _ k fs cs hk (by rw [imL_length]; exact hl) fun i x c hx hc => ?_
    rw [imL_get, Option.map_eq_some_iff] at hx
    obtain ⟨y, hy, rfl⟩ := hx
    exact ih i y c hy hc
  | gd b _ hf ih => rw [imV]; exact .gd b ih hf
  | undef c => rw [imV]; exact .undef c

theorem ObRel.im (hR : ∀ b, R b → R' b) (hF : Fits ob ob' ρ ρ' F) {id i : Nat} {x : Ob} (h : ObRel w R ob ρ id x) (hρ : ρ' i = ρ id) (hρs : ∀ j, ρ' (.s i j) = ρ (.s id j)) : ObRel w R' ob' ρ' i (imO F x) := by
  cases x with
  | abs T =>
    obtain ⟨b, h1, h2⟩ := h
    exact ⟨b, by rw [hρ, h1], by simp only [hρs]; exact h2⟩
  | box cells =>
    obtain ⟨b, cs, e, h1, h2, h3, h4⟩ := h
    refine ⟨b, cs, e, by rw [hρ, h1], h2, by rw [imL_length]; exact h3, fun i x c hx hc => ?_⟩
    rw [imL_get, Option.map_eq_some_iff] at hx
    obtain ⟨y, hy, rfl⟩ := hx
    exact (h4 i y c hy hc).im hR hF
  | row sz z app wr xs =>
    rcases h with ⟨h1, h2⟩ | ⟨b, cs, e, fr, h1, h2, h3, h4, h5, h6⟩
    · exact .inl ⟨h1, by rw [hρ, h2]⟩
    · refine .inr ⟨b, cs, e, fr, by rw [hρ, h1], h2, h3, h4, h5, fun i x hi => ⟨(h6 i x hi).1, fun j y hj => ?_⟩⟩
      obtain ⟨c, g1, g2, g3⟩ := (h6 i x hi).2 j y hj
      exact ⟨c, g1, g2, g3.mono fun b hb => ⟨hR b hb, rfl⟩⟩
theorem Keep.im (F : Ren) (x : Ob) : Keep x (imO F x) := by cases x <;> simp [Keep, imO]
theorem isAbs_im (F : Ren) (x : Ob) : (imO F x).isAbs = x.isAbs := by cases x <;> rfl
theorem pinned_im (F : Ren) (x : Ob) : (imO F x).pinned = x.pinned := by cases x <;> rfl
theorem own_im (F : Ren) (x : Ob) : (imO F x).own = x.own := by cases x <;> rfl

/-- Place of a number in a list. -/
def idx : Nat → List Nat → Option Nat
  | _, [] => none
  | i, j :: l => if i = j then some 0 else (idx i l).map (· + 1)
theorem idx_some {i : Nat} : ∀ {l : List Nat} {k : Nat}, idx i l = some k → l[k]? = some i
  | [], k, h => by cases h
  | j :: l, k, h => by
    unfold idx at h
    split at h
    · rename_i hij; cases h; simp [hij]
    · rw [Option.map_eq_some_iff] at h
      obtain ⟨m, hm, rfl⟩ := h
      simpa using idx_some hm
/-- Objects from number k on. -/
def obs : Nat → List Ob → Obs
  | _, [] => fun _ => none
  | k, o :: os => upd k (0, o) (obs (k + 1) os)
theorem obs_lt : ∀ {os : List Ob} {k id : Nat}, id < k → obs k os id = none
  | [], k, id, h => rfl
  | o :: os, k, id, h => by
    unfold obs upd
    rw [if_neg (by omega)]
    exact obs_lt (by omega)
theorem obs_at : ∀ {os : List Ob} {k id : Nat}, k ≤ id → obs k os id = (os[id - k]?).map fun o => (0, o)
  | [], k, id, h => by simp [obs]
  | o :: os, k, id, h => by
    unfold obs upd
    by_cases hk : id = k
    · subst hk; simp
    · rw [if_neg hk, obs_at (by omega), show id - k = (id - (k + 1)) + 1 by omega]
      simp
abbrev ob0 (po : List Ob) : Obs := obs 1000000 po
theorem ob0_some {po : List Ob} {id : Nat} {x : Nat × Ob} (h : ob0 po id = some x) : 1000000 ≤ id ∧ po[id - 1000000]? = some x.2 ∧ x.1 = 0 := by
  by_cases hid : 1000000 ≤ id
  · rw [ob0, obs_at hid, Option.map_eq_some_iff] at h
    obtain ⟨o, ho, rfl⟩ := h
    exact ⟨hid, ho, rfl⟩
  · rw [ob0, obs_lt (by omega)] at h
    cases h
def Foot (ob : Obs) (ρ : Pl → Option Nat) (i b : Nat) : Prop := ∃ x, ob i = some x ∧ foot ρ i x.2 b
/-- The blocks of the objects. -/
def Held (ob : Obs) (ρ : Pl → Option Nat) (b : Nat) : Prop := ∃ id x, ob id = some x ∧ foot ρ id x.2 b
def pinOf (po : List Ob) (ρ : Pl → Option Nat) : Nat → Option Nat := fun id => match ob0 po id with
  | some (_, o) => if o.pinned = true then ρ id else none
  | none => none

/-- What a variable of the library holds, which nobody writes. -/
def GlAt (P : Program) (w : World) (I : Nat → Prop) (name : String) (ok : Array Value → Prop) : Prop :=
  ∀ g, P.globalNamed name = some g → ¬ I g ∧ ∃ cs e fr, w.heap[g]? = some (.cells cs e fr) ∧ ok cs
def pow10s : Array Value := ((List.range 20).map fun k => Value.int .u64 (10 ^ k : Nat)).toArray
/-- Whether the library's errors are known to be there. -/
abbrev errs : Bool := false
structure Gl (P : Program) (w : World) (I : Nat → Prop) : Prop where
  pow : GlAt P w I "internal/strconv.uint64pow10" fun cs => cs = pow10s
  syn : errs = true → GlAt P w I "strconv.ErrSyntax" fun cs => ∃ t p, cs = #[.iface t p]
  rng : errs = true → GlAt P w I "strconv.ErrRange" fun cs => ∃ t p, cs = #[.iface t p]
theorem GlAt.keep {P : Program} {w w' : World} {I I' : Nat → Prop} {name : String} {ok : Array Value → Prop} (h : GlAt P w I name ok)
    (hw : ∀ g, g < w.heap.size → ¬ I g → w'.heap[g]? = w.heap[g]? ∧ ¬ I' g) : GlAt P w' I' name ok := fun g hg => by
  obtain ⟨h1, cs, e, fr, h2, h3⟩ := h g hg
  obtain ⟨k1, k2⟩ := hw g (Array.getElem?_eq_some_iff.1 h2).1 h1
  exact ⟨k2, cs, e, fr, by rw [k1, h2], h3⟩
theorem Gl.keep {P : Program} {w w' : World} {I I' : Nat → Prop} (h : Gl P w I) (hw : ∀ g, g < w.heap.size → ¬ I g → w'.heap[g]? = w.heap[g]? ∧ ¬ I' g) : Gl P w' I' :=
  ⟨h.pow.keep hw, fun he => (h.syn he).keep hw, fun he => (h.rng he).keep hw⟩
class GlC (P : Program) (X : Cx) : Prop where
  gl : Gl P X.w0 X.I

/-- WHAT A FUNCTION DOES: with these arguments over these objects it answers this, and leaves these objects. -/
def Triple (P : Program) (f : FuncId) (args : List AV) (po : List Ob) (res : AV) (ro : List Ob) : Prop :=
  ∀ (w : World) (cargs : Array Value) (ρ : Pl → Option Nat) (B : Nat → Prop), Gl P w (Held (ob0 po) ρ) → (∀ b, Held (ob0 po) ρ b ∨ w.heap.size ≤ b → B b) →
    Mem ⟨0, Held (ob0 po) ρ, fun _ => none, B, w⟩ (ob0 po) ρ w → cargs.size = args.length →
    (∀ (i : Nat) (x : AV) (c : Value), args[i]? = some x → cargs[i]? = some c → RelA w (Free B (ob0 po) ρ w) (ob0 po) ρ x c) →
    Calls P f cargs w fun e w' => ∃ c ρ', e = .returned c ∧ Mem ⟨0, Held (ob0 po) ρ, pinOf po ρ, B, w⟩ (ob0 ro) ρ' w' ∧ RelA w' (Free B (ob0 ro) ρ' w') (ob0 ro) ρ' res c

end
end Go.Ev

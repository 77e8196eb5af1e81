import Derived.Test.YtjpejkfhkbaakaaEvUse
import Derived.Below
namespace Go.Ev
open Go Go.RowKit
set_option linter.unnecessarySimpa false
set_option linter.unusedSimpArgs false
set_option linter.unusedVariables false
/-- What may be read at the start of a call that nothing of this owns. -/
abbrev All0 (w : World) : Nat → Prop := Free (fun _ => True) (ob0 []) (fun _ => none) w
abbrev Rel0 (w : World) : AV → Value → Prop := RelA w (All0 w) (ob0 []) (fun _ => none)
/-- From a contract over no objects a call's. -/
theorem calls_of_triple {P : Program} {f : FuncId} {args : List AV} {res : AV} {cargs : Array Value} (h : Triple P f args [] res []) (w : World) (hgl : Gl P w fun _ => False) (hs : cargs.size = args.length)
    (hr : ∀ (i : Nat) (x : AV) (c : Value), args[i]? = some x → cargs[i]? = some c → Rel0 w x c) : Calls P f cargs w fun e w' => ∃ c, e = .returned c ∧ Below w.heap.size w w' ∧ ∃ ρ', RelA w' (Free (fun _ => True) (ob0 []) ρ' w') (ob0 []) ρ' res c := by
  have hno : ∀ b, ¬ Held (ob0 []) (fun _ => none) b := fun b ⟨_, _, h, _⟩ => by simp [obs] at h
  refine (h w cargs (fun _ => none) (fun _ => True) (hgl.keep fun g _ _ => ⟨rfl, fun hb => hno g hb⟩) (fun _ _ => trivial) ⟨fun id v o h => by simp [obs] at h, fun id id' x x' b h => by simp [obs] at h, Keeps.refl _ _, fun id v o b h => by simp [obs] at h, fun id b h => by simp at h⟩ hs hr).mono ?_
  rintro e w' ⟨c, ρ', rfl, hM, hR⟩
  exact ⟨c, rfl, ⟨hM.keeps.os, hM.keeps.tape, hM.keeps.output, hM.keeps.size, fun k hk => hM.keeps.block k hk (hno k)⟩, ρ', hR⟩
/-- A law that holds. -/
theorem law_of_triple {P : Program} {f : FuncId} {args : List AV} {cargs : Array Value} (h : Triple P f args [] (bl true) []) (w : World) (hgl : Gl P w fun _ => False) (hs : cargs.size = args.length)
    (hr : ∀ (i : Nat) (x : AV) (c : Value), args[i]? = some x → cargs[i]? = some c → Rel0 w x c) : Calls P f cargs w fun e w' => e = .returned (.bool true) ∧ Below w.heap.size w w' := by
  refine (calls_of_triple h w hgl hs hr).mono ?_
  rintro e w' ⟨c, rfl, hb, ρ', hR⟩
  cases hR with
  | r h => cases h; exact ⟨rfl, hb⟩
/-- Where the program has no such variables. -/
theorem gl_none {P : Program} (h1 : P.globalNamed "internal/strconv.uint64pow10" = none) (h2 : errs = true → P.globalNamed "strconv.ErrSyntax" = none) (h3 : errs = true → P.globalNamed "strconv.ErrRange" = none) (w : World) : Gl P w fun _ => False :=
  ⟨fun g h => (by rw [h1] at h; cases h), fun he g h => (by rw [h2 he] at h; cases h), fun he g h => (by rw [h3 he] at h; cases h)⟩
theorem rel0_nil {w : World} : ∀ (i : Nat) (x : AV) (c : Value), ([] : List AV)[i]? = some x → (#[] : Array Value)[i]? = some c → Rel0 w x c := fun i x c h => by simp at h
theorem rel0_cons {w : World} {x : AV} {c : Value} {xs : List AV} {cs : List Value} (h : Rel0 w x c) (hr : ∀ (i : Nat) (x : AV) (c : Value), xs[i]? = some x → cs.toArray[i]? = some c → Rel0 w x c) :
    ∀ (i : Nat) (y : AV) (d : Value), (x :: xs)[i]? = some y → (c :: cs).toArray[i]? = some d → Rel0 w y d := fun i y d hy hd => by
  cases i with
  | zero => simp at hy hd; subst hy; subst hd; exact h
  | succ i => exact hr i y d (by simpa using hy) (by simpa using hd)
theorem rel0_v {w : World} (v : Value) : Rel0 w (.r (.v v)) v := .r (.v v)
/-- From a call's contract over numbers, truths and texts a contract. -/
theorem triple_of_calls {P : Program} {f : FuncId} {vs : List Value} {r : RV} (h : ∀ w, Gl P w (fun _ => False) → Calls P f vs.toArray w fun e w' => ∃ c, e = .returned c ∧ Below w.heap.size w w' ∧ ∀ R, RelV w' R r c) : Triple P f (vs.map fun v => .r (.v v)) [] (.r r) [] := by
  intro w cargs ρ B hgl hB hM hs hargs
  have hc : cargs = vs.toArray := by
    apply Array.ext (by simpa using hs)
    intro i h1 h2
    have := hargs i (.r (.v (vs[i]'(by simpa using h2)))) cargs[i] (by simp [show i < vs.length by simpa using h2]) (by simp [h1])
    have := inv_v (s := ⟨fun _ => .undef, ob0 []⟩) (X := ⟨0, fun _ => False, fun _ => none, B, w⟩) this
    rw [this]
    simp
  rw [hc]
  refine (h w (hgl.keep fun g _ _ => ⟨rfl, id⟩)).mono ?_
  rintro e w' ⟨c, rfl, hb, hr⟩
  refine ⟨c, ρ, rfl, ⟨fun id v o h => by simp [obs] at h, fun id id' x x' b h => by simp [obs] at h, ⟨hb.os, hb.tape, hb.output, hb.size, fun b hlt _ => hb.block b hlt⟩, fun id v o b h => by simp [obs] at h, fun id b hp => ?_⟩, .r (hr _)⟩
  simp [pinOf, obs] at hp
end Go.Ev

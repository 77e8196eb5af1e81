import Derived.Test.YtpjimnjfjopedaaTrQ
namespace Go.Ev
open Go
set_option linter.unnecessarySimpa false
set_option linter.unusedSimpArgs false
set_option linter.unusedVariables false
theorem glT (w : World) : Gl Go.Proofs.Try.prog w fun _ => False := gl_none (by kernel_rfl) (fun _ => by kernel_rfl) (fun _ => by kernel_rfl) w
def Ky.val (k : Ky) : Value := .agg #[.int .u64 k.c, .int .i64 k.v, .int .i64 k.d]
theorem Ky.rel {w : World} {R : Nat → Prop} (k : Ky) : RelV w R k.rv k.val := by
  refine .agg _ _ rfl fun i x c hx hc => ?_
  match i, hx, hc with
  | 0, hx, hc => simp [Ky.val] at hx hc; subst hx; subst hc; exact .v _
  | 1, hx, hc => simp [Ky.val] at hx hc; subst hx; subst hc; exact .v _
  | 2, hx, hc => simp [Ky.val] at hx hc; subst hx; subst hc; exact .v _
  | i + 3, hx, hc => simp at hx
theorem all0 {w : World} {x : Nat} (h : x < w.heap.size) : All0 w x := ⟨h, fun ⟨id, v, o, h1, _⟩ => by simp [ob0, obs] at h1, trivial⟩
theorem keeps_below {w w' : World} {I : Nat → Prop} (h : Go.RowKit.Below w.heap.size w w') : Keeps I w w' := ⟨h.os, h.tape, h.output, h.size, fun b hb _ => h.block b hb⟩
section
variable {w : World} {b cap : Nat} {og : Option Nat} {gs : List Nat} {ns : List (List Ky)} {n : Int}
theorem node_w (h : TL w b og gs cap ns n) (k : Ky) (r : Nat) (hN : Nod ns k r) : Calls Go.Proofs.Try.prog 22 #[.pointer (some ⟨b, 0, none⟩), k.val] w fun e w' => e = .returned (.int .i64 ((r - 1 : Nat) : Int)) ∧ ∀ I, Keeps I w w' := by
  obtain ⟨g, hg⟩ := h.rp (R := All0 w) fun x hx => all0 (h.lt x hx)
  refine (calls_of_triple (node_t ns n k r hN) w (glT w) rfl (rel0_cons (.rp _ b 0 g (all0 (h.lt b (.inl rfl))) hg) (rel0_cons (.r k.rel) rel0_nil))).mono ?_
  rintro e w' ⟨c, rfl, hb, ρ', hR⟩
  cases hR with
  | r hv => cases hv; exact ⟨rfl, fun I => keeps_below hb⟩
theorem find_w {g c : Nat} {l : List Ky} (h : RowK w g l c) (k : Ky) (r : Nat) (hP : Plc l k r) : Calls Go.Proofs.Try.prog 23 #[.slice (some ⟨g, 0, none⟩) l.length c, k.val] w fun e w' =>
    e = .returned (.tuple #[.int .i64 r, .bool (decide (l[r]? = some k))]) ∧ ∀ I, Keeps I w w' := by
  have hl : l.length ≤ maxLen := by obtain ⟨_, _, _, _, _, h4, _, h6⟩ := h; omega
  refine (calls_of_triple (find_t l k r hP hl) w (glT w) rfl (rel0_cons (.r (h.rel (all0 h.lt))) (rel0_cons (.r k.rel) rel0_nil))).mono ?_
  rintro e w' ⟨c, rfl, hb, ρ', hR⟩
  cases hR with
  | tup _ cs hl h =>
    have h0 := h 0 _ (cs[0]'(by rw [hl]; simp)) rfl (by simp [hl])
    have h1 := h 1 _ (cs[1]'(by rw [hl]; simp)) rfl (by simp [hl])
    refine ⟨?_, fun I => keeps_below hb⟩
    congr 2
    have inv : ∀ {v c : Value}, RelA w' (Free (fun _ => True) (ob0 []) ρ' w') (ob0 []) ρ' (.r (.v v)) c → c = v := fun h => by cases h with | r h => cases h; rfl
    have e0 := inv h0
    have e1 := inv h1
    apply Array.ext (by simp [hl])
    intro i h2 h3
    match i, h2, h3 with
    | 0, h2, h3 => simpa using e0
    | 1, h2, h3 => simpa using e1
    | i + 2, h2, h3 => rw [hl] at h2; exact absurd (show i + 2 < 2 from h2) (by omega)
end
/-- A contract out of what is shown of the world: a thing of many blocks and a key. -/
theorem triple_abs {f : FuncId} {T T' : AbsT} {k : Ky} {res : Value} (hs : T'.size = T.size) (h : ∀ (w : World) (b : Nat) (φ : Nat → Option Nat), T.Q w b φ → Calls Go.Proofs.Try.prog f #[.pointer (some ⟨b, 0, none⟩), k.val] w fun e w' =>
    e = .returned res ∧ ∃ φ', T'.Q w' b φ' ∧ Keeps (fun x => x = b ∨ ∃ j, φ j = some x) w w' ∧ (∀ j c, φ' j = some c → (∃ j', φ j' = some c) ∨ w.heap.size ≤ c)) :
    Triple Go.Proofs.Try.prog f [.ptr 1000000 0 0, k.av] [.abs T] (.r (.v res)) [.abs T'] := by
  intro w cargs ρ B hgl hB hM hcs hargs
  have hob : ob0 [Ob.abs T] 1000000 = some (0, .abs T) := by simp [ob0, obs, upd]
  obtain ⟨b, hρ, hQ⟩ := hM.obj 1000000 0 (.abs T) hob
  have hid : ∀ (T0 : AbsT) id x, ob0 [Ob.abs T0] id = some x → id = 1000000 ∧ x = (0, .abs T0) := fun T0 id x hx => by
    obtain ⟨h1, h2, h3⟩ := ob0_some hx
    have : id - 1000000 = 0 := by
      have := (List.getElem?_eq_some_iff.1 h2).1
      simpa using this
    have hid : id = 1000000 := by omega
    subst hid
    have hob0 : ob0 [Ob.abs T0] 1000000 = some (0, .abs T0) := by simp [ob0, obs, upd]
    rw [hob0] at hx
    exact ⟨rfl, (Option.some.inj hx).symm⟩
  have hheld : ∀ x, Held (ob0 [.abs T]) ρ x ↔ (x = b ∨ ∃ j, ρ (.s 1000000 j) = some x) := fun x => by
    constructor
    · rintro ⟨id, y, h1, h2⟩
      obtain ⟨rfl, rfl⟩ := hid T id _ h1
      rcases h2 with h2 | ⟨_, j, h2⟩
      · rw [hρ] at h2; cases h2; exact .inl rfl
      · exact .inr ⟨j, h2⟩
    · rintro (rfl | ⟨j, h2⟩)
      · exact ⟨1000000, (0, .abs T), hob, .inl hρ⟩
      · exact ⟨1000000, (0, .abs T), hob, .inr ⟨rfl, j, h2⟩⟩
  have hc : cargs = #[.pointer (some ⟨b, 0, none⟩), k.val] := by
    simp at hcs
    apply Array.ext (by simpa using hcs)
    intro i h1 h2
    match i, h1, h2 with
    | 0, h1, h2 =>
      have h0 := hargs 0 _ cargs[0] rfl (by simp [h1])
      generalize cargs[0] = c0 at h0
      cases h0 with
      | ptr _ _ _ _ hc1 hat =>
        obtain ⟨b', hb', rfl⟩ := hat.live hob
        rw [hρ] at hb'
        cases hb'
        rfl
    | 1, h1, h2 =>
      have h0 := hargs 1 _ cargs[1] rfl (by simp [h1])
      generalize cargs[1] = c1 at h0
      cases h0 with
      | r h0 =>
        cases h0 with
        | agg xs cs hl h0 =>
          have inv : ∀ {v c : Value}, RelV w (Free B (ob0 [.abs T]) ρ w) (.v v) c → c = v := fun h => by cases h; rfl
          simp only [Ky.val, List.getElem_toArray, List.getElem_cons_succ, List.getElem_cons_zero]
          congr 1
          apply Array.ext (by simpa using hl)
          intro j g1 g2
          match j, g1, g2 with
          | 0, g1, g2 => exact inv (h0 0 _ cs[0] rfl (by simp [g1]))
          | 1, g1, g2 => exact inv (h0 1 _ cs[1] rfl (by simp [g1]))
          | 2, g1, g2 => exact inv (h0 2 _ cs[2] rfl (by simp [g1]))
          | j + 3, g1, g2 => exact absurd (show j + 3 < 3 from g2) (by omega)
    | i + 2, h1, h2 => exact absurd (show i + 2 < 2 from h2) (by omega)
  subst hc
  refine (h w b _ hQ).mono ?_
  rintro e w' ⟨rfl, φ', hQ', hK, hφ⟩
  obtain ⟨ρ', h1, h2⟩ : ∃ ρ' : Pl → Option Nat, ρ' (.o 1000000) = some b ∧ ∀ j, ρ' (.s 1000000 j) = φ' j := ⟨fun | .o i => if i = 1000000 then some b else none | .s i j => if i = 1000000 then φ' j else none, by simp, by simp⟩
  refine ⟨_, ρ', rfl, ⟨fun id v o hx => ?_, fun id id' x x' c hx hx' _ _ => ?_, ⟨hK.os, hK.tape, hK.output, hK.size, fun c hc hn => hK.block c hc fun hx => hn ((hheld c).2 hx)⟩, fun id v o c hx hf => ?_, fun id c hp => ?_⟩, .r (.v _)⟩
  · obtain ⟨rfl, hx⟩ := hid T' id _ hx
    cases hx
    refine ⟨b, h1, ?_⟩
    rw [show (fun j => ρ' (.s 1000000 j)) = φ' from funext h2]
    exact hQ'
  · rw [(hid T' id _ hx).1, (hid T' id' _ hx').1]
  · obtain ⟨rfl, hx⟩ := hid T' id _ hx
    cases hx
    rcases hf with hf | ⟨_, j, hf⟩
    · rw [h1] at hf; cases hf; exact .inl ((hheld b).2 (.inl rfl))
    · rw [h2] at hf
      rcases hφ j c hf with ⟨j', hj'⟩ | h
      · exact .inl ((hheld c).2 (.inr ⟨j', hj'⟩))
      · exact .inr h
  · simp only [pinOf] at hp
    split at hp
    · rename_i v o hx
      split at hp
      · rename_i ho
        obtain ⟨rfl, hx'⟩ := hid T id _ hx
        refine ⟨?_, _, by simp [ob0, obs, upd]; rfl, rfl⟩
        rw [h1, ← hp, hρ]
      · cases hp
    · cases hp
end Go.Ev

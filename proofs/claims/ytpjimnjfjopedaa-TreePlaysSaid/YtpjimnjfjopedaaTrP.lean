import Derived.Test.YtpjimnjfjopedaaTrW
namespace Go.Ev
open Go Go.RowKit
set_option linter.unnecessarySimpa false
set_option linter.unusedSimpArgs false
set_option linter.unusedVariables false
set_option maxRecDepth 100000
theorem al_old {w : World} {x : Obj} {k : Nat} (h : k < w.heap.size) : (w.alloc x).heap[k]? = w.heap[k]? := by
  show (w.heap.push x)[k]? = _
  simp [Array.getElem?_push, Nat.ne_of_lt h]
theorem al_new {w : World} {x : Obj} {k : Nat} (h : k = w.heap.size) : (w.alloc x).heap[k]? = some x := by
  subst h
  show (w.heap.push x)[w.heap.size]? = _
  simp
theorem keeps_al {w : World} {x : Obj} {I : Nat → Prop} : Keeps I w (w.alloc x) := keeps_one (one_more x)
theorem Keeps.mono {I J : Nat → Prop} {w w' : World} (h : Keeps I w w') (hi : ∀ x, I x → J x) : Keeps J w w' := ⟨h.os, h.tape, h.output, h.size, fun b hb hn => h.block b hb fun hx => hn (hi b hx)⟩
theorem put0_w {w : World} {b cap : Nat} {og : Option Nat} {gs : List Nat} {n : Int} (h : TL w b og gs cap [] n) (k : Ky) : Calls Go.Proofs.Try.prog 12 #[.pointer (some ⟨b, 0, none⟩), k.val] w fun e w' => e = .returned (.bool true) ∧
    ∃ og' gs' cap', TL w' b og' gs' cap' [[k]] 1 ∧ Keeps (Ft b og gs) w w' ∧ ∀ x, Ft b og' gs' x → Ft b og gs x ∨ w.heap.size ≤ x := by
  obtain ⟨e, he⟩ := h.hd
  have hlt := h.lt b (.inl rfl)
  have hc : w.cell? ⟨b, 0, none⟩ = some (.slice (adr og) 0 cap) := by simp [World.cell?, he]
  have hc1 : w.cell? ⟨b, 1, none⟩ = some (.int .i64 n) := by simp [World.cell?, he]
  have hf0 : w.frozen? ⟨b, 0, none⟩ = false := by simp [World.frozen?, he]
  have hf1 : w.frozen? ⟨b, 1, none⟩ = false := by simp [World.frozen?, he]
  have hb01 : b < w.heap.size + 1 := by omega
  have hb02 : b < w.heap.size + 1 + 1 := by omega
  have hb0 : ¬ b = w.heap.size := by omega
  have hb1 : ¬ b = w.heap.size + 1 := by omega
  have hb2 : ¬ b = w.heap.size + 1 + 1 := by omega
  simp only [Ky.val]
  go_enter Go.Proofs.Try.func12, Go.Proofs.Try.ntmps12
  go_wp2_with fail
  go_ret
  rw [setCell_eq_setRow w b 0 _ _ _ _ he, setCell_eq_setRow _ b 1 _ _ _ _ (setRow_heap w b _ _ _ _ he), setRow_setRow]
  generalize hw1 : w.setRow b _ = w1
  have hh : w1.heap[b]? = some (.cells #[.slice (some ⟨w.heap.size + 1 + 1, 0, none⟩) 1 1, .int .i64 1] e) := by rw [← hw1]; exact setRow_heap w b _ _ _ _ he
  have hk : Keeps (· = b) w w1 := by rw [← hw1]; exact keeps_row he
  have hs : w1.heap.size = w.heap.size := by rw [← hw1]; simp [World.setRow]
  refine ⟨rfl, some (w.heap.size + 1 + 1), [w.heap.size + 1], 1, ⟨⟨e, ?_⟩, by simp, by simp [maxLen], by simp, fun g hg => ?_, rfl, ?_⟩, ?_, fun x hx => ?_⟩
  · rw [al_old (by simp [hs]; omega), al_old (by simp [hs]; omega), al_old (by simp [hs]; omega), hh]
    rfl
  · cases hg
    refine ⟨by omega, _, _, al_new (by simp [hs]), by simp, fun i g' l hi hl => ?_⟩
    have hi0 : i = 0 := by have := (List.getElem?_eq_some_iff.1 hi).1; simp at this; exact this
    subst hi0
    simp at hi hl
    subst hi; subst hl
    refine ⟨1, rfl, _, _, by rw [al_old (by simp [hs])]; exact al_new (by simp [hs]), by simp, ?_, by simp, by simp, by simp [maxLen]⟩
    intro j u hj
    simpa [flat, kc] using hj
  · simp
    omega
  · exact (hk.mono fun x hx => .inl hx).trans ((keeps_al.trans keeps_al).trans keeps_al)
  · rcases hx with h | h | h
    · exact .inl (.inl h)
    · simp at h; omega
    · simp at h; omega
end Go.Ev

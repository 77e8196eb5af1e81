import Derived.Test.YtpjimnjfjopedaaTrP
namespace Go.Ev
open Go Go.RowKit
set_option linter.unnecessarySimpa false
set_option linter.unusedSimpArgs false
set_option linter.unusedVariables false
set_option maxRecDepth 100000
section
variable {w : World} {b g cap : Nat} {og : Option Nat} {gs : List Nat} {ns : List (List Ky)} {n : Int}
theorem TL.root (h : TL w b (some g) gs cap ns n) : w.cell? ⟨b, 0, none⟩ = some (.slice (some ⟨g, 0, none⟩) ns.length cap) ∧ w.cell? ⟨b, 1, none⟩ = some (.int .i64 n) ∧ w.frozen? ⟨b, 0, none⟩ = false ∧ w.frozen? ⟨b, 1, none⟩ = false ∧ b < w.heap.size := by
  obtain ⟨e, he⟩ := h.hd
  exact ⟨by simp [World.cell?, he, adr], by simp [World.cell?, he], by simp [World.frozen?, he], by simp [World.frozen?, he], h.lt b (.inl rfl)⟩
theorem TL.some_ (h : TL w b og gs cap ns n) {i : Nat} {l : List Ky} (hl : ns[i]? = some l) : ∃ g, og = some g := by
  rcases og with _ | g
  · have := h.no rfl
    have := h.le
    have := (List.getElem?_eq_some_iff.1 hl).1
    omega
  · exact ⟨g, rfl⟩
theorem TL.node (h : TL w b (some g) gs cap ns n) {i : Nat} {l : List Ky} (hl : ns[i]? = some l) : ∃ g' c, gs[i]? = some g' ∧ RowK w g' l c ∧ w.cell? ⟨g, i, none⟩ = some (.slice (some ⟨g', 0, none⟩) l.length c) ∧ w.frozen? ⟨g, i, none⟩ = false := by
  obtain ⟨h0, cs, e, h1, h2, h4⟩ := h.out g rfl
  have hlt := (List.getElem?_eq_some_iff.1 hl).1
  have hg' : gs[i]? = some (gs[i]'(by rw [h.len]; exact hlt)) := by simp [h.len, hlt]
  obtain ⟨c, h5, h6⟩ := h4 i _ l hg' hl
  exact ⟨_, c, hg', h6, by simp [World.cell?, h1, h5], by simp [World.frozen?, h1]⟩
end
/-- The key's own variable. -/
def KB (w : World) (B : Nat) (k : Ky) : Prop := w.heap[B]? = some (.cells #[.int .u64 k.c, .int .i64 k.v, .int .i64 k.d] 24 (0, 0))
theorem KB.cells {w : World} {B : Nat} {k : Ky} (h : KB w B k) : w.cell? ⟨B, 0, none⟩ = some (.int .u64 k.c) ∧ w.cell? ⟨B, 1, none⟩ = some (.int .i64 k.v) ∧ w.cell? ⟨B, 2, none⟩ = some (.int .i64 k.d) := by
  unfold KB at h
  exact ⟨by simp [World.cell?, h], by simp [World.cell?, h], by simp [World.cell?, h]⟩
theorem KB.keeps {w w' : World} {B : Nat} {k : Ky} {I : Nat → Prop} (h : KB w B k) (hk : Keeps I w w') (hn : ¬ I B) : KB w' B k := by
  unfold KB at h ⊢
  rw [hk.block B (Array.getElem?_eq_some_iff.1 h).1 hn]
  exact h
theorem TL.keeps {w w' : World} {b cap : Nat} {og : Option Nat} {gs : List Nat} {ns : List (List Ky)} {n : Int} {I : Nat → Prop} (h : TL w b og gs cap ns n) (hk : Keeps I w w') (hn : ∀ x, Ft b og gs x → ¬ I x) : TL w' b og gs cap ns n :=
  h.loc fun x hx => hk.block x (h.lt x hx) (hn x hx)
theorem put1_w {w : World} {b cap : Nat} {og : Option Nat} {gs : List Nat} {ns : List (List Ky)} {n : Int} (h : TL w b og gs cap ns n) (k : Ky) (r s : Nat) (l : List Ky) (hN : Nod ns k r) (hl : ns[r - 1]? = some l) (hP : Plc l k s) (hs : l[s]? = some k) : Calls Go.Proofs.Try.prog 12 #[.pointer (some ⟨b, 0, none⟩), k.val] w fun e w' => e = .returned (.bool false) ∧
    TL w' b og gs cap ns n ∧ ∀ I, Keeps I w w' := by
  obtain ⟨g, rfl⟩ := h.some_ hl
  have hat : r - 1 < ns.length := (List.getElem?_eq_some_iff.1 hl).1
  generalize hr : r - 1 = i at *
  obtain ⟨c0, c1, f0, f1, hlt⟩ := h.root
  have hne : ((ns.length : Int) == 0) = false := by rw [beq_eq_false_iff_ne]; omega
  have hk0 : ∀ x, Keeps (fun _ => False) w (w.alloc x) := fun x => keeps_al
  have i0 : (0 : Int) ≤ (i : Int) := by omega
  have i1 : (i : Int) < (ns.length : Int) := by omega
  simp only [Ky.val]
  go_enter Go.Proofs.Try.func12, Go.Proofs.Try.ntmps12
  go_wp2_with fail
  have h1 := h.keeps (hk0 (.cells #[.int .u64 k.c, .int .i64 k.v, .int .i64 k.d] 24)) (fun _ _ q => q)
  have b1 : KB (w.alloc (.cells #[.int .u64 k.c, .int .i64 k.v, .int .i64 k.d] 24)) w.heap.size k := al_new rfl
  refine (node_w h1 k r hN).mono ?_
  rintro e w2 ⟨rfl, hK2⟩
  rw [hr]
  have h2 := h1.keeps (hK2 fun _ => False) (fun _ _ q => q)
  have b2 := b1.keeps (hK2 fun _ => False) (fun q => q)
  obtain ⟨d0, d1, f2, f3, _⟩ := h2.root
  obtain ⟨g', c, hg', hrow, d2, f4⟩ := h2.node hl
  obtain ⟨k0, k1, k2⟩ := b2.cells
  go_wp2_with fail
  refine (find_w hrow k s hP).mono ?_
  rintro e w3 ⟨rfl, hK3⟩
  rw [decide_eq_true hs]
  go_wp2_with fail
  go_ret
  refine ⟨rfl, h2.keeps (hK3 fun _ => False) (fun _ _ q => q), fun I => (keeps_al.trans (hK2 I)).trans (hK3 I)⟩
end Go.Ev

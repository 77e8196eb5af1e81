import Derived.Test.YtpjimnjfjopedaaTrP3
namespace Go.Ev
open Go Go.RowKit
set_option linter.unnecessarySimpa false
set_option linter.unusedSimpArgs false
set_option linter.unusedVariables false
set_option maxRecDepth 100000
theorem del0_w {w : World} {b cap : Nat} {og : Option Nat} {gs : List Nat} {n : Int} (h : TL w b og gs cap [] n) (k : Ky) : Calls Go.Proofs.Try.prog 15 #[.pointer (some ⟨b, 0, none⟩), k.val] w fun e w' => e = .returned (.bool false) ∧
    TL w' b og gs cap [] n ∧ ∀ I, Keeps I w w' := by
  obtain ⟨e, he⟩ := h.hd
  have hlt := h.lt b (.inl rfl)
  have hc : w.cell? ⟨b, 0, none⟩ = some (.slice (adr og) 0 cap) := by simp [World.cell?, he]
  have h1 := h.keeps (w' := w.alloc (.cells #[.int .u64 k.c, .int .i64 k.v, .int .i64 k.d] 24)) (keeps_al (I := fun _ => False)) (fun _ _ q => q)
  simp only [Ky.val]
  go_enter Go.Proofs.Try.func15, Go.Proofs.Try.ntmps15
  go_wp2_with fail
  go_ret
  exact ⟨rfl, h1, fun I => keeps_al⟩
theorem del1_w {w : World} {b cap : Nat} {og : Option Nat} {gs : List Nat} {ns : List (List Ky)} {n : Int} (h : TL w b og gs cap ns n) (k : Ky) (r s : Nat) (l : List Ky) (hN : Nod ns k r) (hl : ns[r - 1]? = some l) (hP : Plc l k s) (hs : l[s]? ≠ some k) : Calls Go.Proofs.Try.prog 15 #[.pointer (some ⟨b, 0, none⟩), k.val] w fun e w' => e = .returned (.bool false) ∧
    TL w' b og gs cap ns n ∧ ∀ I, Keeps I w w' := by
  obtain ⟨g, rfl⟩ := h.some_ hl
  have hat : r - 1 < ns.length := (List.getElem?_eq_some_iff.1 hl).1
  generalize hr : r - 1 = i at *
  obtain ⟨c0, c1, f0, f1, hlt⟩ := h.root
  have hne : ((ns.length : Int) == 0) = false := by rw [beq_eq_false_iff_ne]; omega
  have hk0 : ∀ x, Keeps (fun _ => False) w (w.alloc x) := fun x => keeps_al
  have i0 : (0 : Int) ≤ (i : Int) := by omega
  have i1 : (i : Int) < (ns.length : Int) := by omega
  simp only [Ky.val]
  go_enter Go.Proofs.Try.func15, Go.Proofs.Try.ntmps15
  go_wp2_with fail
  have h1 := h.keeps (hk0 (.cells #[.int .u64 k.c, .int .i64 k.v, .int .i64 k.d] 24)) (fun _ _ q => q)
  have b1 : KB (w.alloc (.cells #[.int .u64 k.c, .int .i64 k.v, .int .i64 k.d] 24)) w.heap.size k := al_new rfl
  refine (node_w h1 k r hN).mono ?_
  rintro e w2 ⟨rfl, hK2⟩
  rw [hr]
  have h2 := h1.keeps (hK2 fun _ => False) (fun _ _ q => q)
  have b2 := b1.keeps (hK2 fun _ => False) (fun q => q)
  obtain ⟨d0, d1, f2, f3, _⟩ := h2.root
  obtain ⟨g', c, hg', hrow, d2, f4⟩ := h2.node hl
  obtain ⟨k0, k1, k2⟩ := b2.cells
  go_wp2_with fail
  refine (find_w hrow k s hP).mono ?_
  rintro e w3 ⟨rfl, hK3⟩
  rw [decide_eq_false hs]
  go_wp2_with fail
  go_ret
  refine ⟨rfl, h2.keeps (hK3 fun _ => False) (fun _ _ q => q), fun I => (keeps_al.trans (hK2 I)).trans (hK3 I)⟩
end Go.Ev

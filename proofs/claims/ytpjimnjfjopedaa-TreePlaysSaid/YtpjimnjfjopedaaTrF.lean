import Derived.Test.YtpjimnjfjopedaaTrP1
namespace Go.Ev
open Go Go.RowKit
set_option linter.unnecessarySimpa false
set_option linter.unusedSimpArgs false
set_option linter.unusedVariables false
theorem flat_append (a b : List Ky) : flat (a ++ b) = flat a ++ flat b := by simp [flat]
theorem flat_cons (k : Ky) (b : List Ky) : flat (k :: b) = kc k ++ flat b := by simp [flat]
theorem flat_one1 (k : Ky) : flat [k] = kc k := by simp [flat]
theorem set3 {α : Type} (L : List α) (i : Nat) (a b c : α) (h : i + 3 ≤ L.length) : ((L.set i a).set (i + 1) b).set (i + 2) c = splice L i [a, b, c] := by
  apply List.ext_getElem?
  intro j
  rw [splice_at (by simpa using h)]
  simp only [List.getElem?_set, List.length_set, List.length_cons, List.length_nil]
  by_cases h0 : j = i
  · subst h0; simp; omega
  by_cases h1 : j = i + 1
  · subst h1; simp; omega
  by_cases h2 : j = i + 2
  · subst h2; simp; omega
  rw [if_neg (by omega), if_neg (by omega), if_neg (by omega), if_neg (by omega)]
/-- A key put in at its place, cell by cell. -/
theorem ins_cells {cs : List Value} {l : List Ky} {k : Ky} {s : Nat} (hs : s ≤ l.length) (hp : (flat l ++ kc k) <+: cs) :
    flat (l.take s ++ k :: l.drop s) <+: splice (splice cs ((s + 1) * 3) ((cs.drop (s * 3)).take ((l.length - s) * 3))) (s * 3) (kc k) := by
  obtain ⟨t, rfl⟩ := hp
  obtain ⟨A, hA⟩ : ∃ A, A = flat (l.take s) := ⟨_, rfl⟩
  obtain ⟨D, hD⟩ : ∃ D, D = flat (l.drop s) := ⟨_, rfl⟩
  have hl : flat l = A ++ D := by rw [hA, hD, ← flat_append, List.take_append_drop]
  have lA : A.length = s * 3 := by rw [hA, flat_length, List.length_take, Nat.min_eq_left hs]
  have lD : D.length = (l.length - s) * 3 := by rw [hD, flat_length, List.length_drop]
  have lk : (kc k).length = 3 := rfl
  rw [flat_append, flat_cons, ← hA, ← hD, hl, ← lA, ← lD, show (s + 1) * 3 = A.length + 3 by omega]
  refine ⟨t, ?_⟩
  obtain ⟨E, hE⟩ : ∃ E, E = (D ++ kc k ++ t).take 3 := ⟨_, rfl⟩
  have lE : E.length = 3 := by rw [hE]; simp; omega
  have e1 : (A ++ D ++ kc k ++ t).take (A.length + 3) = A ++ E := by
    rw [hE, List.append_assoc A D, List.append_assoc A, List.take_length_add_append]
  have e2 : ((A ++ D ++ kc k ++ t).drop A.length).take D.length = D := by
    rw [List.append_assoc A D, List.append_assoc A, List.drop_left, List.append_assoc D, List.take_left]
  have e3 : (A ++ D ++ kc k ++ t).drop (A.length + 3 + D.length) = t := by
    have : A.length + 3 + D.length = (A ++ D ++ kc k).length := by simp [lk]; omega
    rw [this, List.drop_left]
  have e4 : splice (A ++ D ++ kc k ++ t) (A.length + 3) D = A ++ (E ++ (D ++ t)) := by
    unfold splice
    rw [e1, e3]
    simp
  rw [e2, e4]
  unfold splice
  have e5 : (A ++ (E ++ (D ++ t))).drop (A.length + 3) = D ++ t := by
    have : A.length + 3 = (A ++ E).length := by simp [lE]
    rw [this, ← List.append_assoc, List.drop_left]
  rw [List.take_left, lk, e5]
  simp
theorem pre_of {cs2 : Array Value} {X : List Value} (h : ∀ j, j < X.length → cs2[j]? = X[j]?) (hl : X.length ≤ cs2.size) : X <+: cs2.toList := by
  rw [List.prefix_iff_eq_take]
  apply List.ext_getElem?
  intro j
  rw [List.getElem?_take]
  by_cases hj : j < X.length
  · rw [if_pos hj, ← h j hj]
    simp
  · rw [if_neg hj]
    simp
    omega
theorem cell_same {w w' : World} {x : Nat} (h : w'.heap[x]? = w.heap[x]?) (o : Nat) : w'.cell? ⟨x, o, none⟩ = w.cell? ⟨x, o, none⟩ := by simp only [World.cell?, h]
theorem frozen_same {w w' : World} {x : Nat} (h : w'.heap[x]? = w.heap[x]?) (o : Nat) : w'.frozen? ⟨x, o, none⟩ = w.frozen? ⟨x, o, none⟩ := by simp only [World.frozen?, h]
theorem cell_in {w : World} {g o : Nat} {cs : Array Value} {e : TypeId} {fr : Nat × Nat} (h : w.heap[g]? = some (.cells cs e fr)) (ho : o < cs.size) : ∃ v, w.cell? ⟨g, o, none⟩ = some v := ⟨cs[o], by simp [World.cell?, h, ho]⟩
theorem frozen_in {w : World} {g o : Nat} {cs : Array Value} {e : TypeId} (h : w.heap[g]? = some (.cells cs e (0, 0))) : w.frozen? ⟨g, o, none⟩ = false := by simp [World.frozen?, h]
theorem sz_al {w : World} {x : Obj} : (w.alloc x).heap.size = w.heap.size + 1 := by simp
theorem sc_same {w : World} {g o : Nat} {cs : Array Value} {e : TypeId} {fr : Nat × Nat} {v : Value} (h : w.heap[g]? = some (.cells cs e fr)) : (w.setCell ⟨g, o, none⟩ v).heap[g]? = some (.cells (cs.setIfInBounds o v) e fr) := by
  rw [setCell_eq_setRow w g o cs e fr v h]
  exact setRow_heap w g _ _ _ _ h
theorem sc_other {w : World} {g o x : Nat} {cs : Array Value} {e : TypeId} {fr : Nat × Nat} {v : Value} (h : w.heap[g]? = some (.cells cs e fr)) (hx : x ≠ g) : (w.setCell ⟨g, o, none⟩ v).heap[x]? = w.heap[x]? := by
  rw [setCell_eq_setRow w g o cs e fr v h]
  exact setRow_other w g x _ hx
theorem sc_keeps {w : World} {g o : Nat} {cs : Array Value} {e : TypeId} {fr : Nat × Nat} {v : Value} {I : Nat → Prop} (h : w.heap[g]? = some (.cells cs e fr)) (hI : I g) : Keeps I w (w.setCell ⟨g, o, none⟩ v) := by
  rw [setCell_eq_setRow w g o cs e fr v h]
  have hk := keeps_row (cs := cs.setIfInBounds o v) h
  exact ⟨hk.os, hk.tape, hk.output, hk.size, fun b hb hn => hk.block b hb fun q => hn (q ▸ hI)⟩
theorem keeps_old {w w' : World} {I : Nat → Prop} (h : Keeps (fun x => I x ∨ w.heap.size ≤ x) w w') : Keeps I w w' := ⟨h.os, h.tape, h.output, h.size, fun b hb hn => h.block b hb fun q => by rcases q with q | q; exact hn q; omega⟩
theorem flat_drop_get {l : List Ky} {a j : Nat} (ha : a ≤ l.length) : (flat l)[a * 3 + j]? = (flat (l.drop a))[j]? := by
  have : flat l = flat (l.take a) ++ flat (l.drop a) := by rw [← flat_append, List.take_append_drop]
  have hl : (flat (l.take a)).length = a * 3 := by rw [flat_length, List.length_take, Nat.min_eq_left ha]
  rw [this, List.getElem?_append_right (by omega), hl]
  congr 1
  omega
theorem flat_take_get {l : List Ky} {a j : Nat} {u : Value} (h : (flat (l.take a))[j]? = some u) : (flat l)[j]? = some u := by
  have : flat l = flat (l.take a) ++ flat (l.drop a) := by rw [← flat_append, List.take_append_drop]
  rw [this, List.getElem?_append_left (List.getElem?_eq_some_iff.1 h).1]
  exact h
theorem pre_take {cs : Array Value} {A : List Value} (hf : ∀ (j : Nat) (u : Value), A[j]? = some u → cs[j]? = some u) : cs.toList.take A.length = A := by
  apply List.ext_getElem?
  intro j
  rw [List.getElem?_take]
  by_cases hj : j < A.length
  · have hq : A[j]? = some A[j] := by simp [hj]
    rw [if_pos hj, hq, ← hf j _ hq]
    simp
  · rw [if_neg hj, eq_comm, List.getElem?_eq_none_iff]
    omega
theorem pre_app {cs cs2 : Array Value} {A B : List Value} {N : Nat} (hN : A.length = N) (hf : ∀ (j : Nat) (u : Value), A[j]? = some u → cs[j]? = some u) (h : ∀ j, j < N + B.length → cs2[j]? = (cs.toList.take N ++ B)[j]?) (hl : N + B.length ≤ cs2.size) : (A ++ B) <+: cs2.toList := by
  subst hN
  rw [pre_take hf] at h
  exact pre_of (fun j hj => h j (by simpa using hj)) (by simpa using hl)
theorem seg_one {L X : List Value} (hp : X <+: L) (h1 : ∀ u ∈ X, u.oneCell' = true) {a m : Nat} (h : a + m ≤ X.length) : ∀ u ∈ (L.drop a).take m, u.oneCell' = true := fun u hu => by
  obtain ⟨t, rfl⟩ := hp
  obtain ⟨j, hj⟩ := List.mem_iff_getElem?.1 hu
  rw [List.getElem?_take] at hj
  split at hj
  · rw [List.getElem?_drop, List.getElem?_append_left (by omega)] at hj
    exact h1 u (List.mem_of_getElem? hj)
  · cases hj
theorem ins2 {α : Type} {L : List α} {i : Nat} {x y : α} (h : i < L.length) (j : Nat) : (L.take i ++ x :: y :: L.drop (i + 1))[j]? = if j < i then L[j]? else if j = i then some x else if j = i + 1 then some y else L[j - 1]? := by
  have hl : (L.take i).length = i := by simp; omega
  rw [List.getElem?_append, hl]
  by_cases h1 : j < i
  · rw [if_pos h1, if_pos h1, List.getElem?_take, if_pos h1]
  · rw [if_neg h1, if_neg h1]
    by_cases h2 : j = i
    · subst h2; simp
    · rw [if_neg h2]
      by_cases h3 : j = i + 1
      · subst h3; simp
      · rw [if_neg h3]
        obtain ⟨m, rfl⟩ : ∃ m, j = i + 2 + m := ⟨j - (i + 2), by omega⟩
        rw [show i + 2 + m - i = m + 2 by omega]
        simp only [List.getElem?_cons_succ, List.getElem?_drop]
        congr 1
        omega
section
variable {w w' : World} {b g cap : Nat} {gs : List Nat} {ns : List (List Ky)} {n n' : Int}
/-- A node is exchanged. -/
theorem TL.put (h : TL w b (some g) gs cap ns n) {i : Nat} (hi : i < ns.length) {g2 c2 : Nat} {l' : List Ky} (hb : ∃ e, w'.heap[b]? = some (.cells #[.slice (some ⟨g, 0, none⟩) ns.length cap, .int .i64 n'] e (0, 0)))
    (hg : ∃ cs e, w.heap[g]? = some (.cells cs e (0, 0)) ∧ w'.heap[g]? = some (.cells (cs.setIfInBounds i (.slice (some ⟨g2, 0, none⟩) l'.length c2)) e (0, 0))) (hrow : RowK w' g2 l' c2)
    (ho : ∀ (j x : Nat), j ≠ i → gs[j]? = some x → w'.heap[x]? = w.heap[x]?) (hg2 : gs[i]? = some g2 ∨ (g2 ≠ b ∧ g2 ≠ g ∧ g2 ∉ gs)) : TL w' b (some g) (gs.set i g2) cap (ns.set i l') n' := by
  obtain ⟨h0, cs, e, h1, h2, h4⟩ := h.out g rfl
  obtain ⟨cs', e', q1, q2⟩ := hg
  rw [h1] at q1
  cases q1
  refine ⟨?_, by simpa using h.le, h.mx, by simp, fun g0 hg0 => ?_, by simp [h.len], ?_⟩
  · obtain ⟨e, he⟩ := hb
    exact ⟨e, by rw [he]; simp [adr]⟩
  · cases hg0
    refine ⟨h0, _, _, q2, by simpa using h2, fun j x l hj hl => ?_⟩
    · rw [List.getElem?_set] at hj hl
      by_cases hij : i = j
      · subst hij
        simp [h.len, hi] at hj hl
        subst hj; subst hl
        refine ⟨c2, ?_, hrow⟩
        have : i < cs.size := by have := h.le; omega
        simp [this]
      · rw [if_neg hij] at hj hl
        obtain ⟨c, h5, h6⟩ := h4 j x l hj hl
        refine ⟨c, ?_, h6.loc (ho j x (Ne.symm hij) hj)⟩
        rw [Array.getElem?_setIfInBounds, if_neg hij]
        exact h5
  · have hnd := h.nb
    simp only [Option.toList_some, List.cons_append, List.nil_append] at hnd ⊢
    rcases hg2 with hg2 | ⟨p1, p2, p3⟩
    · have : gs.set i g2 = gs := by
        apply List.ext_getElem?
        intro j
        rw [List.getElem?_set]
        split
        · rename_i hij; subst hij; rw [hg2]; simp; exact (List.getElem?_eq_some_iff.1 hg2).1
        · rfl
      rw [this]
      exact hnd
    · simp only [List.nodup_cons, List.mem_cons, not_or] at hnd ⊢
      obtain ⟨⟨a1, a2⟩, a3, a4⟩ := hnd
      refine ⟨⟨a1, fun hm => ?_⟩, fun hm => ?_, ?_⟩
      · rcases List.mem_or_eq_of_mem_set hm with hm | hm
        · exact a2 hm
        · exact p1 hm.symm
      · rcases List.mem_or_eq_of_mem_set hm with hm | hm
        · exact a3 hm
        · exact p2 hm.symm
      · rw [List.Nodup, List.pairwise_iff_getElem] at a4 ⊢
        intro x y hx hy hxy
        rw [List.length_set] at hx hy
        simp only [List.getElem_set]
        have nm : ∀ z (hz : z < gs.length), gs[z] ≠ g2 := fun z hz q => p3 (q ▸ List.getElem_mem hz)
        split
        · rw [if_neg (by omega)]
          exact fun q => nm y hy q.symm
        · split
          · exact nm x hx
          · exact a4 x y hx hy hxy
end
end Go.Ev

import Derived.Test.YtpjimnjfjopedaaTrM
namespace Go.Ev
open Go
set_option linter.unnecessarySimpa false
set_option linter.unusedSimpArgs false
set_option linter.unusedVariables false
section
variable {ns : List (List Ky)} {k : Ky} {i s : Nat} {l : List Ky}
theorem Spt.mem (h : Good ns) (hs : Spt ns k i s l) : l[s]? = some k ↔ k ∈ ns.flatten := by
  constructor
  · intro he
    rw [hs.all]
    exact List.mem_append.2 (.inr (List.mem_append.2 (.inl (List.mem_of_getElem? he))))
  · intro hm
    rw [hs.all] at hm
    rcases List.mem_append.1 hm with q | q
    · have := hs.ahead k q; rw [kl_irr] at this; cases this
    · rcases List.mem_append.1 q with q | q
      · obtain ⟨j, hj⟩ := List.mem_iff_getElem?.1 q
        rcases Nat.lt_trichotomy j s with h1 | h1 | h1
        · have := hs.pl.lo j k h1 hj; rw [kl_irr] at this; cases this
        · exact h1 ▸ hj
        · have hjl := (List.getElem?_eq_some_iff.1 hj).1
          have hsl : l[s]? = some (l[s]'(by omega)) := by simp [show s < l.length by omega]
          have h2 := srt_lt (h.node hs.at_) h1 hsl hj
          rw [hs.pl.hi s _ (Nat.le_refl _) hsl] at h2
          cases h2
      · have := hs.behind k q; rw [kl_irr] at this; cases this
theorem Spt.lt (hs : Spt ns k i s l) : i < ns.length := (List.getElem?_eq_some_iff.1 hs.at_).1
theorem Spt.lo_ (hs : Spt ns k i s l) : ∀ x ∈ l.take s, kl x k = true := fun x hx => by
  obtain ⟨j, hj⟩ := List.mem_iff_getElem?.1 hx
  rw [List.getElem?_take] at hj
  split at hj
  · rename_i h1; exact hs.pl.lo j x h1 hj
  · cases hj
theorem Spt.hi_ (h : Good ns) (hs : Spt ns k i s l) (hk : l[s]? ≠ some k) : ∀ x ∈ l.drop s, kl k x = true := fun x hx => by
  obtain ⟨j, hj⟩ := List.mem_iff_getElem?.1 hx
  rw [List.getElem?_drop] at hj
  have h1 := hs.pl.hi (s + j) x (by omega) hj
  rcases kl_le h1 with rfl | h2
  · exact absurd ((hs.mem h).2 (by rw [hs.all]; exact List.mem_append.2 (.inr (List.mem_append.2 (.inl (List.mem_of_getElem? hj)))))) hk
  · exact h2
/-- A key put in at its place: the keys stay in order. -/
theorem Spt.ins (h : Good ns) (hs : Spt ns k i s l) (hk : l[s]? ≠ some k) : Srt ((ns.take i).flatten ++ ((l.take s ++ k :: l.drop s) ++ (ns.drop (i + 1)).flatten)) := by
  have hso := h.so
  rw [hs.all] at hso
  have e : ∀ (X Z : List Ky), X ++ (l.take s ++ k :: l.drop s ++ Z) = (X ++ l.take s) ++ k :: (l.drop s ++ Z) := fun X Z => by simp
  have e2 : ∀ (X Z : List Ky), X ++ (l ++ Z) = (X ++ l.take s) ++ (l.drop s ++ Z) := fun X Z => by
    rw [List.append_assoc, ← List.append_assoc (l.take s), List.take_append_drop]
  rw [e]
  rw [e2] at hso
  rw [Srt, List.pairwise_append] at hso ⊢
  obtain ⟨h1, h2, h3⟩ := hso
  have lo : ∀ x ∈ (ns.take i).flatten ++ l.take s, kl x k = true := fun x hx => (List.mem_append.1 hx).elim (hs.ahead x) (hs.lo_ x)
  have hi : ∀ x ∈ l.drop s ++ (ns.drop (i + 1)).flatten, kl k x = true := fun x hx => (List.mem_append.1 hx).elim (hs.hi_ h hk x) (hs.behind x)
  refine ⟨h1, List.pairwise_cons.2 ⟨hi, h2⟩, fun a ha b hb => ?_⟩
  rcases List.mem_cons.1 hb with rfl | hb
  · exact lo a ha
  · exact h3 a ha b hb
end
structure PutL (ns ns' : List (List Ky)) (k : Ky) (f : Bool) : Prop where
  good : Good ns'
  flag : f = !decide (k ∈ ns.flatten)
  mem : ∀ x, x ∈ ns'.flatten ↔ x = k ∨ x ∈ ns.flatten
  len : ns'.flatten.length = ns.flatten.length + f.toNat
theorem put_law {ns : List (List Ky)} (h : Good ns) (hn : ns.flatten.length ≤ 1000000) (k : Ky) : PutL ns (putN ns k).1 k (putN ns k).2 := by
  by_cases h0 : ns = []
  · subst h0
    refine ⟨⟨by simp [putN], by simp [putN, Srt]⟩, by simp [putN], by simp [putN], by simp [putN]⟩
  · obtain ⟨i, s, l, hs⟩ := spt h hn k h0
    have hm := hs.mem h
    unfold putN
    rw [if_neg h0, hs.nx, hs.gd, hs.px]
    by_cases hk : l[s]? = some k
    · rw [if_pos hk]
      refine ⟨h, by simp [hm.1 hk], fun x => ⟨.inr, ?_⟩, by simp⟩
      rintro (rfl | hx)
      · exact hm.1 hk
      · exact hx
    · rw [if_neg hk]
      have hk' : k ∉ ns.flatten := fun q => hk (hm.2 q)
      have hso := hs.ins h hk
      have key : ∀ N : List (List Ky), (∀ m ∈ N, m ≠ [] ∧ m.length ≤ 32) → N.flatten = (ns.take i).flatten ++ ((l.take s ++ k :: l.drop s) ++ (ns.drop (i + 1)).flatten) → PutL ns N k true := fun N hN hf => by
        refine ⟨⟨hN, by rw [hf]; exact hso⟩, by simp [hk'], fun x => ?_, ?_⟩
        · rw [hf, hs.all]
          conv => rhs; rw [← List.take_append_drop s l]
          simp only [List.mem_append, List.mem_cons]
          constructor
          · rintro (q | (q | q | q) | q) <;> simp [q]
          · rintro (q | q | (q | q) | q) <;> simp [q]
        · rw [hf, hs.all]
          conv => rhs; rw [← List.take_append_drop s l]
          simp only [List.length_append, List.length_cons, Bool.toNat_true]
          omega
      have hll : (l.take s ++ k :: l.drop s).length = l.length + 1 := by
        have := hs.pl.le
        simp
        omega
      split
      · refine key _ (fun m hm => ?_) (flatten_set hs.lt _)
        rcases List.mem_or_eq_of_mem_set hm with q | rfl
        · exact h.ne m q
        · exact ⟨by simp, by rw [hll]; omega⟩
      · refine key _ (fun m hm => ?_) ?_
        · rcases List.mem_append.1 hm with q | q
          · exact h.ne m (List.mem_of_mem_take q)
          · have hle := hs.le
            rcases List.mem_cons.1 q with rfl | q
            · refine ⟨fun e => ?_, by rw [List.length_take]; omega⟩
              have := congrArg List.length e
              rw [List.length_take, hll] at this
              simp at this
            · rcases List.mem_cons.1 q with rfl | q
              · refine ⟨fun e => ?_, by rw [List.length_drop, hll]; omega⟩
                have := congrArg List.length e
                rw [List.length_drop, hll] at this
                simp at this
                omega
              · exact h.ne m (List.mem_of_mem_drop q)
        · rw [List.flatten_append, List.flatten_cons, List.flatten_cons, ← List.append_assoc (List.take 16 _), List.take_append_drop]
structure DelL (ns ns' : List (List Ky)) (k : Ky) (f : Bool) : Prop where
  good : Good ns'
  flag : f = decide (k ∈ ns.flatten)
  mem : ∀ x, x ∈ ns'.flatten ↔ x ≠ k ∧ x ∈ ns.flatten
  len : ns'.flatten.length + f.toNat = ns.flatten.length
theorem del_law {ns : List (List Ky)} (h : Good ns) (hn : ns.flatten.length ≤ 1000000) (k : Ky) : DelL ns (delN ns k).1 k (delN ns k).2 := by
  by_cases h0 : ns = []
  · subst h0
    exact ⟨h, by simp [delN], by simp [delN], by simp [delN]⟩
  · obtain ⟨i, s, l, hs⟩ := spt h hn k h0
    have hm := hs.mem h
    unfold delN
    rw [if_neg h0, hs.nx, hs.gd, hs.px]
    by_cases hk : l[s]? = some k
    · rw [if_pos hk]
      have hsl := (List.getElem?_eq_some_iff.1 hk).1
      have hl : l = l.take s ++ k :: l.drop (s + 1) := by
        have : l[s] = k := (List.getElem?_eq_some_iff.1 hk).2
        conv => lhs; rw [← List.take_append_drop s l, ← List.getElem_cons_drop hsl, this]
      have hall := hs.all
      have hso := h.so
      rw [hall] at hso
      have key : ∀ N : List (List Ky), (∀ m ∈ N, m ≠ [] ∧ m.length ≤ 32) → N.flatten = (ns.take i).flatten ++ ((l.take s ++ l.drop (s + 1)) ++ (ns.drop (i + 1)).flatten) → DelL ns N k true := fun N hN hf => by
        have hsub : ((ns.take i).flatten ++ ((l.take s ++ l.drop (s + 1)) ++ (ns.drop (i + 1)).flatten)).Sublist ((ns.take i).flatten ++ (l ++ (ns.drop (i + 1)).flatten)) := by
          refine List.Sublist.append_left (List.Sublist.append_right ?_ _) _
          conv => rhs; rw [hl]
          exact List.Sublist.append_left (List.sublist_cons_self _ _) _
        refine ⟨⟨hN, by rw [hf]; exact hso.sublist hsub⟩, by simp [hm.1 hk], fun x => ?_, ?_⟩
        · rw [hf, hall]
          have hx : ∀ x, x ∈ (ns.take i).flatten ++ ((l.take s ++ l.drop (s + 1)) ++ (ns.drop (i + 1)).flatten) → x ≠ k := fun x hx e => by
            subst e
            rw [hl] at hso
            have e : (ns.take i).flatten ++ (l.take s ++ x :: l.drop (s + 1) ++ (ns.drop (i + 1)).flatten) = ((ns.take i).flatten ++ l.take s) ++ x :: (l.drop (s + 1) ++ (ns.drop (i + 1)).flatten) := by simp
            simp only [← hl] at hso
            rw [show (ns.take i).flatten ++ (l ++ (ns.drop (i + 1)).flatten) = ((ns.take i).flatten ++ l.take s) ++ x :: (l.drop (s + 1) ++ (ns.drop (i + 1)).flatten) by rw [← e, ← hl], Srt, List.pairwise_append] at hso
            obtain ⟨_, h2, h3⟩ := hso
            have h2' := (List.pairwise_cons.1 h2).1
            have : x ∈ ((ns.take i).flatten ++ l.take s) ∨ x ∈ (l.drop (s + 1) ++ (ns.drop (i + 1)).flatten) := by
              simp only [List.mem_append] at hx ⊢
              rcases hx with q | (q | q) | q
              · exact .inl (.inl q)
              · exact .inl (.inr q)
              · exact .inr (.inl q)
              · exact .inr (.inr q)
            rcases this with q | q
            · have := h3 x q x (by simp); rw [kl_irr] at this; cases this
            · have := h2' x q; rw [kl_irr] at this; cases this
          constructor
          · intro q
            exact ⟨hx x q, hsub.subset q⟩
          · rintro ⟨h1, q⟩
            have hlm : x ∈ l → x ∈ l.take s ∨ x ∈ l.drop (s + 1) := fun q => by
              rw [hl] at q
              simp only [List.mem_append, List.mem_cons] at q
              rcases q with q | q | q
              · exact .inl q
              · exact absurd q h1
              · exact .inr q
            simp only [List.mem_append] at q ⊢
            rcases q with q | q | q
            · exact .inl q
            · exact .inr (.inl (hlm q))
            · exact .inr (.inr q)
        · have e1 := congrArg List.length hl
          rw [hf, hall]
          simp only [List.length_append, List.length_cons, Bool.toNat_true] at e1 ⊢
          omega
      split
      · refine key _ (fun m hm => ?_) (flatten_set hs.lt _)
        rcases List.mem_or_eq_of_mem_set hm with q | rfl
        · exact h.ne m q
        · have e1 := congrArg List.length hl
          have hle := hs.le
          simp only [List.length_append, List.length_cons] at e1
          refine ⟨fun e => ?_, by rw [List.length_append]; omega⟩
          have := congrArg List.length e
          rw [List.length_append] at this
          simp only [List.length_nil] at this
          omega
      · have hl1 : l.length = 1 := by omega
        have hs0 : s = 0 := by omega
        refine key _ (fun m hm => h.ne m (List.mem_of_mem_eraseIdx hm)) ?_
        rw [hs0, List.drop_eq_nil_of_le (by omega), List.take_zero, List.append_nil, List.nil_append, List.eraseIdx_eq_take_drop_succ, List.flatten_append]
    · rw [if_neg hk]
      refine ⟨h, (decide_eq_false fun q => hk (hm.2 q)).symm, fun x => ⟨fun q => ⟨fun e => hk (hm.2 (e ▸ q)), q⟩, fun q => q.2⟩, by simp⟩
end Go.Ev

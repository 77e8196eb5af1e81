import Derived.Test.YtpjimnjfjopedaaTrN
namespace Go.Ev
open Go Go.RowKit
set_option linter.unnecessarySimpa false
set_option linter.unusedSimpArgs false
set_option linter.unusedVariables false
def tr (ns : List (List Ky)) : AbsT := treeT ns ns.flatten.length
theorem fpt_out {b : Nat} {og og' : Option Nat} {gs gs' : List Nat} {w : World} (h : ∀ x, Ft b og' gs' x → Ft b og gs x ∨ w.heap.size ≤ x) (hb : (b :: (og'.toList ++ gs')).Nodup) : ∀ j c, fpt og' gs' j = some c → (∃ j', fpt og gs j' = some c) ∨ w.heap.size ≤ c := fun j c hj => by
  have h1 := fpt_iff.1 ⟨j, hj⟩
  rcases h c (.inr h1) with h2 | h2
  · rcases h2 with rfl | h2
    · exfalso
      have := (List.nodup_cons.1 hb).1
      apply this
      rcases h1 with q | q
      · exact List.mem_append.2 (.inl (by rw [q]; simp))
      · exact List.mem_append.2 (.inr q)
    · exact .inl (fpt_iff.2 h2)
  · exact .inr h2
theorem ft_fpt {w w' : World} {b : Nat} {og : Option Nat} {gs : List Nat} (h : Keeps (Ft b og gs) w w') : Keeps (fun x => x = b ∨ ∃ j, fpt og gs j = some x) w w' := h.mono fun x hx => by
  rcases hx with q | q
  · exact .inl q
  · exact .inr (fpt_iff.2 q)
theorem put_t {ns : List (List Ky)} (h : Good ns) (hn : ns.flatten.length ≤ 100000) (k : Ky) : Triple Go.Proofs.Try.prog 12 [.ptr 1000000 0 0, k.av] [.abs (tr ns)] (bl (putN ns k).2) [.abs (tr (putN ns k).1)] := by
  refine triple_abs rfl fun w b φ hQ => ?_
  obtain ⟨og, gs, cap, hT, rfl⟩ := hQ
  have hL := put_law h (by omega) k
  by_cases h0 : ns = []
  · subst h0
    refine (put0_w hT k).mono ?_
    rintro e w' ⟨rfl, og', gs', cap', hT', hK, hF⟩
    exact ⟨rfl, fpt og' gs', ⟨og', gs', cap', hT', rfl⟩, ft_fpt hK, fpt_out hF hT'.nb⟩
  · obtain ⟨i, s, l, hs⟩ := spt h (by omega) k h0
    have hlen := Good.len fun l hl => (h.ne l hl).1
    have hnd := hs.nd
    have hat := hs.at_
    rw [← hs.nx] at hat
    by_cases hk : l[s]? = some k
    · refine (put1_w hT k _ s l hnd hat hs.pl hk).mono ?_
      rintro e w' ⟨rfl, hT', hK⟩
      have hp : putN ns k = (ns, false) := by
        unfold putN
        rw [if_neg h0, hs.nx, hs.gd, hs.px, if_pos hk]
      rw [hp]
      exact ⟨rfl, fpt og gs, ⟨og, gs, cap, hT', rfl⟩, hK _, fun j c hj => .inl ⟨j, hj⟩⟩
    · by_cases hl : l.length < 32
      · refine (put2_w hT k _ s l hnd hat hs.pl hk hl (by omega) (by omega)).mono ?_
        rintro e w' ⟨rfl, gs', hT', hK, hF⟩
        have hp : putN ns k = (ns.set (nodeIx ns k - 1) (l.take s ++ k :: l.drop s), true) := by
          unfold putN
          rw [if_neg h0, hs.nx, hs.gd, hs.px, if_neg hk, if_pos hl]
        rw [hp] at hL ⊢
        refine ⟨rfl, fpt og gs', ⟨og, gs', cap, ?_, rfl⟩, ft_fpt hK, fpt_out hF hT'.nb⟩
        have := hL.len
        simp only [Bool.toNat_true] at this
        rw [this]
        exact hT'
      · refine (put3_w hT k _ s l hnd hat hs.pl hk hs.le (by omega) (by omega) (by omega) (by omega)).mono ?_
        rintro e w' ⟨rfl, og', gs', cap', hT', hK, hF⟩
        have hp : putN ns k = (ns.take (nodeIx ns k - 1) ++ (l.take s ++ k :: l.drop s).take 16 :: (l.take s ++ k :: l.drop s).drop 16 :: ns.drop (nodeIx ns k - 1 + 1), true) := by
          unfold putN
          rw [if_neg h0, hs.nx, hs.gd, hs.px, if_neg hk, if_neg hl]
        rw [hp] at hL ⊢
        refine ⟨rfl, fpt og' gs', ⟨og', gs', cap', ?_, rfl⟩, ft_fpt hK, fpt_out hF hT'.nb⟩
        have := hL.len
        simp only [Bool.toNat_true] at this
        rw [this]
        exact hT'
theorem del_t {ns : List (List Ky)} (h : Good ns) (hn : ns.flatten.length ≤ 100000) (k : Ky) : Triple Go.Proofs.Try.prog 15 [.ptr 1000000 0 0, k.av] [.abs (tr ns)] (bl (delN ns k).2) [.abs (tr (delN ns k).1)] := by
  refine triple_abs rfl fun w b φ hQ => ?_
  obtain ⟨og, gs, cap, hT, rfl⟩ := hQ
  have hL := del_law h (by omega) k
  by_cases h0 : ns = []
  · subst h0
    refine (del0_w hT k).mono ?_
    rintro e w' ⟨rfl, hT', hK⟩
    exact ⟨rfl, fpt og gs, ⟨og, gs, cap, hT', rfl⟩, hK _, fun j c hj => .inl ⟨j, hj⟩⟩
  · obtain ⟨i, s, l, hs⟩ := spt h (by omega) k h0
    have hlen := Good.len fun l hl => (h.ne l hl).1
    have hnd := hs.nd
    have hat := hs.at_
    rw [← hs.nx] at hat
    by_cases hk : l[s]? = some k
    · have hpos : 0 < ns.flatten.length := List.length_pos_iff.2 (List.ne_nil_of_mem ((hs.mem h).1 hk))
      by_cases hl : 2 ≤ l.length
      · refine (del2_w hT k _ s l hnd hat hs.pl hk hl hs.le (by omega) (by omega)).mono ?_
        rintro e w' ⟨rfl, gs', hT', hK, hF⟩
        have hp : delN ns k = (ns.set (nodeIx ns k - 1) (l.take s ++ l.drop (s + 1)), true) := by
          unfold delN
          rw [if_neg h0, hs.nx, hs.gd, hs.px, if_pos hk, if_pos hl]
        rw [hp] at hL ⊢
        refine ⟨rfl, fpt og gs', ⟨og, gs', cap, ?_, rfl⟩, ft_fpt hK, fpt_out hF hT'.nb⟩
        have := hL.len
        simp only [Bool.toNat_true] at this
        rw [show ((ns.set (nodeIx ns k - 1) (l.take s ++ l.drop (s + 1))).flatten.length : Int) = (ns.flatten.length : Int) - 1 by omega]
        exact hT'
      · refine (del3_w hT k _ s l hnd hat hs.pl hk (by omega) (by omega) (by omega) (by omega)).mono ?_
        rintro e w' ⟨rfl, og', gs', cap', hT', hK, hF⟩
        have hp : delN ns k = (ns.eraseIdx (nodeIx ns k - 1), true) := by
          unfold delN
          rw [if_neg h0, hs.nx, hs.gd, hs.px, if_pos hk, if_neg hl]
        rw [hp] at hL ⊢
        refine ⟨rfl, fpt og' gs', ⟨og', gs', cap', ?_, rfl⟩, ft_fpt hK, fpt_out hF hT'.nb⟩
        have := hL.len
        simp only [Bool.toNat_true] at this
        rw [show ((ns.eraseIdx (nodeIx ns k - 1)).flatten.length : Int) = (ns.flatten.length : Int) - 1 by omega]
        exact hT'
    · refine (del1_w hT k _ s l hnd hat hs.pl hk).mono ?_
      rintro e w' ⟨rfl, hT', hK⟩
      have hp : delN ns k = (ns, false) := by
        unfold delN
        rw [if_neg h0, hs.nx, hs.gd, hs.px, if_neg hk]
      rw [hp]
      exact ⟨rfl, fpt og gs, ⟨og, gs, cap, hT', rfl⟩, hK _, fun j c hj => .inl ⟨j, hj⟩⟩
set_option maxRecDepth 100000 in
theorem new_w (w : World) : Calls Go.Proofs.Try.prog 11 #[] w fun e w' => e = .returned (.pointer (some ⟨w.heap.size, 0, none⟩)) ∧ TL w' w.heap.size none [] 0 [] 0 ∧ ∀ I, Keeps I w w' := by
  go_enter Go.Proofs.Try.func11, Go.Proofs.Try.ntmps11
  go_wp2_with fail
  go_ret
  refine ⟨rfl, ⟨⟨_, al_new rfl⟩, by simp, by simp, by simp, by simp, rfl, by simp⟩, fun I => keeps_al⟩
theorem new_t : Triple Go.Proofs.Try.prog 11 [] [] (.ptr 1000000 0 0) [.abs (tr [])] := by
  intro w cargs ρ B hgl hB hM hcs hargs
  have hc : cargs = #[] := by simpa using hcs
  subst hc
  refine (new_w w).mono ?_
  rintro e w' ⟨rfl, hT, hK⟩
  have hno : ∀ b, ¬ Held (ob0 []) ρ b := fun b ⟨_, _, h, _⟩ => by simp [ob0, obs] at h
  have hid : ∀ (T0 : AbsT) id x, ob0 [Ob.abs T0] id = some x → id = 1000000 ∧ x = (0, .abs T0) := fun T0 id x hx => by
    obtain ⟨h1, h2, h3⟩ := ob0_some hx
    have : id - 1000000 = 0 := by
      have := (List.getElem?_eq_some_iff.1 h2).1
      simpa using this
    have hid : id = 1000000 := by omega
    subst hid
    have hob0 : ob0 [Ob.abs T0] 1000000 = some (0, .abs T0) := by simp [ob0, obs, upd]
    rw [hob0] at hx
    exact ⟨rfl, (Option.some.inj hx).symm⟩
  obtain ⟨ρ', h1, h2⟩ : ∃ ρ' : Pl → Option Nat, ρ' (.o 1000000) = some w.heap.size ∧ ∀ j, ρ' (.s 1000000 j) = none := ⟨fun | .o i => if i = 1000000 then some w.heap.size else none | .s i j => none, by simp, by simp⟩
  refine ⟨_, ρ', rfl, ⟨fun id v o hx => ?_, fun id id' x x' c hx hx' _ _ => ?_, hK _, fun id v o c hx hf => ?_, fun id c hp => ?_⟩, ?_⟩
  · obtain ⟨rfl, hx⟩ := hid _ id _ hx
    cases hx
    refine ⟨w.heap.size, h1, none, [], 0, hT, ?_⟩
    funext j
    rw [h2]
    cases j <;> rfl
  · rw [(hid _ id _ hx).1, (hid _ id' _ hx').1]
  · obtain ⟨rfl, hx⟩ := hid _ id _ hx
    cases hx
    rcases hf with hf | ⟨_, j, hf⟩
    · rw [h1] at hf; cases hf; exact .inr (Nat.le_refl _)
    · rw [h2] at hf; cases hf
  · simp [pinOf, obs] at hp
  · exact .ptr 1000000 0 0 _ rfl ⟨0, .abs (tr []), by simp [ob0, obs, upd], Nat.le_refl _, fun _ => ⟨w.heap.size, h1, rfl⟩⟩
end Go.Ev

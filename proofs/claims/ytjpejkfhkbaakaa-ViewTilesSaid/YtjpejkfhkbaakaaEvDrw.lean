import Derived.Test.YtjpejkfhkbaakaaEvOut
import Derived.Orders
namespace Go.Ev
open Go
set_option linter.unnecessarySimpa false
set_option linter.unusedSimpArgs false
set_option linter.unusedVariables false
open Classical in
/-- What a place holds when those of S have been done, each once, in any order: what the last one of them left there. -/
noncomputable def cont {L C : Type} (r : Nat → L → C) (Wt : Nat → L → Prop) (S : Nat → Prop) : Nat → L → C
  | 0, l => r 0 l
  | k + 1, l => if S k ∧ Wt k l then r (k + 1) l else cont r Wt S k l
section
variable {L C : Type} {n : Nat} {r : Nat → L → C} {Wt Us pre : Nat → L → Prop} {S : Nat → Prop} {pr : Nat → Nat → Prop}
theorem cont_at (hoff : ∀ k l, k < n → ¬ Wt k l → r (k + 1) l = r k l) (hap : ∀ i j, i < j → j < n → ¬ pr j i → ∀ l, ¬ (Wt i l ∧ Us j l) ∧ ¬ (Wt j l ∧ Us i l))
    (hS : ∀ j, S j → ∀ i, pr j i → S i) {j : Nat} (hj : j < n) (hn : ¬ S j) (hp : ∀ i, pr j i → S i) {l : L} (hl : Us j l) : cont r Wt S n l = r j l := by
  have h1 : ∀ k, k ≤ j → cont r Wt S k l = r k l := fun k => by
    induction k with
    | zero => intro _; rfl
    | succ k ih =>
      intro hk
      simp only [cont]
      by_cases hw : Wt k l
      · have : S k := hp k (Classical.byContradiction fun hnp => (hap k j (by omega) hj hnp l).1 ⟨hw, hl⟩)
        rw [if_pos ⟨this, hw⟩]
      · rw [if_neg (fun h => hw h.2), ih (by omega), hoff k l (by omega) hw]
  have h2 : ∀ m, j + m ≤ n → cont r Wt S (j + m) l = r j l := fun m => by
    induction m with
    | zero => intro _; exact h1 j (Nat.le_refl _)
    | succ m ih =>
      intro hm
      rw [show j + (m + 1) = (j + m) + 1 by omega]
      simp only [cont]
      rw [if_neg, ih (by omega)]
      rintro ⟨hs, hw⟩
      have hjm : j < j + m := by
        rcases Nat.eq_zero_or_pos m with h | h
        · subst h; exact (hn hs).elim
        · omega
      exact hn (hS _ hs j (Classical.byContradiction fun hnp => (hap j (j + m) hjm (by omega) hnp l).2 ⟨hw, hl⟩))
  have := h2 (n - j) (by omega)
  rwa [show j + (n - j) = n by omega] at this
theorem cont_no {j : Nat} {l : L} (hw : ¬ Wt j l) : ∀ k, cont r Wt (fun i => S i ∨ i = j) k l = cont r Wt S k l
  | 0 => rfl
  | k + 1 => by
    simp only [cont]
    have : ((S k ∨ k = j) ∧ Wt k l) ↔ (S k ∧ Wt k l) := by
      constructor
      · rintro ⟨h | h, h2⟩
        · exact ⟨h, h2⟩
        · subst h; exact (hw h2).elim
      · rintro ⟨h, h2⟩; exact ⟨.inl h, h2⟩
    by_cases h : S k ∧ Wt k l
    · rw [if_pos h, if_pos (this.2 h)]
    · rw [if_neg h, if_neg (fun q => h (this.1 q)), cont_no hw k]
theorem cont_yes (hWU : ∀ k l, k < n → Wt k l → Us k l) (hap : ∀ i j, i < j → j < n → ¬ pr j i → ∀ l, ¬ (Wt i l ∧ Us j l) ∧ ¬ (Wt j l ∧ Us i l))
    (hS : ∀ j, S j → ∀ i, pr j i → S i) {j : Nat} (hj : j < n) (hn : ¬ S j) {l : L} (hw : Wt j l) : cont r Wt (fun i => S i ∨ i = j) n l = r (j + 1) l := by
  have h2 : ∀ m, j + 1 + m ≤ n → cont r Wt (fun i => S i ∨ i = j) (j + 1 + m) l = r (j + 1) l := fun m => by
    induction m with
    | zero =>
      intro _
      simp only [cont]
      rw [if_pos ⟨.inr rfl, hw⟩]
    | succ m ih =>
      intro hm
      rw [show j + 1 + (m + 1) = (j + 1 + m) + 1 by omega]
      simp only [cont]
      rw [if_neg, ih (by omega)]
      rintro ⟨hs | hs, hw'⟩
      · exact hn (hS _ hs j (Classical.byContradiction fun hnp => (hap j (j + 1 + m) (by omega) (by omega) hnp l).2 ⟨hw', hWU j l hj hw⟩))
      · omega
  have := h2 (n - (j + 1)) (by omega)
  rwa [show j + 1 + (n - (j + 1)) = n by omega] at this
theorem cont_all (hoff : ∀ k l, k < n → ¬ Wt k l → r (k + 1) l = r k l) (hS : ∀ k, k < n → S k) {l : L} : ∀ k, k ≤ n → cont r Wt S k l = r k l
  | 0, _ => rfl
  | k + 1, hk => by
    simp only [cont]
    by_cases hw : Wt k l
    · rw [if_pos ⟨hS k (by omega), hw⟩]
    · rw [if_neg (fun h => hw h.2), cont_all hoff hS k (by omega), hoff k l (by omega) hw]
theorem cont_none (hS : ∀ k, ¬ S k) {l : L} : ∀ k, cont r Wt S k l = r 0 l
  | 0 => rfl
  | k + 1 => by
    simp only [cont]
    rw [if_neg (fun h => hS k h.1), cont_none hS k]
theorem countP_lt {p q : Nat → Bool} {j : Nat} (hp : ∀ x, q x = true → p x = true) (h1 : p j = true) (h2 : q j = false) : ∀ {l : List Nat}, j ∈ l → l.countP q < l.countP p
  | x :: l, h => by
    have hle : l.countP q ≤ l.countP p := List.countP_mono_left fun x _ => hp x
    rw [List.countP_cons, List.countP_cons]
    rcases List.mem_cons.1 h with h | h
    · subst h
      rw [h1, h2]
      simp
      omega
    · have := countP_lt hp h1 h2 h
      have : (if q x = true then 1 else 0) ≤ (if p x = true then 1 else 0) := by
        by_cases hq : q x = true
        · rw [if_pos hq, if_pos (hp x hq)]; exact Nat.le_refl _
        · rw [if_neg hq]; exact Nat.zero_le _
      omega
end
def disj (a b : List Nat) : Bool := a.all fun x => !b.contains x
def indep (a b : Lg) : Bool := disj a.d b.us && disj b.d a.us && (disj a.wr b.rd || (a.st && b.ad)) && (disj b.wr a.rd || (b.st && a.ad))
/-- Of any two operations one comes ahead of the other in each order, or they have nothing to do with each other. -/
def apartB (pre : List (List Nat)) (log : List Lg) : Bool :=
  (List.range log.length).all fun j => (List.range j).all fun i => (pre.getD j []).contains i || indep (log.getD i default) (log.getD j default)
/-- Operations in the order of the text, with what they look at and write. -/
def wpD (P : Program) : List PR → List Lg → St → (List Lg → St → Prop) → Prop
  | [], log, s, K => K log s
  | r :: rs, log, s, K => ∃ c : Ans, (r.out P s c).ok ∧ wpD P rs (log ++ [(r.out P s c).lg]) (r.out P s c).st K
theorem wpD_ref {P : Program} {K : List Lg → St → Prop} : ∀ {rs : List PR} {log : List Lg} {s : St}, wpD P rs log s K →
    ∃ (R : Nat → St) (C : Nat → Ans) (log' : List Lg), R 0 = s ∧ log'.length = rs.length ∧ (∀ k r, rs[k]? = some r → (r.out P (R k) (C k)).ok ∧ R (k + 1) = (r.out P (R k) (C k)).st ∧ log'[k]? = some (r.out P (R k) (C k)).lg) ∧ K (log ++ log') (R rs.length)
  | [], log, s, h => ⟨fun _ => s, fun _ => (.undef, []), [], rfl, rfl, by simp, by rw [List.append_nil]; exact h⟩
  | r :: rs, log, s, h => by
    obtain ⟨c, h1, h2⟩ := h
    obtain ⟨R, C, log', g0, g1, g2, g3⟩ := wpD_ref h2
    refine ⟨fun k => match k with | 0 => s | k + 1 => R k, fun k => match k with | 0 => c | k + 1 => C k, (r.out P s c).lg :: log', rfl, by simp [g1], fun k q hk => ?_, by simpa using g3⟩
    cases k with
    | zero => simp at hk; subst hk; exact ⟨h1, g0, by simp⟩
    | succ k => simp at hk; exact ⟨(g2 k q hk).1, (g2 k q hk).2.1, by simpa using (g2 k q hk).2.2⟩
/-- The places of a state: slots, objects, and what of an object an address hangs on. -/
inductive Lc where
  | t (i : Nat)
  | o (i : Nat)
  | p (i : Nat)
inductive Ct where
  | t (x : AV)
  | o (x : Option (Nat × Ob))
  | p (x : Option (Nat × Option Nat))
def place (s : St) : Lc → Ct
  | .t t => .t (s.e t)
  | .o i => .o (s.ob i)
  | .p i => .p (pin (s.ob i))
theorem place_ext {s s' : St} (h : ∀ l, place s l = place s' l) : s = s' := by
  rcases s with ⟨e, ob⟩
  rcases s' with ⟨e', ob'⟩
  have h1 : e = e' := funext fun t => by simpa [place] using h (.t t)
  have h2 : ob = ob' := funext fun t => by simpa [place] using h (.o t)
  rw [h1, h2]
def wrt (log : List Lg) (k : Nat) : Lc → Prop
  | .t t => t ∈ (log.getD k default).d
  | .o i => i ∈ (log.getD k default).wr
  | .p i => i ∈ (log.getD k default).wr ∧ (log.getD k default).st = false
def usd (log : List Lg) (k : Nat) : Lc → Prop
  | .t t => t ∈ (log.getD k default).us
  | .o i => i ∈ (log.getD k default).rd ∧ (log.getD k default).ad = false
  | .p i => i ∈ (log.getD k default).rd
theorem disj_no {a b : List Nat} (h : disj a b = true) {i : Nat} (h1 : i ∈ a) (h2 : i ∈ b) : False := by
  simp only [disj, List.all_eq_true] at h
  have := h i h1
  simp [h2] at this
theorem apartB_no {pre : List (List Nat)} {log : List Lg} (h : apartB pre log = true) {i j : Nat} (hij : i < j) (hj : j < log.length) (hp : ¬ (i ∈ pre.getD j [])) (l : Lc) : ¬ (wrt log i l ∧ usd log j l) ∧ ¬ (wrt log j l ∧ usd log i l) := by
  simp only [apartB, List.all_eq_true, List.mem_range, Bool.or_eq_true] at h
  have h1 := (h j hj i hij).resolve_left (by simpa using hp)
  simp only [indep, Bool.and_eq_true, Bool.or_eq_true] at h1
  obtain ⟨⟨⟨h1, h2⟩, h3⟩, h4⟩ := h1
  cases l with
  | t t => exact ⟨fun ⟨a, b⟩ => disj_no h1 a b, fun ⟨a, b⟩ => disj_no h2 a b⟩
  | o t =>
    refine ⟨fun ⟨a, b⟩ => ?_, fun ⟨a, b⟩ => ?_⟩
    · rcases h3 with h3 | ⟨_, h3⟩
      · exact disj_no h3 a b.1
      · rw [b.2] at h3; cases h3
    · rcases h4 with h4 | ⟨_, h4⟩
      · exact disj_no h4 a b.1
      · rw [b.2] at h4; cases h4
  | p t =>
    refine ⟨fun ⟨a, b⟩ => ?_, fun ⟨a, b⟩ => ?_⟩
    · rcases h3 with h3 | ⟨h3, _⟩
      · exact disj_no h3 a.1 b
      · rw [a.2] at h3; cases h3
    · rcases h4 with h4 | ⟨h4, _⟩
      · exact disj_no h4 a.1 b
      · rw [a.2] at h4; cases h4
theorem us_lg {P : Program} {r : PR} {s : St} {c : Ans} : (r.out P s c).lg.us = gus r.g ++ (r.x.us ++ r.d.toList) ∧ (r.out P s c).lg.d = r.d.toList := by
  rcases r with ⟨d, g, u, x⟩
  unfold PR.out
  simp only
  generalize yes s.e g = y
  rcases y with _ | b
  · cases x <;> exact ⟨rfl, rfl⟩
  · cases x with
    | see o => exact ⟨rfl, rfl⟩
    | act o => cases b <;> exact ⟨rfl, rfl⟩
    | call f xs => cases b with
      | false => exact ⟨rfl, rfl⟩
      | true =>
        simp only [PX.out]
        generalize argL s.ob (barel s.e xs) = q
        rcases q with _ | ⟨as, l⟩
        · exact ⟨rfl, rfl⟩
        · simp only [callO]
          generalize takeL _ _ _ = po
          cases po <;> exact ⟨rfl, rfl⟩
    | callv x xs => cases b with
      | false => exact ⟨rfl, rfl⟩
      | true =>
        simp only [PX.out]
        generalize (x.ev s.e).bare = y
        cases y with
        | fn f cap k => cases f with
          | func f =>
            simp only [callV]
            generalize argL s.ob (cap.take k ++ (barel s.e xs ++ cap.drop k)) = q
            rcases q with _ | ⟨as, l⟩
            · exact ⟨rfl, rfl⟩
            · simp only [callO]
              generalize takeL _ _ _ = po
              cases po <;> exact ⟨rfl, rfl⟩
          | _ => exact ⟨rfl, rfl⟩
        | _ => exact ⟨rfl, rfl⟩
theorem chkPre_spec {ops : Array Oper} {pre : List (List Nat)} (h : chkPre ops pre = true) {j : Nat} {o : Oper} (ho : ops[j]? = some o) :
    (∀ e ∈ o.after, Region.binds .any e = true → e.on < j) ∧ ∀ k, k ∈ pre.getD j [] → ∃ e ∈ o.after, Region.binds .any e = true ∧ (e.on = k ∨ k ∈ pre.getD e.on []) := by
  simp only [chkPre, Bool.and_eq_true, List.all_eq_true, List.mem_range] at h
  have h1 := h.2 j (Array.getElem?_eq_some_iff.1 ho).1
  rw [ho] at h1
  rcases hp : pre[j]? with _ | p
  · rw [hp] at h1; cases h1
  · rw [hp] at h1
    simp only [Bool.and_eq_true, List.all_eq_true, Array.all_eq_true_iff_forall_mem] at h1
    refine ⟨fun e he hb => ?_, fun k hk => ?_⟩
    · have := h1.1 e he
      rw [hb] at this
      simpa using this
    · have hpk : pre.getD j [] = p := by simp [List.getD_eq_getElem?_getD, hp]
      rw [hpk] at hk
      have := (h1.2 k hk).2
      rw [Array.any_eq_true'] at this
      obtain ⟨e, he, hb⟩ := this
      simp only [Bool.and_eq_true, Bool.or_eq_true, beq_iff_eq, List.contains_iff_mem] at hb
      exact ⟨e, he, hb.1, hb.2⟩
end Go.Ev

import Derived.Test.YtpjimnjfjopedaaTrD3
namespace Go.Ev
open Go
set_option linter.unnecessarySimpa false
set_option linter.unusedSimpArgs false
set_option linter.unusedVariables false
theorem kl_irr (a : Ky) : kl a a = false := by simp [kl]
theorem kl_trans {a b c : Ky} (h1 : kl a b = true) (h2 : kl b c = true) : kl a c = true := by
  unfold kl at *
  split at h1 <;> split at h2 <;> split <;> (try split at h1) <;> (try split at h2) <;> (try split) <;> simp at * <;> omega
theorem kl_tot {a b : Ky} (h1 : kl a b = false) (h2 : kl b a = false) : a = b := by
  rcases a with ⟨a1, a2, a3⟩
  rcases b with ⟨b1, b2, b3⟩
  unfold kl at *
  simp only [Ky.mk.injEq]
  split at h1 <;> split at h2 <;> (try split at h1) <;> (try split at h2) <;> simp at * <;> omega
theorem kl_asym {a b : Ky} (h1 : kl a b = true) : kl b a = false := by
  cases h : kl b a
  · rfl
  · have := kl_trans h1 h
    rw [kl_irr] at this
    cases this
theorem kl_le {a b : Ky} (h1 : kl b a = false) : a = b ∨ kl a b = true := by
  cases h : kl a b
  · exact .inl (kl_tot h h1)
  · exact .inr rfl
abbrev Srt (l : List Ky) : Prop := l.Pairwise fun a b => kl a b = true
structure Good (ns : List (List Ky)) : Prop where
  ne : ∀ l ∈ ns, l ≠ [] ∧ l.length ≤ 32
  so : Srt ns.flatten
def nk (k : Ky) : List Ky → Bool
  | q :: _ => kl k q
  | [] => true
def nodeIx (ns : List (List Ky)) (k : Ky) : Nat := ns.findIdx (nk k)
def plc (l : List Ky) (k : Ky) : Nat := l.findIdx fun q => !kl q k
theorem srt_lt {l : List Ky} (h : Srt l) {i j : Nat} {a b : Ky} (hij : i < j) (ha : l[i]? = some a) (hb : l[j]? = some b) : kl a b = true := by
  obtain ⟨hi, rfl⟩ := List.getElem?_eq_some_iff.1 ha
  obtain ⟨hj, rfl⟩ := List.getElem?_eq_some_iff.1 hb
  exact List.pairwise_iff_getElem.1 h i j hi hj hij
theorem plc_ok {l : List Ky} (h : Srt l) (k : Ky) : Plc l k (plc l k) := by
  refine ⟨List.findIdx_le_length, fun i q hi hq => ?_, fun i q hi hq => ?_⟩
  · obtain ⟨hl, rfl⟩ := List.getElem?_eq_some_iff.1 hq
    have := List.not_of_lt_findIdx hi
    simpa using this
  · obtain ⟨hl, rfl⟩ := List.getElem?_eq_some_iff.1 hq
    have hs : plc l k < l.length := by omega
    have h0 : kl l[plc l k] k = false := by
      have := List.findIdx_getElem (w := hs)
      simp only [Bool.not_eq_true'] at this
      exact this
    by_cases he : plc l k = i
    · subst he; exact h0
    · have h1 := srt_lt h (show plc l k < i by omega) (List.getElem?_eq_getElem hs) (List.getElem?_eq_getElem hl)
      cases h2 : kl l[i] k
      · rfl
      · rw [kl_trans h1 h2] at h0; cases h0
theorem Good.node {ns : List (List Ky)} (h : Good ns) {i : Nat} {l : List Ky} (hl : ns[i]? = some l) : Srt l := (List.pairwise_flatten.1 h.so).1 l (List.mem_of_getElem? hl)
theorem Good.apart {ns : List (List Ky)} (h : Good ns) {i j : Nat} {l m : List Ky} (hij : i < j) (hl : ns[i]? = some l) (hm : ns[j]? = some m) : ∀ x ∈ l, ∀ y ∈ m, kl x y = true := by
  obtain ⟨hi, rfl⟩ := List.getElem?_eq_some_iff.1 hl
  obtain ⟨hj, rfl⟩ := List.getElem?_eq_some_iff.1 hm
  exact List.pairwise_iff_getElem.1 (List.pairwise_flatten.1 h.so).2 i j hi hj hij
theorem Good.len {ns : List (List Ky)} (h : ∀ l ∈ ns, l ≠ []) : ns.length ≤ ns.flatten.length := by
  induction ns with
  | nil => simp
  | cons l ns ih =>
    have h1 : l ≠ [] := h l (by simp)
    have h2 := ih fun l hl => h l (by simp [hl])
    have h3 : 0 < l.length := List.length_pos_iff.2 h1
    simp only [List.length_cons, List.flatten_cons, List.length_append]
    omega
theorem nodeIx_ok {ns : List (List Ky)} (h : Good ns) (hn : ns.flatten.length ≤ 1000000) (k : Ky) : Nod ns k (nodeIx ns k) := by
  refine ⟨List.findIdx_le_length, ?_, fun i l hl => ?_, fun i q x hi hq => ?_, fun i q x hi hq => ?_⟩
  · have := Good.len fun l hl => (h.ne l hl).1
    simp only [maxLen]
    omega
  · have := h.ne l (List.mem_of_getElem? hl)
    exact ⟨this.1, by simp only [maxLen]; omega⟩
  · obtain ⟨hl, hx⟩ := List.getElem?_eq_some_iff.1 hq
    have := List.not_of_lt_findIdx hi
    rw [hx] at this
    simpa [nk] using this
  · obtain ⟨hl, hx⟩ := List.getElem?_eq_some_iff.1 hq
    have hs : nodeIx ns k < ns.length := by omega
    have h0 : nk k ns[nodeIx ns k] = true := List.findIdx_getElem (w := hs)
    by_cases he : nodeIx ns k = i
    · have : ns[nodeIx ns k] = q :: x := by subst he; exact hx
      rw [this] at h0
      exact h0
    · rcases hq0 : ns[nodeIx ns k] with _ | ⟨q0, x0⟩
      · exact absurd hq0 (h.ne _ (List.getElem_mem hs)).1
      · rw [hq0] at h0
        have h1 := h.apart (show nodeIx ns k < i by omega) ((List.getElem?_eq_getElem hs).trans (by rw [hq0])) hq q0 (by simp) q (by simp)
        exact kl_trans h0 h1
/-- What Put makes of the nodes. -/
def putN (ns : List (List Ky)) (k : Ky) : List (List Ky) × Bool :=
  if ns = [] then ([[k]], true) else
    if (ns.getD (nodeIx ns k - 1) [])[plc (ns.getD (nodeIx ns k - 1) []) k]? = some k then (ns, false) else
      if (ns.getD (nodeIx ns k - 1) []).length < 32 then
        (ns.set (nodeIx ns k - 1) ((ns.getD (nodeIx ns k - 1) []).take (plc (ns.getD (nodeIx ns k - 1) []) k) ++ k :: (ns.getD (nodeIx ns k - 1) []).drop (plc (ns.getD (nodeIx ns k - 1) []) k)), true)
      else
        (ns.take (nodeIx ns k - 1) ++ ((ns.getD (nodeIx ns k - 1) []).take (plc (ns.getD (nodeIx ns k - 1) []) k) ++ k :: (ns.getD (nodeIx ns k - 1) []).drop (plc (ns.getD (nodeIx ns k - 1) []) k)).take 16 ::
          ((ns.getD (nodeIx ns k - 1) []).take (plc (ns.getD (nodeIx ns k - 1) []) k) ++ k :: (ns.getD (nodeIx ns k - 1) []).drop (plc (ns.getD (nodeIx ns k - 1) []) k)).drop 16 :: ns.drop (nodeIx ns k - 1 + 1), true)
/-- What Del makes of the nodes. -/
def delN (ns : List (List Ky)) (k : Ky) : List (List Ky) × Bool :=
  if ns = [] then (ns, false) else
    if (ns.getD (nodeIx ns k - 1) [])[plc (ns.getD (nodeIx ns k - 1) []) k]? = some k then
      if 2 ≤ (ns.getD (nodeIx ns k - 1) []).length then
        (ns.set (nodeIx ns k - 1) ((ns.getD (nodeIx ns k - 1) []).take (plc (ns.getD (nodeIx ns k - 1) []) k) ++ (ns.getD (nodeIx ns k - 1) []).drop (plc (ns.getD (nodeIx ns k - 1) []) k + 1)), true)
      else (ns.eraseIdx (nodeIx ns k - 1), true)
    else (ns, false)
/-- Where a key's node is, and what lies ahead of it and behind it. -/
structure Spt (ns : List (List Ky)) (k : Ky) (i s : Nat) (l : List Ky) : Prop where
  nx : nodeIx ns k - 1 = i
  nd : Nod ns k (nodeIx ns k)
  at_ : ns[i]? = some l
  gd : ns.getD i [] = l
  px : plc l k = s
  pl : Plc l k s
  ahead : ∀ x ∈ (ns.take i).flatten, kl x k = true
  behind : ∀ x ∈ (ns.drop (i + 1)).flatten, kl k x = true
  all : ns.flatten = (ns.take i).flatten ++ (l ++ (ns.drop (i + 1)).flatten)
  ne : l ≠ []
  le : l.length ≤ 32
theorem spt {ns : List (List Ky)} (h : Good ns) (hn : ns.flatten.length ≤ 1000000) (k : Ky) (h0 : ns ≠ []) : ∃ i s l, Spt ns k i s l := by
  have hN := nodeIx_ok h hn k
  have hpos : 0 < ns.length := List.length_pos_iff.2 h0
  have hi : nodeIx ns k - 1 < ns.length := by have := hN.le; omega
  have hl : ns[nodeIx ns k - 1]? = some ns[nodeIx ns k - 1] := List.getElem?_eq_getElem hi
  obtain ⟨l, hll⟩ : ∃ l, ns[nodeIx ns k - 1] = l := ⟨_, rfl⟩
  rw [hll] at hl
  have hne := h.ne l (List.mem_of_getElem? hl)
  refine ⟨nodeIx ns k - 1, plc l k, l, rfl, hN, hl, by simp [List.getD, hl], rfl, plc_ok (h.node hl) k, fun x hx => ?_, fun x hx => ?_, ?_, hne.1, hne.2⟩
  · obtain ⟨m, hm, hxm⟩ := List.mem_flatten.1 hx
    obtain ⟨j, hj⟩ := List.mem_iff_getElem?.1 hm
    rw [List.getElem?_take] at hj
    split at hj
    · rename_i hji
      obtain ⟨q, t, rfl⟩ := List.exists_cons_of_ne_nil hne.1
      have h1 := h.apart hji hj hl x hxm q (by simp)
      have h2 := hN.lo (nodeIx ns k - 1) q t (by omega) hl
      rcases kl_le h2 with rfl | h3
      · exact h1
      · exact kl_trans h1 h3
    · cases hj
  · obtain ⟨m, hm, hxm⟩ := List.mem_flatten.1 hx
    obtain ⟨j, hj⟩ := List.mem_iff_getElem?.1 hm
    rw [List.getElem?_drop] at hj
    have hnm := (h.ne m (List.mem_of_getElem? hj)).1
    obtain ⟨q, t, rfl⟩ := List.exists_cons_of_ne_nil hnm
    have h1 := hN.hi _ q t (by omega) hj
    rcases List.mem_cons.1 hxm with rfl | hxt
    · exact h1
    · have h2 := h.node hj
      exact kl_trans h1 (List.rel_of_pairwise_cons h2 hxt)
  · have e1 : ns = ns.take (nodeIx ns k - 1) ++ l :: ns.drop (nodeIx ns k - 1 + 1) := by
      rw [← hll, List.getElem_cons_drop, List.take_append_drop]
    conv => lhs; rw [e1]
    simp
theorem flatten_set {ns : List (List Ky)} {i : Nat} (hi : i < ns.length) (m : List Ky) : (ns.set i m).flatten = (ns.take i).flatten ++ (m ++ (ns.drop (i + 1)).flatten) := by
  rw [List.set_eq_take_append_cons_drop, if_pos hi]
  simp
end Go.Ev

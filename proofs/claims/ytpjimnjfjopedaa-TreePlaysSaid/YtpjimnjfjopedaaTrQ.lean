import Derived.Test.YtpjimnjfjopedaaTrL
namespace Go.Ev
open Go
set_option linter.unnecessarySimpa false
set_option linter.unusedSimpArgs false
set_option linter.unusedVariables false
def kc (k : Ky) : List Value := [.int .u64 k.c, .int .i64 k.v, .int .i64 k.d]
def flat (l : List Ky) : List Value := l.flatMap kc
theorem flat_length (l : List Ky) : (flat l).length = l.length * 3 := by
  induction l with
  | nil => rfl
  | cons k l ih => simp only [flat, List.flatMap_cons, List.length_append, List.length_cons] at ih ⊢; rw [ih]; simp [kc]; omega
theorem flat_get {l : List Ky} {i j : Nat} {k : Ky} (h : l[i]? = some k) (hj : j < 3) : (flat l)[i * 3 + j]? = (kc k)[j]? := by
  have : ∀ (l : List Ky) (i : Nat), l[i]? = some k → (flat l)[i * 3 + j]? = (kc k)[j]? := fun l => by
    induction l with
    | nil => intro i h; simp at h
    | cons q l ih =>
      intro i h
      cases i with
      | zero =>
        simp at h
        subst h
        simp only [flat, List.flatMap_cons]
        rw [List.getElem?_append_left (by simp [kc]; omega)]
        simp
      | succ i =>
        simp at h
        simp only [flat, List.flatMap_cons]
        rw [List.getElem?_append_right (by simp [kc]; omega), ← ih i h]
        congr 1
        simp [kc]
        omega
  exact this l i h
theorem flat_one {l : List Ky} : ∀ u ∈ flat l, u.oneCell' = true := fun u hu => by
  simp only [flat, List.mem_flatMap, kc] at hu
  obtain ⟨k, _, hk⟩ := hu
  simp at hk
  rcases hk with rfl | rfl | rfl <;> rfl
/-- A row of keys lies in a block of its own. -/
def RowK (w : World) (g : Nat) (l : List Ky) (c : Nat) : Prop := ∃ (cs : Array Value) (e : TypeId), w.heap[g]? = some (.cells cs e (0, 0)) ∧ c * 3 ≤ cs.size ∧ (∀ (j : Nat) (u : Value), (flat l)[j]? = some u → cs[j]? = some u) ∧ l.length ≤ c ∧ 0 < c ∧ c ≤ maxLen
theorem RowK.loc {w w' : World} {g c : Nat} {l : List Ky} (h : RowK w g l c) (hw : w'.heap[g]? = w.heap[g]?) : RowK w' g l c := by
  obtain ⟨cs, e, h1, h2⟩ := h
  exact ⟨cs, e, by rw [hw]; exact h1, h2⟩
theorem RowK.lt {w : World} {g c : Nat} {l : List Ky} (h : RowK w g l c) : g < w.heap.size := by
  obtain ⟨cs, e, h1, h2⟩ := h
  exact (Array.getElem?_eq_some_iff.1 h1).1
theorem RowK.rel {w : World} {g c : Nat} {l : List Ky} (h : RowK w g l c) {R : Nat → Prop} (hR : R g) : RelV w R (keys l) (.slice (some ⟨g, 0, none⟩) l.length c) := by
  obtain ⟨cs, e, h1, h2, h3, h4, h5, h6⟩ := h
  have key := RelV.sl (w := w) (R := R) 3 (l.map Ky.rv) (some ⟨g, 0, none⟩) c (by simpa using h4) h6 g 0 (fun i j => (cs[i * 3 + j]?).getD undef) (fun _ => ⟨rfl, hR⟩)
  have cell : ∀ (i : Nat) (x : RV) (j : Nat) (y : RV), (l.map Ky.rv)[i]? = some x → x.cells[j]? = some y → ∃ u, y = .v u ∧ cs[i * 3 + j]? = some u ∧ u.oneCell' = true := fun i x j y hi hj => by
    rw [List.getElem?_map, Option.map_eq_some_iff] at hi
    obtain ⟨k, hk, rfl⟩ := hi
    have hj3 : j < 3 := by have := (List.getElem?_eq_some_iff.1 hj).1; simpa [Ky.rv, RV.cells] using this
    have hf := flat_get hk hj3
    match j, hj3, hj, hf with
    | 0, _, hj, hf => simp [Ky.rv, RV.cells] at hj; subst hj; exact ⟨_, rfl, h3 _ _ hf, rfl⟩
    | 1, _, hj, hf => simp [Ky.rv, RV.cells] at hj; subst hj; exact ⟨_, rfl, h3 _ _ hf, rfl⟩
    | 2, _, hj, hf => simp [Ky.rv, RV.cells] at hj; subst hj; exact ⟨_, rfl, h3 _ _ hf, rfl⟩
  have := key (fun i x hi => by
      rw [List.getElem?_map, Option.map_eq_some_iff] at hi
      obtain ⟨k, hk, rfl⟩ := hi
      rfl) (fun i x j y hi hj => by
      obtain ⟨u, rfl, h, h'⟩ := cell i x j y hi hj
      simp only [World.cell?, h1, Option.isSome_none, Bool.false_eq_true, if_false, Nat.zero_add, h, Option.getD_some]
      exact ⟨trivial, h'⟩) (fun i x j y hi hj => by
      obtain ⟨u, rfl, h, h'⟩ := cell i x j y hi hj
      simp only [h, Option.getD_some]
      exact .v u)
  simpa [keys] using this
def adr (og : Option Nat) : Option Addr := og.map fun g => ⟨g, 0, none⟩
/-- How a tree lies: b: its root; og: the block of its nodes' slices; gs: those of the nodes. -/
structure TL (w : World) (b : Nat) (og : Option Nat) (gs : List Nat) (cap : Nat) (ns : List (List Ky)) (n : Int) : Prop where
  hd : ∃ e, w.heap[b]? = some (.cells #[.slice (adr og) ns.length cap, .int .i64 n] e (0, 0))
  le : ns.length ≤ cap
  mx : cap ≤ maxLen
  no : og = none → cap = 0
  out : ∀ g, og = some g → 0 < cap ∧ ∃ cs e, w.heap[g]? = some (.cells cs e (0, 0)) ∧ cap ≤ cs.size ∧ ∀ (i g' : Nat) (l : List Ky), gs[i]? = some g' → ns[i]? = some l → ∃ c, cs[i]? = some (.slice (some ⟨g', 0, none⟩) l.length c) ∧ RowK w g' l c
  len : gs.length = ns.length
  nb : (b :: (og.toList ++ gs)).Nodup
def Ft (b : Nat) (og : Option Nat) (gs : List Nat) (x : Nat) : Prop := x = b ∨ og = some x ∨ x ∈ gs
section
variable {w w' : World} {b cap : Nat} {og : Option Nat} {gs : List Nat} {ns : List (List Ky)} {n : Int}
theorem TL.loc (h : TL w b og gs cap ns n) (hw : ∀ x, Ft b og gs x → w'.heap[x]? = w.heap[x]?) : TL w' b og gs cap ns n := by
  refine ⟨?_, h.le, h.mx, h.no, fun g hg => ?_, h.len, h.nb⟩
  · obtain ⟨e, he⟩ := h.hd
    exact ⟨e, by rw [hw b (.inl rfl)]; exact he⟩
  · obtain ⟨h0, cs, e, h1, h2, h4⟩ := h.out g hg
    refine ⟨h0, cs, e, by rw [hw g (.inr (.inl hg))]; exact h1, h2, fun i g' l hi hl => ?_⟩
    obtain ⟨c, h5, h6⟩ := h4 i g' l hi hl
    exact ⟨c, h5, h6.loc (hw g' (.inr (.inr (List.mem_of_getElem? hi))))⟩
theorem TL.lt (h : TL w b og gs cap ns n) : ∀ x, Ft b og gs x → x < w.heap.size := fun x hx => by
  rcases hx with rfl | hx | hx
  · obtain ⟨e, he⟩ := h.hd
    exact (Array.getElem?_eq_some_iff.1 he).1
  · obtain ⟨h0, cs, e, h1, _⟩ := h.out x hx
    exact (Array.getElem?_eq_some_iff.1 h1).1
  · obtain ⟨i, hi⟩ := List.mem_iff_getElem?.1 hx
    have hin := (List.getElem?_eq_some_iff.1 hi).1
    rw [h.len] at hin
    rcases og with _ | g
    · have := h.no rfl; have := h.le; omega
    · obtain ⟨h0, cs, e, h1, h2, h4⟩ := h.out g rfl
      obtain ⟨c, _, h6⟩ := h4 i x ns[i] hi (by simp [hin])
      exact h6.lt
theorem TL.rel (h : TL w b og gs cap ns n) {R : Nat → Prop} (hR : ∀ x, Ft b og gs x → R x) : RelV w R (.sl 1 (ns.map keys)) (.slice (adr og) ns.length cap) := by
  rcases og with _ | g
  · have h0 := h.no rfl
    have h1 := h.le
    have h2 : ns = [] := List.eq_nil_of_length_eq_zero (by omega)
    subst h2
    subst h0
    exact .sl 1 [] none 0 (by simp) (by simp) 0 0 (fun _ _ => undef) (by simp) (by simp) (by simp) (by simp)
  · obtain ⟨h0, cs, e, h1, h2, h4⟩ := h.out g rfl
    have node : ∀ (i : Nat) (x : RV), (ns.map keys)[i]? = some x → ∃ l g' c, ns[i]? = some l ∧ x = keys l ∧ gs[i]? = some g' ∧ cs[i]? = some (.slice (some ⟨g', 0, none⟩) l.length c) ∧ RowK w g' l c := fun i x hi => by
      rw [List.getElem?_map, Option.map_eq_some_iff] at hi
      obtain ⟨l, hl, rfl⟩ := hi
      have hlt := (List.getElem?_eq_some_iff.1 hl).1
      have hg' : gs[i]? = some (gs[i]'(by rw [h.len]; exact hlt)) := by simp [h.len, hlt]
      obtain ⟨c, h5, h6⟩ := h4 i _ l hg' hl
      exact ⟨l, _, c, hl, rfl, hg', h5, h6⟩
    have key := RelV.sl (w := w) (R := R) 1 (ns.map keys) (some ⟨g, 0, none⟩) cap (by simpa using h.le) h.mx g 0 (fun i _ => (cs[i]?).getD undef) (fun _ => ⟨rfl, hR g (.inr (.inl rfl))⟩) (fun i x hi => by
        obtain ⟨l, g', c, _, rfl, _⟩ := node i x hi
        rfl) (fun i x j y hi hj => by
        obtain ⟨l, g', c, _, rfl, _, h5, _⟩ := node i x hi
        have : j = 0 := by have := (List.getElem?_eq_some_iff.1 hj).1; simp [keys, RV.cells] at this; exact this
        subst this
        simp only [World.cell?, h1, Option.isSome_none, Bool.false_eq_true, if_false, Nat.zero_add, Nat.mul_one, Nat.add_zero, h5, Option.getD_some]
        exact ⟨trivial, rfl⟩) (fun i x j y hi hj => by
        obtain ⟨l, g', c, _, rfl, h7, h5, h6⟩ := node i x hi
        have : j = 0 := by have := (List.getElem?_eq_some_iff.1 hj).1; simp [keys, RV.cells] at this; exact this
        subst this
        simp [keys, RV.cells] at hj
        subst hj
        simp only [h5, Option.getD_some]
        exact h6.rel (hR g' (.inr (.inr (List.mem_of_getElem? h7)))))
    simpa [adr] using key
theorem TL.rp (h : TL w b og gs cap ns n) {R : Nat → Prop} (hR : ∀ x, Ft b og gs x → R x) :
    ∃ g : Nat → Value, ∀ (j : Nat) (y : RV), (tview ns n)[j]? = some y → w.cell? ⟨b, 0 + j, none⟩ = some (g j) ∧ (g j).oneCell' = true ∧ RelV w R y (g j) := by
  obtain ⟨e, he⟩ := h.hd
  refine ⟨fun j => (#[Value.slice (adr og) ns.length cap, .int .i64 n][j]?).getD undef, fun j y hj => ?_⟩
  match j, hj with
  | 0, hj =>
    simp [tview] at hj
    subst hj
    refine ⟨by simp [World.cell?, he], rfl, h.rel hR⟩
  | 1, hj =>
    simp [tview] at hj
    subst hj
    exact ⟨by simp [World.cell?, he], rfl, .v _⟩
  | j + 2, hj => simp [tview] at hj
/-- The footprint as places. -/
def fpt (og : Option Nat) (gs : List Nat) : Nat → Option Nat
  | 0 => og
  | j + 1 => gs[j]?
theorem fpt_iff {x : Nat} : (∃ j, fpt og gs j = some x) ↔ (og = some x ∨ x ∈ gs) := by
  constructor
  · rintro ⟨j, hj⟩
    cases j with
    | zero => exact .inl hj
    | succ j => exact .inr (List.mem_of_getElem? hj)
  · rintro (h | h)
    · exact ⟨0, h⟩
    · obtain ⟨i, hi⟩ := List.mem_iff_getElem?.1 h
      exact ⟨i + 1, hi⟩
end
/-- A tree. -/
def treeT (ns : List (List Ky)) (n : Int) : AbsT where
  size := 2
  Q w b φ := ∃ og gs cap, TL w b og gs cap ns n ∧ φ = fpt og gs
  loc := by
    rintro w w' b φ ⟨og, gs, cap, h, rfl⟩ hb hj
    refine ⟨og, gs, cap, h.loc fun x hx => ?_, rfl⟩
    rcases hx with rfl | hx
    · exact hb
    · obtain ⟨j, hj'⟩ := fpt_iff.2 hx
      exact hj j x hj'
  root := by
    rintro w b φ ⟨og, gs, cap, h, rfl⟩
    obtain ⟨e, he⟩ := h.hd
    exact ⟨_, e, he, rfl⟩
  lt := by
    rintro w b φ ⟨og, gs, cap, h, rfl⟩ j c hj
    exact h.lt c (.inr (fpt_iff.1 ⟨j, hj⟩))
  view := tview ns n
  rp := by
    rintro w b φ R ⟨og, gs, cap, h, rfl⟩ hb hj
    refine h.rp fun x hx => ?_
    rcases hx with rfl | hx
    · exact hb
    · obtain ⟨j, hj'⟩ := fpt_iff.2 hx
      exact hj j x hj'
end Go.Ev

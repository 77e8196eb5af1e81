import Derived.Test.YtocfnfcflljooaaM6
namespace Go.Ev
open Go
set_option linter.unusedSectionVars false
set_option linter.unnecessarySimpa false
set_option linter.unusedSimpArgs false
set_option linter.unusedVariables false
def kc (k : Ky) : List Value := [.int .u64 k.c, .int .i64 k.v, .int .i64 k.d]
def flat (l : List Ky) : List Value := l.flatMap kc
theorem flat_length (l : List Ky) : (flat l).length = l.length * 3 := by
  induction l with
  | nil => rfl
  | cons k l ih => simp only [flat, List.flatMap_cons, List.length_append, List.length_cons] at ih ⊢; rw [ih]; simp [kc]; omega
theorem flat_get {l : List Ky} {i j : Nat} {k : Ky} (h : l[i]? = some k) (hj : j < 3) : (flat l)[i * 3 + j]? = (kc k)[j]? := by
  have : ∀ (l : List Ky) (i : Nat), l[i]? = some k → (flat l)[i * 3 + j]? = (kc k)[j]? := fun l => by
    induction l with
    | nil => intro i h; simp at h
    | cons q l ih =>
      intro i h
      cases i with
      | zero =>
        simp at h
        subst h
        simp only [flat, List.flatMap_cons]
        rw [List.getElem?_append_left (by simp [kc]; omega)]
        simp
      | succ i =>
        simp at h
        simp only [flat, List.flatMap_cons]
        rw [List.getElem?_append_right (by simp [kc]; omega), ← ih i h]
        congr 1
        simp [kc]
        omega
  exact this l i h
theorem flat_one {l : List Ky} : ∀ u ∈ flat l, u.oneCell' = true := fun u hu => by
  simp only [flat, List.mem_flatMap, kc] at hu
  obtain ⟨k, _, hk⟩ := hu
  simp at hk
  rcases hk with rfl | rfl | rfl <;> rfl
/-- A row of keys lies in a block of its own. -/
def RowK (w : World) (g : Nat) (l : List Ky) (c : Nat) : Prop := ∃ (cs : Array Value) (e : TypeId), w.heap[g]? = some (.cells cs e (0, 0)) ∧ c * 3 ≤ cs.size ∧ (∀ (j : Nat) (u : Value), (flat l)[j]? = some u → cs[j]? = some u) ∧ l.length ≤ c ∧ 0 < c ∧ c ≤ maxLen
theorem RowK.loc {w w' : World} {g c : Nat} {l : List Ky} (h : RowK w g l c) (hw : w'.heap[g]? = w.heap[g]?) : RowK w' g l c := by
  obtain ⟨cs, e, h1, h2⟩ := h
  exact ⟨cs, e, by rw [hw]; exact h1, h2⟩
theorem RowK.lt {w : World} {g c : Nat} {l : List Ky} (h : RowK w g l c) : g < w.heap.size := by
  obtain ⟨cs, e, h1, h2⟩ := h
  exact (Array.getElem?_eq_some_iff.1 h1).1
theorem RowK.rel {w : World} {g c : Nat} {l : List Ky} (h : RowK w g l c) {R : Nat → Prop} (hR : R g) : RelV w R (keys l) (.slice (some ⟨g, 0, none⟩) l.length c) := by
  obtain ⟨cs, e, h1, h2, h3, h4, h5, h6⟩ := h
  have key := RelV.sl (w := w) (R := R) 3 (l.map Ky.rv) (some ⟨g, 0, none⟩) c (by simpa using h4) h6 g 0 (fun i j => (cs[i * 3 + j]?).getD undef) (fun _ => ⟨rfl, hR⟩)
  have cell : ∀ (i : Nat) (x : RV) (j : Nat) (y : RV), (l.map Ky.rv)[i]? = some x → x.cells[j]? = some y → ∃ u, y = .v u ∧ cs[i * 3 + j]? = some u ∧ u.oneCell' = true := fun i x j y hi hj => by
    rw [List.getElem?_map, Option.map_eq_some_iff] at hi
    obtain ⟨k, hk, rfl⟩ := hi
    have hj3 : j < 3 := by have := (List.getElem?_eq_some_iff.1 hj).1; simpa [Ky.rv, RV.cells] using this
    have hf := flat_get hk hj3
    match j, hj3, hj, hf with
    | 0, _, hj, hf => simp [Ky.rv, RV.cells] at hj; subst hj; exact ⟨_, rfl, h3 _ _ hf, rfl⟩
    | 1, _, hj, hf => simp [Ky.rv, RV.cells] at hj; subst hj; exact ⟨_, rfl, h3 _ _ hf, rfl⟩
    | 2, _, hj, hf => simp [Ky.rv, RV.cells] at hj; subst hj; exact ⟨_, rfl, h3 _ _ hf, rfl⟩
  have := key (fun i x hi => by
      rw [List.getElem?_map, Option.map_eq_some_iff] at hi
      obtain ⟨k, hk, rfl⟩ := hi
      rfl) (fun i x j y hi hj => by
      obtain ⟨u, rfl, h, h'⟩ := cell i x j y hi hj
      simp only [World.cell?, h1, Option.isSome_none, Bool.false_eq_true, if_false, Nat.zero_add, h, Option.getD_some]
      exact ⟨trivial, h'⟩) (fun i x j y hi hj => by
      obtain ⟨u, rfl, h, h'⟩ := cell i x j y hi hj
      simp only [h, Option.getD_some]
      exact .v u)
  simpa [keys] using this
def adr (og : Option Nat) : Option Addr := og.map fun g => ⟨g, 0, none⟩
/-- How a tree lies: b: its root; og: the block of its nodes' slices; gs: those of the nodes. -/
structure TL (w : World) (b : Nat) (og : Option Nat) (gs : List Nat) (cap : Nat) (ns : List (List Ky)) (n : Int) : Prop where
  hd : ∃ e, w.heap[b]? = some (.cells #[.slice (adr og) ns.length cap, .int .i64 n] e (0, 0))
  le : ns.length ≤ cap
  mx : cap ≤ maxLen
  no : og = none → cap = 0
  out : ∀ g, og = some g → 0 < cap ∧ ∃ cs e, w.heap[g]? = some (.cells cs e (0, 0)) ∧ cap ≤ cs.size ∧ ∀ (i g' : Nat) (l : List Ky), gs[i]? = some g' → ns[i]? = some l → ∃ c, cs[i]? = some (.slice (some ⟨g', 0, none⟩) l.length c) ∧ RowK w g' l c
  len : gs.length = ns.length
  nb : (b :: (og.toList ++ gs)).Nodup
def Ft (b : Nat) (og : Option Nat) (gs : List Nat) (x : Nat) : Prop := x = b ∨ og = some x ∨ x ∈ gs
section
variable {w w' : World} {b cap : Nat} {og : Option Nat} {gs : List Nat} {ns : List (List Ky)} {n : Int}
theorem TL.loc (h : TL w b og gs cap ns n) (hw : ∀ x, Ft b og gs x → w'.heap[x]? = w.heap[x]?) : TL w' b og gs cap ns n := by
  refine ⟨?_, h.le, h.mx, h.no, fun g hg => ?_, h.len, h.nb⟩
  · obtain ⟨e, he⟩ := h.hd
    exact ⟨e, by rw [hw b (.inl rfl)]; exact he⟩
  · obtain ⟨h0, cs, e, h1, h2, h4⟩ := h.out g hg
    refine ⟨h0, cs, e, by rw [hw g (.inr (.inl hg))]; exact h1, h2, fun i g' l hi hl => ?_⟩
    obtain ⟨c, h5, h6⟩ := h4 i g' l hi hl
    exact ⟨c, h5, h6.loc (hw g' (.inr (.inr (List.mem_of_getElem? hi))))⟩
theorem TL.lt (h : TL w b og gs cap ns n) : ∀ x, Ft b og gs x → x < w.heap.size := fun x hx => by
  rcases hx with rfl | hx | hx
  · obtain ⟨e, he⟩ := h.hd
    exact (Array.getElem?_eq_some_iff.1 he).1
  · obtain ⟨h0, cs, e, h1, _⟩ := h.out x hx
    exact (Array.getElem?_eq_some_iff.1 h1).1
  · obtain ⟨i, hi⟩ := List.mem_iff_getElem?.1 hx
    have hin := (List.getElem?_eq_some_iff.1 hi).1
    rw [h.len] at hin
    rcases og with _ | g
    · have := h.no rfl; have := h.le; omega
    · obtain ⟨h0, cs, e, h1, h2, h4⟩ := h.out g rfl
      obtain ⟨c, _, h6⟩ := h4 i x ns[i] hi (by simp [hin])
      exact h6.lt
theorem TL.rel (h : TL w b og gs cap ns n) {R : Nat → Prop} (hR : ∀ x, Ft b og gs x → R x) : RelV w R (.sl 1 (ns.map keys)) (.slice (adr og) ns.length cap) := by
  rcases og with _ | g
  · have h0 := h.no rfl
    have h1 := h.le
    have h2 : ns = [] := List.eq_nil_of_length_eq_zero (by omega)
    subst h2
    subst h0
    exact .sl 1 [] none 0 (by simp) (by simp) 0 0 (fun _ _ => undef) (by simp) (by simp) (by simp) (by simp)
  · obtain ⟨h0, cs, e, h1, h2, h4⟩ := h.out g rfl
    have node : ∀ (i : Nat) (x : RV), (ns.map keys)[i]? = some x → ∃ l g' c, ns[i]? = some l ∧ x = keys l ∧ gs[i]? = some g' ∧ cs[i]? = some (.slice (some ⟨g', 0, none⟩) l.length c) ∧ RowK w g' l c := fun i x hi => by
      rw [List.getElem?_map, Option.map_eq_some_iff] at hi
      obtain ⟨l, hl, rfl⟩ := hi
      have hlt := (List.getElem?_eq_some_iff.1 hl).1
      have hg' : gs[i]? = some (gs[i]'(by rw [h.len]; exact hlt)) := by simp [h.len, hlt]
      obtain ⟨c, h5, h6⟩ := h4 i _ l hg' hl
      exact ⟨l, _, c, hl, rfl, hg', h5, h6⟩
    have key := RelV.sl (w := w) (R := R) 1 (ns.map keys) (some ⟨g, 0, none⟩) cap (by simpa using h.le) h.mx g 0 (fun i _ => (cs[i]?).getD undef) (fun _ => ⟨rfl, hR g (.inr (.inl rfl))⟩) (fun i x hi => by
        obtain ⟨l, g', c, _, rfl, _⟩ := node i x hi
        rfl) (fun i x j y hi hj => by
        obtain ⟨l, g', c, _, rfl, _, h5, _⟩ := node i x hi
        have : j = 0 := by have := (List.getElem?_eq_some_iff.1 hj).1; simp [keys, RV.cells] at this; exact this
        subst this
        simp only [World.cell?, h1, Option.isSome_none, Bool.false_eq_true, if_false, Nat.zero_add, Nat.mul_one, Nat.add_zero, h5, Option.getD_some]
        exact ⟨trivial, rfl⟩) (fun i x j y hi hj => by
        obtain ⟨l, g', c, _, rfl, h7, h5, h6⟩ := node i x hi
        have : j = 0 := by have := (List.getElem?_eq_some_iff.1 hj).1; simp [keys, RV.cells] at this; exact this
        subst this
        simp [keys, RV.cells] at hj
        subst hj
        simp only [h5, Option.getD_some]
        exact h6.rel (hR g' (.inr (.inr (List.mem_of_getElem? h7)))))
    simpa [adr] using key
theorem TL.rp (h : TL w b og gs cap ns n) {R : Nat → Prop} (hR : ∀ x, Ft b og gs x → R x) :
    ∃ g : Nat → Value, ∀ (j : Nat) (y : RV), (tview ns n)[j]? = some y → w.cell? ⟨b, 0 + j, none⟩ = some (g j) ∧ (g j).oneCell' = true ∧ RelV w R y (g j) := by
  obtain ⟨e, he⟩ := h.hd
  refine ⟨fun j => (#[Value.slice (adr og) ns.length cap, .int .i64 n][j]?).getD undef, fun j y hj => ?_⟩
  match j, hj with
  | 0, hj =>
    simp [tview] at hj
    subst hj
    refine ⟨by simp [World.cell?, he], rfl, h.rel hR⟩
  | 1, hj =>
    simp [tview] at hj
    subst hj
    exact ⟨by simp [World.cell?, he], rfl, .v _⟩
  | j + 2, hj => simp [tview] at hj
/-- The footprint as places. -/
def fpt (og : Option Nat) (gs : List Nat) : Nat → Option Nat
  | 0 => og
  | j + 1 => gs[j]?
theorem fpt_iff {x : Nat} : (∃ j, fpt og gs j = some x) ↔ (og = some x ∨ x ∈ gs) := by
  constructor
  · rintro ⟨j, hj⟩
    cases j with
    | zero => exact .inl hj
    | succ j => exact .inr (List.mem_of_getElem? hj)
  · rintro (h | h)
    · exact ⟨0, h⟩
    · obtain ⟨i, hi⟩ := List.mem_iff_getElem?.1 h
      exact ⟨i + 1, hi⟩
end
/-- A tree. -/
def treeT (ns : List (List Ky)) (n : Int) : AbsT where
  size := 2
  Q w b φ := ∃ og gs cap, TL w b og gs cap ns n ∧ φ = fpt og gs
  loc := by
    rintro w w' b φ ⟨og, gs, cap, h, rfl⟩ hb hj
    refine ⟨og, gs, cap, h.loc fun x hx => ?_, rfl⟩
    rcases hx with rfl | hx
    · exact hb
    · obtain ⟨j, hj'⟩ := fpt_iff.2 hx
      exact hj j x hj'
  root := by
    rintro w b φ ⟨og, gs, cap, h, rfl⟩
    obtain ⟨e, he⟩ := h.hd
    exact ⟨_, e, he, rfl⟩
  lt := by
    rintro w b φ ⟨og, gs, cap, h, rfl⟩ j c hj
    exact h.lt c (.inr (fpt_iff.1 ⟨j, hj⟩))
  view := tview ns n
  rp := by
    rintro w b φ R ⟨og, gs, cap, h, rfl⟩ hb hj
    refine h.rp fun x hx => ?_
    rcases hx with rfl | hx
    · exact hb
    · obtain ⟨j, hj'⟩ := fpt_iff.2 hx
      exact hj j x hj'
end Go.Ev


namespace Go.Ev
open Go
set_option linter.unusedSectionVars false
set_option linter.unnecessarySimpa false
set_option linter.unusedSimpArgs false
set_option linter.unusedVariables false
theorem glT (w : World) : Gl Go.Proofs.Try.prog w fun _ => False := gl_none (by kernel_rfl) (fun _ => by kernel_rfl) (fun _ => by kernel_rfl) w
def Ky.val (k : Ky) : Value := .agg #[.int .u64 k.c, .int .i64 k.v, .int .i64 k.d]
theorem Ky.rel {w : World} {R : Nat → Prop} (k : Ky) : RelV w R k.rv k.val := by
  refine .agg _ _ rfl fun i x c hx hc => ?_
  match i, hx, hc with
  | 0, hx, hc => simp [Ky.val] at hx hc; subst hx; subst hc; exact .v _
  | 1, hx, hc => simp [Ky.val] at hx hc; subst hx; subst hc; exact .v _
  | 2, hx, hc => simp [Ky.val] at hx hc; subst hx; subst hc; exact .v _
  | i + 3, hx, hc => simp at hx
theorem all0 {w : World} {x : Nat} (h : x < w.heap.size) : All0 w x := ⟨h, fun ⟨id, v, o, h1, _⟩ => by simp [ob0, obs] at h1, trivial⟩
theorem keeps_below {w w' : World} {I : Nat → Prop} (h : Go.RowKit.Below w.heap.size w w') : Keeps I w w' := ⟨h.os, h.tape, h.output, h.size, fun b hb _ => h.block b hb⟩
section
variable {w : World} {b cap : Nat} {og : Option Nat} {gs : List Nat} {ns : List (List Ky)} {n : Int}
theorem node_w (h : TL w b og gs cap ns n) (k : Ky) (r : Nat) (hN : Nod ns k r) : Calls Go.Proofs.Try.prog 25 #[.pointer (some ⟨b, 0, none⟩), k.val] w fun e w' => e = .returned (.int .i64 ((r - 1 : Nat) : Int)) ∧ ∀ I, Keeps I w w' := by
  obtain ⟨g, hg⟩ := h.rp (R := All0 w) fun x hx => all0 (h.lt x hx)
  refine (calls_of_triple (node_t ns n k r hN) w (glT w) rfl (rel0_cons (.rp _ b 0 g (all0 (h.lt b (.inl rfl))) hg) (rel0_cons (.r k.rel) rel0_nil))).mono ?_
  rintro e w' ⟨c, rfl, hb, ρ', hR⟩
  cases hR with
  | r hv => cases hv; exact ⟨rfl, fun I => keeps_below hb⟩
theorem find_w {g c : Nat} {l : List Ky} (h : RowK w g l c) (k : Ky) (r : Nat) (hP : Plc l k r) : Calls Go.Proofs.Try.prog 26 #[.slice (some ⟨g, 0, none⟩) l.length c, k.val] w fun e w' =>
    e = .returned (.tuple #[.int .i64 r, .bool (decide (l[r]? = some k))]) ∧ ∀ I, Keeps I w w' := by
  have hl : l.length ≤ maxLen := by obtain ⟨_, _, _, _, _, h4, _, h6⟩ := h; omega
  refine (calls_of_triple (find_t l k r hP hl) w (glT w) rfl (rel0_cons (.r (h.rel (all0 h.lt))) (rel0_cons (.r k.rel) rel0_nil))).mono ?_
  rintro e w' ⟨c, rfl, hb, ρ', hR⟩
  cases hR with
  | tup _ cs hl h =>
    have h0 := h 0 _ (cs[0]'(by rw [hl]; simp)) rfl (by simp [hl])
    have h1 := h 1 _ (cs[1]'(by rw [hl]; simp)) rfl (by simp [hl])
    refine ⟨?_, fun I => keeps_below hb⟩
    congr 2
    have inv : ∀ {v c : Value}, RelA w' (Free (fun _ => True) (ob0 []) ρ' w') (ob0 []) ρ' (.r (.v v)) c → c = v := fun h => by cases h with | r h => cases h; rfl
    have e0 := inv h0
    have e1 := inv h1
    apply Array.ext (by simp [hl])
    intro i h2 h3
    match i, h2, h3 with
    | 0, h2, h3 => simpa using e0
    | 1, h2, h3 => simpa using e1
    | i + 2, h2, h3 => rw [hl] at h2; exact absurd (show i + 2 < 2 from h2) (by omega)
end
/-- A contract out of what is shown of the world: a thing of many blocks and a key. -/
theorem triple_abs {f : FuncId} {T T' : AbsT} {k : Ky} {res : Value} (hs : T'.size = T.size) (h : ∀ (w : World) (b : Nat) (φ : Nat → Option Nat), T.Q w b φ → Calls Go.Proofs.Try.prog f #[.pointer (some ⟨b, 0, none⟩), k.val] w fun e w' =>
    e = .returned res ∧ ∃ φ', T'.Q w' b φ' ∧ Keeps (fun x => x = b ∨ ∃ j, φ j = some x) w w' ∧ (∀ j c, φ' j = some c → (∃ j', φ j' = some c) ∨ w.heap.size ≤ c)) :
    Triple Go.Proofs.Try.prog f [.ptr 1000000 0 0, k.av] [.abs T] (.r (.v res)) [.abs T'] := by
  intro w cargs ρ B hgl hB hM hcs hargs
  have hob : ob0 [Ob.abs T] 1000000 = some (0, .abs T) := by simp [ob0, obs, upd]
  obtain ⟨b, hρ, hQ⟩ := hM.obj 1000000 0 (.abs T) hob
  have hid : ∀ (T0 : AbsT) id x, ob0 [Ob.abs T0] id = some x → id = 1000000 ∧ x = (0, .abs T0) := fun T0 id x hx => by
    obtain ⟨h1, h2, h3⟩ := ob0_some hx
    have : id - 1000000 = 0 := by
      have := (List.getElem?_eq_some_iff.1 h2).1
      simpa using this
    have hid : id = 1000000 := by omega
    subst hid
    have hob0 : ob0 [Ob.abs T0] 1000000 = some (0, .abs T0) := by simp [ob0, obs, upd]
    rw [hob0] at hx
    exact ⟨rfl, (Option.some.inj hx).symm⟩
  have hheld : ∀ x, Held (ob0 [.abs T]) ρ x ↔ (x = b ∨ ∃ j, ρ (.s 1000000 j) = some x) := fun x => by
    constructor
    · rintro ⟨id, y, h1, h2⟩
      obtain ⟨rfl, rfl⟩ := hid T id _ h1
      rcases h2 with h2 | ⟨_, j, h2⟩
      · rw [hρ] at h2; cases h2; exact .inl rfl
      · exact .inr ⟨j, h2⟩
    · rintro (rfl | ⟨j, h2⟩)
      · exact ⟨1000000, (0, .abs T), hob, .inl hρ⟩
      · exact ⟨1000000, (0, .abs T), hob, .inr ⟨rfl, j, h2⟩⟩
  have hc : cargs = #[.pointer (some ⟨b, 0, none⟩), k.val] := by
    simp at hcs
    apply Array.ext (by simpa using hcs)
    intro i h1 h2
    match i, h1, h2 with
    | 0, h1, h2 =>
      have h0 := hargs 0 _ cargs[0] rfl (by simp [h1])
      generalize cargs[0] = c0 at h0
      cases h0 with
      | ptr _ _ _ _ hc1 hat =>
        obtain ⟨b', hb', rfl⟩ := hat.live hob
        rw [hρ] at hb'
        cases hb'
        rfl
    | 1, h1, h2 =>
      have h0 := hargs 1 _ cargs[1] rfl (by simp [h1])
      generalize cargs[1] = c1 at h0
      cases h0 with
      | r h0 =>
        cases h0 with
        | agg xs cs hl h0 =>
          have inv : ∀ {v c : Value}, RelV w (Free B (ob0 [.abs T]) ρ w) (.v v) c → c = v := fun h => by cases h; rfl
          simp only [Ky.val, List.getElem_toArray, List.getElem_cons_succ, List.getElem_cons_zero]
          congr 1
          apply Array.ext (by simpa using hl)
          intro j g1 g2
          match j, g1, g2 with
          | 0, g1, g2 => exact inv (h0 0 _ cs[0] rfl (by simp [g1]))
          | 1, g1, g2 => exact inv (h0 1 _ cs[1] rfl (by simp [g1]))
          | 2, g1, g2 => exact inv (h0 2 _ cs[2] rfl (by simp [g1]))
          | j + 3, g1, g2 => exact absurd (show j + 3 < 3 from g2) (by omega)
    | i + 2, h1, h2 => exact absurd (show i + 2 < 2 from h2) (by omega)
  subst hc
  refine (h w b _ hQ).mono ?_
  rintro e w' ⟨rfl, φ', hQ', hK, hφ⟩
  obtain ⟨ρ', h1, h2⟩ : ∃ ρ' : Pl → Option Nat, ρ' (.o 1000000) = some b ∧ ∀ j, ρ' (.s 1000000 j) = φ' j := ⟨fun | .o i => if i = 1000000 then some b else none | .s i j => if i = 1000000 then φ' j else none, by simp, by simp⟩
  refine ⟨_, ρ', rfl, ⟨fun id v o hx => ?_, fun id id' x x' c hx hx' _ _ => ?_, ⟨hK.os, hK.tape, hK.output, hK.size, fun c hc hn => hK.block c hc fun hx => hn ((hheld c).2 hx)⟩, fun id v o c hx hf => ?_, fun id c hp => ?_⟩, .r (.v _)⟩
  · obtain ⟨rfl, hx⟩ := hid T' id _ hx
    cases hx
    refine ⟨b, h1, ?_⟩
    rw [show (fun j => ρ' (.s 1000000 j)) = φ' from funext h2]
    exact hQ'
  · rw [(hid T' id _ hx).1, (hid T' id' _ hx').1]
  · obtain ⟨rfl, hx⟩ := hid T' id _ hx
    cases hx
    rcases hf with hf | ⟨_, j, hf⟩
    · rw [h1] at hf; cases hf; exact .inl ((hheld b).2 (.inl rfl))
    · rw [h2] at hf
      rcases hφ j c hf with ⟨j', hj'⟩ | h
      · exact .inl ((hheld c).2 (.inr ⟨j', hj'⟩))
      · exact .inr h
  · simp only [pinOf] at hp
    split at hp
    · rename_i v o hx
      split at hp
      · rename_i ho
        obtain ⟨rfl, hx'⟩ := hid T id _ hx
        refine ⟨?_, _, by simp [ob0, obs, upd]; rfl, rfl⟩
        rw [h1, ← hp, hρ]
      · cases hp
    · cases hp
end Go.Ev


namespace Go.Ev
open Go Go.RowKit
set_option linter.unusedSectionVars false
set_option linter.unnecessarySimpa false
set_option linter.unusedSimpArgs false
set_option linter.unusedVariables false
set_option maxRecDepth 100000
theorem al_old {w : World} {x : Obj} {k : Nat} (h : k < w.heap.size) : (w.alloc x).heap[k]? = w.heap[k]? := by
  show (w.heap.push x)[k]? = _
  simp [Array.getElem?_push, Nat.ne_of_lt h]
theorem al_new {w : World} {x : Obj} {k : Nat} (h : k = w.heap.size) : (w.alloc x).heap[k]? = some x := by
  subst h
  show (w.heap.push x)[w.heap.size]? = _
  simp
theorem keeps_al {w : World} {x : Obj} {I : Nat → Prop} : Keeps I w (w.alloc x) := keeps_one (one_more x)
theorem Keeps.mono {I J : Nat → Prop} {w w' : World} (h : Keeps I w w') (hi : ∀ x, I x → J x) : Keeps J w w' := ⟨h.os, h.tape, h.output, h.size, fun b hb hn => h.block b hb fun hx => hn (hi b hx)⟩
theorem put0_w {w : World} {b cap : Nat} {og : Option Nat} {gs : List Nat} {n : Int} (h : TL w b og gs cap [] n) (k : Ky) : Calls Go.Proofs.Try.prog 16 #[.pointer (some ⟨b, 0, none⟩), k.val] w fun e w' => e = .returned (.bool true) ∧
    ∃ og' gs' cap', TL w' b og' gs' cap' [[k]] 1 ∧ Keeps (Ft b og gs) w w' ∧ ∀ x, Ft b og' gs' x → Ft b og gs x ∨ w.heap.size ≤ x := by
  obtain ⟨e, he⟩ := h.hd
  have hlt := h.lt b (.inl rfl)
  have hc : w.cell? ⟨b, 0, none⟩ = some (.slice (adr og) 0 cap) := by simp [World.cell?, he]
  have hc1 : w.cell? ⟨b, 1, none⟩ = some (.int .i64 n) := by simp [World.cell?, he]
  have hf0 : w.frozen? ⟨b, 0, none⟩ = false := by simp [World.frozen?, he]
  have hf1 : w.frozen? ⟨b, 1, none⟩ = false := by simp [World.frozen?, he]
  have hb01 : b < w.heap.size + 1 := by omega
  have hb02 : b < w.heap.size + 1 + 1 := by omega
  have hb0 : ¬ b = w.heap.size := by omega
  have hb1 : ¬ b = w.heap.size + 1 := by omega
  have hb2 : ¬ b = w.heap.size + 1 + 1 := by omega
  simp only [Ky.val]
  go_enter Go.Proofs.Try.func16, Go.Proofs.Try.ntmps16
  go_wp2_with fail
  go_ret
  rw [setCell_eq_setRow w b 0 _ _ _ _ he, setCell_eq_setRow _ b 1 _ _ _ _ (setRow_heap w b _ _ _ _ he), setRow_setRow]
  generalize hw1 : w.setRow b _ = w1
  have hh : w1.heap[b]? = some (.cells #[.slice (some ⟨w.heap.size + 1 + 1, 0, none⟩) 1 1, .int .i64 1] e) := by rw [← hw1]; exact setRow_heap w b _ _ _ _ he
  have hk : Keeps (· = b) w w1 := by rw [← hw1]; exact keeps_row he
  have hs : w1.heap.size = w.heap.size := by rw [← hw1]; simp [World.setRow]
  refine ⟨rfl, some (w.heap.size + 1 + 1), [w.heap.size + 1], 1, ⟨⟨e, ?_⟩, by simp, by simp [maxLen], by simp, fun g hg => ?_, rfl, ?_⟩, ?_, fun x hx => ?_⟩
  · rw [al_old (by simp [hs]; omega), al_old (by simp [hs]; omega), al_old (by simp [hs]; omega), hh]
    rfl
  · cases hg
    refine ⟨by omega, _, _, al_new (by simp [hs]), by simp, fun i g' l hi hl => ?_⟩
    have hi0 : i = 0 := by have := (List.getElem?_eq_some_iff.1 hi).1; simp at this; exact this
    subst hi0
    simp at hi hl
    subst hi; subst hl
    refine ⟨1, rfl, _, _, by rw [al_old (by simp [hs])]; exact al_new (by simp [hs]), by simp, ?_, by simp, by simp, by simp [maxLen]⟩
    intro j u hj
    simpa [flat, kc] using hj
  · simp
    omega
  · exact (hk.mono fun x hx => .inl hx).trans ((keeps_al.trans keeps_al).trans keeps_al)
  · rcases hx with h | h | h
    · exact .inl (.inl h)
    · simp at h; omega
    · simp at h; omega
end Go.Ev


namespace Go.Ev
open Go Go.RowKit
set_option linter.unusedSectionVars false
set_option linter.unnecessarySimpa false
set_option linter.unusedSimpArgs false
set_option linter.unusedVariables false
set_option maxRecDepth 100000
section
variable {w : World} {b g cap : Nat} {og : Option Nat} {gs : List Nat} {ns : List (List Ky)} {n : Int}
theorem TL.root (h : TL w b (some g) gs cap ns n) : w.cell? ⟨b, 0, none⟩ = some (.slice (some ⟨g, 0, none⟩) ns.length cap) ∧ w.cell? ⟨b, 1, none⟩ = some (.int .i64 n) ∧ w.frozen? ⟨b, 0, none⟩ = false ∧ w.frozen? ⟨b, 1, none⟩ = false ∧ b < w.heap.size := by
  obtain ⟨e, he⟩ := h.hd
  exact ⟨by simp [World.cell?, he, adr], by simp [World.cell?, he], by simp [World.frozen?, he], by simp [World.frozen?, he], h.lt b (.inl rfl)⟩
theorem TL.some_ (h : TL w b og gs cap ns n) {i : Nat} {l : List Ky} (hl : ns[i]? = some l) : ∃ g, og = some g := by
  rcases og with _ | g
  · have := h.no rfl
    have := h.le
    have := (List.getElem?_eq_some_iff.1 hl).1
    omega
  · exact ⟨g, rfl⟩
theorem TL.node (h : TL w b (some g) gs cap ns n) {i : Nat} {l : List Ky} (hl : ns[i]? = some l) : ∃ g' c, gs[i]? = some g' ∧ RowK w g' l c ∧ w.cell? ⟨g, i, none⟩ = some (.slice (some ⟨g', 0, none⟩) l.length c) ∧ w.frozen? ⟨g, i, none⟩ = false := by
  obtain ⟨h0, cs, e, h1, h2, h4⟩ := h.out g rfl
  have hlt := (List.getElem?_eq_some_iff.1 hl).1
  have hg' : gs[i]? = some (gs[i]'(by rw [h.len]; exact hlt)) := by simp [h.len, hlt]
  obtain ⟨c, h5, h6⟩ := h4 i _ l hg' hl
  exact ⟨_, c, hg', h6, by simp [World.cell?, h1, h5], by simp [World.frozen?, h1]⟩
end
/-- The key's own variable. -/
def KB (w : World) (B : Nat) (k : Ky) : Prop := w.heap[B]? = some (.cells #[.int .u64 k.c, .int .i64 k.v, .int .i64 k.d] 53 (0, 0))
theorem KB.cells {w : World} {B : Nat} {k : Ky} (h : KB w B k) : w.cell? ⟨B, 0, none⟩ = some (.int .u64 k.c) ∧ w.cell? ⟨B, 1, none⟩ = some (.int .i64 k.v) ∧ w.cell? ⟨B, 2, none⟩ = some (.int .i64 k.d) := by
  unfold KB at h
  exact ⟨by simp [World.cell?, h], by simp [World.cell?, h], by simp [World.cell?, h]⟩
theorem KB.keeps {w w' : World} {B : Nat} {k : Ky} {I : Nat → Prop} (h : KB w B k) (hk : Keeps I w w') (hn : ¬ I B) : KB w' B k := by
  unfold KB at h ⊢
  rw [hk.block B (Array.getElem?_eq_some_iff.1 h).1 hn]
  exact h
theorem TL.keeps {w w' : World} {b cap : Nat} {og : Option Nat} {gs : List Nat} {ns : List (List Ky)} {n : Int} {I : Nat → Prop} (h : TL w b og gs cap ns n) (hk : Keeps I w w') (hn : ∀ x, Ft b og gs x → ¬ I x) : TL w' b og gs cap ns n :=
  h.loc fun x hx => hk.block x (h.lt x hx) (hn x hx)
theorem put1_w {w : World} {b cap : Nat} {og : Option Nat} {gs : List Nat} {ns : List (List Ky)} {n : Int} (h : TL w b og gs cap ns n) (k : Ky) (r s : Nat) (l : List Ky) (hN : Nod ns k r) (hl : ns[r - 1]? = some l) (hP : Plc l k s) (hs : l[s]? = some k) : Calls Go.Proofs.Try.prog 16 #[.pointer (some ⟨b, 0, none⟩), k.val] w fun e w' => e = .returned (.bool false) ∧
    TL w' b og gs cap ns n ∧ ∀ I, Keeps I w w' := by
  obtain ⟨g, rfl⟩ := h.some_ hl
  have hat : r - 1 < ns.length := (List.getElem?_eq_some_iff.1 hl).1
  generalize hr : r - 1 = i at *
  obtain ⟨c0, c1, f0, f1, hlt⟩ := h.root
  have hne : ((ns.length : Int) == 0) = false := by rw [beq_eq_false_iff_ne]; omega
  have hk0 : ∀ x, Keeps (fun _ => False) w (w.alloc x) := fun x => keeps_al
  have i0 : (0 : Int) ≤ (i : Int) := by omega
  have i1 : (i : Int) < (ns.length : Int) := by omega
  simp only [Ky.val]
  go_enter Go.Proofs.Try.func16, Go.Proofs.Try.ntmps16
  go_wp2_with fail
  have h1 := h.keeps (hk0 (.cells #[.int .u64 k.c, .int .i64 k.v, .int .i64 k.d] 53)) (fun _ _ q => q)
  have b1 : KB (w.alloc (.cells #[.int .u64 k.c, .int .i64 k.v, .int .i64 k.d] 53)) w.heap.size k := al_new rfl
  refine (node_w h1 k r hN).mono ?_
  rintro e w2 ⟨rfl, hK2⟩
  rw [hr]
  have h2 := h1.keeps (hK2 fun _ => False) (fun _ _ q => q)
  have b2 := b1.keeps (hK2 fun _ => False) (fun q => q)
  obtain ⟨d0, d1, f2, f3, _⟩ := h2.root
  obtain ⟨g', c, hg', hrow, d2, f4⟩ := h2.node hl
  obtain ⟨k0, k1, k2⟩ := b2.cells
  go_wp2_with fail
  refine (find_w hrow k s hP).mono ?_
  rintro e w3 ⟨rfl, hK3⟩
  rw [decide_eq_true hs]
  go_wp2_with fail
  go_ret
  refine ⟨rfl, h2.keeps (hK3 fun _ => False) (fun _ _ q => q), fun I => (keeps_al.trans (hK2 I)).trans (hK3 I)⟩
end Go.Ev


namespace Go.Ev
open Go Go.RowKit
set_option linter.unusedSectionVars false
set_option linter.unnecessarySimpa false
set_option linter.unusedSimpArgs false
set_option linter.unusedVariables false
theorem flat_append (a b : List Ky) : flat (a ++ b) = flat a ++ flat b := by simp [flat]
theorem flat_cons (k : Ky) (b : List Ky) : flat (k :: b) = kc k ++ flat b := by simp [flat]
theorem set3 {α : Type} (L : List α) (i : Nat) (a b c : α) (h : i + 3 ≤ L.length) : ((L.set i a).set (i + 1) b).set (i + 2) c = splice L i [a, b, c] := by
  apply List.ext_getElem?
  intro j
  rw [splice_at (by simpa using h)]
  simp only [List.getElem?_set, List.length_set, List.length_cons, List.length_nil]
  by_cases h0 : j = i
  · subst h0; simp; omega
  by_cases h1 : j = i + 1
  · subst h1; simp; omega
  by_cases h2 : j = i + 2
  · subst h2; simp; omega
  rw [if_neg (by omega), if_neg (by omega), if_neg (by omega), if_neg (by omega)]
/-- A key put in at its place, cell by cell. -/
theorem ins_cells {cs : List Value} {l : List Ky} {k : Ky} {s : Nat} (hs : s ≤ l.length) (hp : (flat l ++ kc k) <+: cs) :
    flat (l.take s ++ k :: l.drop s) <+: splice (splice cs ((s + 1) * 3) ((cs.drop (s * 3)).take ((l.length - s) * 3))) (s * 3) (kc k) := by
  obtain ⟨t, rfl⟩ := hp
  obtain ⟨A, hA⟩ : ∃ A, A = flat (l.take s) := ⟨_, rfl⟩
  obtain ⟨D, hD⟩ : ∃ D, D = flat (l.drop s) := ⟨_, rfl⟩
  have hl : flat l = A ++ D := by rw [hA, hD, ← flat_append, List.take_append_drop]
  have lA : A.length = s * 3 := by rw [hA, flat_length, List.length_take, Nat.min_eq_left hs]
  have lD : D.length = (l.length - s) * 3 := by rw [hD, flat_length, List.length_drop]
  have lk : (kc k).length = 3 := rfl
  rw [flat_append, flat_cons, ← hA, ← hD, hl, ← lA, ← lD, show (s + 1) * 3 = A.length + 3 by omega]
  refine ⟨t, ?_⟩
  obtain ⟨E, hE⟩ : ∃ E, E = (D ++ kc k ++ t).take 3 := ⟨_, rfl⟩
  have lE : E.length = 3 := by rw [hE]; simp; omega
  have e1 : (A ++ D ++ kc k ++ t).take (A.length + 3) = A ++ E := by
    rw [hE, List.append_assoc A D, List.append_assoc A, List.take_length_add_append]
  have e2 : ((A ++ D ++ kc k ++ t).drop A.length).take D.length = D := by
    rw [List.append_assoc A D, List.append_assoc A, List.drop_left, List.append_assoc D, List.take_left]
  have e3 : (A ++ D ++ kc k ++ t).drop (A.length + 3 + D.length) = t := by
    have : A.length + 3 + D.length = (A ++ D ++ kc k).length := by simp [lk]; omega
    rw [this, List.drop_left]
  have e4 : splice (A ++ D ++ kc k ++ t) (A.length + 3) D = A ++ (E ++ (D ++ t)) := by
    unfold splice
    rw [e1, e3]
    simp
  rw [e2, e4]
  unfold splice
  have e5 : (A ++ (E ++ (D ++ t))).drop (A.length + 3) = D ++ t := by
    have : A.length + 3 = (A ++ E).length := by simp [lE]
    rw [this, ← List.append_assoc, List.drop_left]
  rw [List.take_left, lk, e5]
  simp
theorem pre_of {cs2 : Array Value} {X : List Value} (h : ∀ j, j < X.length → cs2[j]? = X[j]?) (hl : X.length ≤ cs2.size) : X <+: cs2.toList := by
  rw [List.prefix_iff_eq_take]
  apply List.ext_getElem?
  intro j
  rw [List.getElem?_take]
  by_cases hj : j < X.length
  · rw [if_pos hj, ← h j hj]
    simp
  · rw [if_neg hj]
    simp
    omega
theorem cell_same {w w' : World} {x : Nat} (h : w'.heap[x]? = w.heap[x]?) (o : Nat) : w'.cell? ⟨x, o, none⟩ = w.cell? ⟨x, o, none⟩ := by simp only [World.cell?, h]
theorem frozen_same {w w' : World} {x : Nat} (h : w'.heap[x]? = w.heap[x]?) (o : Nat) : w'.frozen? ⟨x, o, none⟩ = w.frozen? ⟨x, o, none⟩ := by simp only [World.frozen?, h]
theorem cell_in {w : World} {g o : Nat} {cs : Array Value} {e : TypeId} {fr : Nat × Nat} (h : w.heap[g]? = some (.cells cs e fr)) (ho : o < cs.size) : ∃ v, w.cell? ⟨g, o, none⟩ = some v := ⟨cs[o], by simp [World.cell?, h, ho]⟩
theorem frozen_in {w : World} {g o : Nat} {cs : Array Value} {e : TypeId} (h : w.heap[g]? = some (.cells cs e (0, 0))) : w.frozen? ⟨g, o, none⟩ = false := by simp [World.frozen?, h]
theorem sz_al {w : World} {x : Obj} : (w.alloc x).heap.size = w.heap.size + 1 := by simp
theorem sc_same {w : World} {g o : Nat} {cs : Array Value} {e : TypeId} {fr : Nat × Nat} {v : Value} (h : w.heap[g]? = some (.cells cs e fr)) : (w.setCell ⟨g, o, none⟩ v).heap[g]? = some (.cells (cs.setIfInBounds o v) e fr) := by
  rw [setCell_eq_setRow w g o cs e fr v h]
  exact setRow_heap w g _ _ _ _ h
theorem sc_other {w : World} {g o x : Nat} {cs : Array Value} {e : TypeId} {fr : Nat × Nat} {v : Value} (h : w.heap[g]? = some (.cells cs e fr)) (hx : x ≠ g) : (w.setCell ⟨g, o, none⟩ v).heap[x]? = w.heap[x]? := by
  rw [setCell_eq_setRow w g o cs e fr v h]
  exact setRow_other w g x _ hx
theorem sc_keeps {w : World} {g o : Nat} {cs : Array Value} {e : TypeId} {fr : Nat × Nat} {v : Value} {I : Nat → Prop} (h : w.heap[g]? = some (.cells cs e fr)) (hI : I g) : Keeps I w (w.setCell ⟨g, o, none⟩ v) := by
  rw [setCell_eq_setRow w g o cs e fr v h]
  have hk := keeps_row (cs := cs.setIfInBounds o v) h
  exact ⟨hk.os, hk.tape, hk.output, hk.size, fun b hb hn => hk.block b hb fun q => hn (q ▸ hI)⟩
theorem keeps_old {w w' : World} {I : Nat → Prop} (h : Keeps (fun x => I x ∨ w.heap.size ≤ x) w w') : Keeps I w w' := ⟨h.os, h.tape, h.output, h.size, fun b hb hn => h.block b hb fun q => by rcases q with q | q; exact hn q; omega⟩
theorem flat_drop_get {l : List Ky} {a j : Nat} (ha : a ≤ l.length) : (flat l)[a * 3 + j]? = (flat (l.drop a))[j]? := by
  have : flat l = flat (l.take a) ++ flat (l.drop a) := by rw [← flat_append, List.take_append_drop]
  have hl : (flat (l.take a)).length = a * 3 := by rw [flat_length, List.length_take, Nat.min_eq_left ha]
  rw [this, List.getElem?_append_right (by omega), hl]
  congr 1
  omega
theorem flat_take_get {l : List Ky} {a j : Nat} {u : Value} (h : (flat (l.take a))[j]? = some u) : (flat l)[j]? = some u := by
  have : flat l = flat (l.take a) ++ flat (l.drop a) := by rw [← flat_append, List.take_append_drop]
  rw [this, List.getElem?_append_left (List.getElem?_eq_some_iff.1 h).1]
  exact h
theorem pre_take {cs : Array Value} {A : List Value} (hf : ∀ (j : Nat) (u : Value), A[j]? = some u → cs[j]? = some u) : cs.toList.take A.length = A := by
  apply List.ext_getElem?
  intro j
  rw [List.getElem?_take]
  by_cases hj : j < A.length
  · have hq : A[j]? = some A[j] := by simp [hj]
    rw [if_pos hj, hq, ← hf j _ hq]
    simp
  · rw [if_neg hj, eq_comm, List.getElem?_eq_none_iff]
    omega
theorem pre_app {cs cs2 : Array Value} {A B : List Value} {N : Nat} (hN : A.length = N) (hf : ∀ (j : Nat) (u : Value), A[j]? = some u → cs[j]? = some u) (h : ∀ j, j < N + B.length → cs2[j]? = (cs.toList.take N ++ B)[j]?) (hl : N + B.length ≤ cs2.size) : (A ++ B) <+: cs2.toList := by
  subst hN
  rw [pre_take hf] at h
  exact pre_of (fun j hj => h j (by simpa using hj)) (by simpa using hl)
theorem seg_one {L X : List Value} (hp : X <+: L) (h1 : ∀ u ∈ X, u.oneCell' = true) {a m : Nat} (h : a + m ≤ X.length) : ∀ u ∈ (L.drop a).take m, u.oneCell' = true := fun u hu => by
  obtain ⟨t, rfl⟩ := hp
  obtain ⟨j, hj⟩ := List.mem_iff_getElem?.1 hu
  rw [List.getElem?_take] at hj
  split at hj
  · rw [List.getElem?_drop, List.getElem?_append_left (by omega)] at hj
    exact h1 u (List.mem_of_getElem? hj)
  · cases hj
theorem ins2 {α : Type} {L : List α} {i : Nat} {x y : α} (h : i < L.length) (j : Nat) : (L.take i ++ x :: y :: L.drop (i + 1))[j]? = if j < i then L[j]? else if j = i then some x else if j = i + 1 then some y else L[j - 1]? := by
  have hl : (L.take i).length = i := by simp; omega
  rw [List.getElem?_append, hl]
  by_cases h1 : j < i
  · rw [if_pos h1, if_pos h1, List.getElem?_take, if_pos h1]
  · rw [if_neg h1, if_neg h1]
    by_cases h2 : j = i
    · subst h2; simp
    · rw [if_neg h2]
      by_cases h3 : j = i + 1
      · subst h3; simp
      · rw [if_neg h3]
        obtain ⟨m, rfl⟩ : ∃ m, j = i + 2 + m := ⟨j - (i + 2), by omega⟩
        rw [show i + 2 + m - i = m + 2 by omega]
        simp only [List.getElem?_cons_succ, List.getElem?_drop]
        congr 1
        omega
section
variable {w w' : World} {b g cap : Nat} {gs : List Nat} {ns : List (List Ky)} {n n' : Int}
/-- A node is exchanged. -/
theorem TL.put (h : TL w b (some g) gs cap ns n) {i : Nat} (hi : i < ns.length) {g2 c2 : Nat} {l' : List Ky} (hb : ∃ e, w'.heap[b]? = some (.cells #[.slice (some ⟨g, 0, none⟩) ns.length cap, .int .i64 n'] e (0, 0)))
    (hg : ∃ cs e, w.heap[g]? = some (.cells cs e (0, 0)) ∧ w'.heap[g]? = some (.cells (cs.setIfInBounds i (.slice (some ⟨g2, 0, none⟩) l'.length c2)) e (0, 0))) (hrow : RowK w' g2 l' c2)
    (ho : ∀ (j x : Nat), j ≠ i → gs[j]? = some x → w'.heap[x]? = w.heap[x]?) (hg2 : gs[i]? = some g2 ∨ (g2 ≠ b ∧ g2 ≠ g ∧ g2 ∉ gs)) : TL w' b (some g) (gs.set i g2) cap (ns.set i l') n' := by
  obtain ⟨h0, cs, e, h1, h2, h4⟩ := h.out g rfl
  obtain ⟨cs', e', q1, q2⟩ := hg
  rw [h1] at q1
  cases q1
  refine ⟨?_, by simpa using h.le, h.mx, by simp, fun g0 hg0 => ?_, by simp [h.len], ?_⟩
  · obtain ⟨e, he⟩ := hb
    exact ⟨e, by rw [he]; simp [adr]⟩
  · cases hg0
    refine ⟨h0, _, _, q2, by simpa using h2, fun j x l hj hl => ?_⟩
    · rw [List.getElem?_set] at hj hl
      by_cases hij : i = j
      · subst hij
        simp [h.len, hi] at hj hl
        subst hj; subst hl
        refine ⟨c2, ?_, hrow⟩
        have : i < cs.size := by have := h.le; omega
        simp [this]
      · rw [if_neg hij] at hj hl
        obtain ⟨c, h5, h6⟩ := h4 j x l hj hl
        refine ⟨c, ?_, h6.loc (ho j x (Ne.symm hij) hj)⟩
        rw [Array.getElem?_setIfInBounds, if_neg hij]
        exact h5
  · have hnd := h.nb
    simp only [Option.toList_some, List.cons_append, List.nil_append] at hnd ⊢
    rcases hg2 with hg2 | ⟨p1, p2, p3⟩
    · have : gs.set i g2 = gs := by
        apply List.ext_getElem?
        intro j
        rw [List.getElem?_set]
        split
        · rename_i hij; subst hij; rw [hg2]; simp; exact (List.getElem?_eq_some_iff.1 hg2).1
        · rfl
      rw [this]
      exact hnd
    · simp only [List.nodup_cons, List.mem_cons, not_or] at hnd ⊢
      obtain ⟨⟨a1, a2⟩, a3, a4⟩ := hnd
      refine ⟨⟨a1, fun hm => ?_⟩, fun hm => ?_, ?_⟩
      · rcases List.mem_or_eq_of_mem_set hm with hm | hm
        · exact a2 hm
        · exact p1 hm.symm
      · rcases List.mem_or_eq_of_mem_set hm with hm | hm
        · exact a3 hm
        · exact p2 hm.symm
      · rw [List.Nodup, List.pairwise_iff_getElem] at a4 ⊢
        intro x y hx hy hxy
        rw [List.length_set] at hx hy
        simp only [List.getElem_set]
        have nm : ∀ z (hz : z < gs.length), gs[z] ≠ g2 := fun z hz q => p3 (q ▸ List.getElem_mem hz)
        split
        · rw [if_neg (by omega)]
          exact fun q => nm y hy q.symm
        · split
          · exact nm x hx
          · exact a4 x y hx hy hxy
end
end Go.Ev


import Derived.Test.YtjpejkfhkbaakaaEvSee
namespace Go.Ev
open Go
set_option linter.unnecessarySimpa false
set_option linter.unusedSimpArgs false
set_option linter.unusedVariables false

section
variable {P : Program} {X : Cx} {w w' : World} {s : St} {ρ ρ' : Pl → Option Nat} {a : Act} {o : Oper} {ob ob' : Obs} {R R' : Nat → Prop}

theorem ObRel.stays (h : Stays w w' R R' ob ob' ρ ρ') {id : Nat} {x : Ob} (hx : ObRel w R ob ρ id x) (hρ : ρ' id = ρ id) (hρs : ∀ j, ρ' (.s id j) = ρ (.s id j)) (hb : ∀ b, foot ρ id x b → w'.heap[b]? = w.heap[b]?) : ObRel w' R' ob' ρ' id x := by
  cases x with
  | abs T =>
    obtain ⟨b, h1, h2⟩ := hx
    refine ⟨b, by rw [hρ, h1], ?_⟩
    simp only [hρs]
    exact T.loc h2 (hb b (.inl h1)) fun j c hc => hb c (.inr ⟨rfl, j, hc⟩)
  | box cells =>
    obtain ⟨b, cs, e, h1, h2, h3, h4⟩ := hx
    exact ⟨b, cs, e, by rw [hρ, h1], by rw [hb b (.inl h1), h2], h3, fun i x c hi hc => (h4 i x c hi hc).stays h⟩
  | row sz z app wr xs =>
    rcases hx with ⟨h1, h2⟩ | ⟨b, cs, e, fr, h1, h2, h3, h4, h5, h6⟩
    · exact .inl ⟨h1, by rw [hρ, h2]⟩
    · refine .inr ⟨b, cs, e, fr, by rw [hρ, h1], by rw [hb b (.inl h1), h2], h3, h4, h5, fun i x hi => ⟨(h6 i x hi).1, fun j y hj => ?_⟩⟩
      obtain ⟨c, g1, g2, g3⟩ := (h6 i x hi).2 j y hj
      exact ⟨c, g1, g2, g3.mono h.free⟩

/-- The block of an object is there. -/
theorem ObRel.lt {id : Nat} {x : Ob} (hx : ObRel w R ob ρ id x) {b : Nat} (hb : ρ id = some b) : ∃ cs e fr, w.heap[b]? = some (.cells cs e fr) ∧ b < w.heap.size := by
  cases x with
  | abs T =>
    obtain ⟨b', h1, h2⟩ := hx
    rw [hb] at h1; cases h1
    obtain ⟨cs, e, h3, _⟩ := T.root h2
    exact ⟨cs, e, _, h3, (Array.getElem?_eq_some_iff.1 h3).1⟩
  | box cells =>
    obtain ⟨b', cs, e, h1, h2, h3, h4⟩ := hx
    rw [hb] at h1; cases h1
    exact ⟨cs, e, _, h2, (Array.getElem?_eq_some_iff.1 h2).1⟩
  | row sz z app wr xs =>
    rcases hx with ⟨h1, h2⟩ | ⟨b', cs, e, fr, h1, h2, _⟩
    · rw [hb] at h2; cases h2
    · rw [hb] at h1; cases h1
      exact ⟨cs, e, _, h2, (Array.getElem?_eq_some_iff.1 h2).1⟩
theorem Gam.lt (hG : Gam X s ρ a w) {id : Nat} {x : Nat × Ob} (hx : s.ob id = some x) {b : Nat} (hb : ρ id = some b) : ∃ cs e fr, w.heap[b]? = some (.cells cs e fr) ∧ b < w.heap.size :=
  (hG.obj id x.1 x.2 hx).lt hb

theorem ObRel.foot_lt {id : Nat} {x : Ob} (hx : ObRel w R ob ρ id x) {b : Nat} (hb : foot ρ id x b) : b < w.heap.size := by
  rcases hb with hb | ⟨h, j, hb⟩
  · exact (hx.lt hb).choose_spec.choose_spec.choose_spec.2
  · cases x with
    | abs T =>
      obtain ⟨b', h1, h2⟩ := hx
      exact T.lt h2 j b hb
    | box _ => cases h
    | row _ _ _ _ _ => cases h
theorem Gam.foot_lt (hG : Gam X s ρ a w) {id : Nat} {x : Nat × Ob} (hx : s.ob id = some x) {b : Nat} (hb : foot ρ id x.2 b) : b < w.heap.size := (hG.obj id x.1 x.2 hx).foot_lt hb

theorem getD_put (hs : a.tmps.size = X.n) {d : Nat} (hd : d < X.n) (c : Value) (t : Nat) : (a.put (some d) c).tmps.getD t undef = if t = d then c else a.tmps.getD t undef := by
  simp only [Act.put]
  by_cases h : t = d
  · subst h
    simp [hs, hd]
  · simp [h, Array.getElem?_setIfInBounds_ne (Ne.symm h)]

theorem Gam.step (hG : Gam X s ρ a w) (hs : Stays w w' (Free X.B s.ob ρ w) (Free X.B ob' ρ' w') s.ob ob' ρ ρ')
    (hobj : ∀ id v o, ob' id = some (v, o) → (s.ob id = some (v, o) ∧ ρ' id = ρ id ∧ (∀ j, ρ' (.s id j) = ρ (.s id j)) ∧ ∀ b, foot ρ id o b → w'.heap[b]? = w.heap[b]?) ∨ ObRel w' (Free X.B ob' ρ' w') ob' ρ' id o)
    (hinj : ∀ id id' x x' b, ob' id = some x → ob' id' = some x' → foot ρ' id x.2 b → foot ρ' id' x'.2 b → id = id')
    (hk : Keeps X.I X.w0 w') (hown : ∀ id v o b, ob' id = some (v, o) → foot ρ' id o b → X.I b ∨ X.w0.heap.size ≤ b)
    (hpin : ∀ id b o, X.pn id = some b → s.ob id = some (0, o) → o.pinned = true → ρ id = some b → ρ' id = some b ∧ ∃ o', ob' id = some (0, o') ∧ o'.pinned = true) : Gam X ⟨s.e, ob'⟩ ρ' a w' := by
  refine ⟨⟨fun id v o h => ?_, hinj, hk, hown, fun id b h => (hG.pin id b h).2.elim fun o ho => hpin id b o h ho.1 ho.2 (hG.pin id b h).1⟩, hG.sz, hG.df, fun t => (hG.env t).stays hs, hG.pnn, hG.small, hG.base⟩
  rcases hobj id v o h with ⟨h1, h2, h4, h3⟩ | h1
  · exact (hG.obj id v o h1).stays hs h2 h4 h3
  · exact h1

/-- Only a slot is written. -/
theorem Gam.see (hG : Gam X s ρ a w) {d : Nat} (hd : d < X.n) {x : AV} {c : Value} (hx : RA X s ρ w x c) : Gam X ⟨put d x s.e, s.ob⟩ ρ (a.put (some d) c) w := by
  refine ⟨hG.toMem, by simp [Act.put, hG.sz], hG.df, fun t => ?_, hG.pnn, hG.small, hG.base⟩
  rw [getD_put hG.sz hd]
  simp only [put]
  split
  · exact hx
  · exact hG.env t
theorem Gam.drew (hG : Gam X s ρ a w) (k : Nat) : Gam X s ρ a { w with drawn := k } := by
  have hs : Stays w { w with drawn := k } (Free X.B s.ob ρ w) (Free X.B s.ob ρ { w with drawn := k }) s.ob s.ob ρ ρ :=
    ⟨fun b h => ⟨h, rfl⟩, fun id v o h => ⟨v, o, h, Nat.le_refl _, fun _ => ⟨rfl, Keep.refl o, fun b cs e fr _ h => ⟨cs, e, fr, h, rfl⟩⟩⟩⟩
  exact ⟨⟨fun id v o h => (hG.obj id v o h).stays hs rfl (fun _ => rfl) fun _ _ => rfl, hG.inj, ⟨hG.keeps.os, hG.keeps.tape, hG.keeps.output, hG.keeps.size, hG.keeps.block⟩, hG.own, hG.pin⟩, hG.sz, hG.df, fun t => (hG.env t).stays hs, hG.pnn, hG.small, hG.base⟩


/-- A world with one block more. -/
structure OneMore (w w' : World) (x : Obj) : Prop where
  os : w'.os = w.os
  tape : w'.tape = w.tape
  output : w'.output = w.output
  heap : w'.heap = w.heap.push x
theorem OneMore.new {x : Obj} (h : OneMore w w' x) : w'.heap[w.heap.size]? = some x := by rw [h.heap]; simp
theorem OneMore.old {x : Obj} (h : OneMore w w' x) {b : Nat} (hb : b < w.heap.size) : w'.heap[b]? = w.heap[b]? := by
  rw [h.heap, Array.getElem?_push, if_neg (by omega)]
theorem OneMore.size {x : Obj} (h : OneMore w w' x) : w'.heap.size = w.heap.size + 1 := by rw [h.heap]; simp

theorem nv_lt {id v : Nat} {x : Ob} (h : ob id = some (v, x)) : v < nv ob id := by simp [nv, h]

/-- A new block for object id: what stood stands. -/
theorem Stays.alloc (hG : Gam X s ρ a w) {x : Obj} (hw : OneMore w w' x) (id ver : Nat) (hv : ∀ v o, s.ob id = some (v, o) → v < ver) (o' : Ob) (hna : o'.isAbs = false := by rfl) :
    Stays w w' (Free X.B s.ob ρ w) (Free X.B (upd id (ver, o') s.ob) (seti ρ id (some w.heap.size)) w') s.ob (upd id (ver, o') s.ob) ρ (seti ρ id (some w.heap.size)) := by
  refine ⟨fun b ⟨h1, h2, hB⟩ => ⟨⟨by rw [hw.size]; omega, ?_, hB⟩, hw.old h1⟩, fun j v o h => ?_⟩
  · rintro ⟨j, v, o, h3, h4, h5⟩
    by_cases hj : j = id
    · subst hj
      simp [upd] at h3
      obtain ⟨rfl, rfl⟩ := h3
      rw [foot_na hna] at h5
      simp [seti] at h5
      omega
    · simp only [upd, hj, if_false] at h3
      exact h2 ⟨j, v, o, h3, h4, (foot_seti hj).1 h5⟩
  · by_cases hj : j = id
    · subst hj
      exact ⟨ver, o', by simp [upd], Nat.le_of_lt (hv v o h), fun e => by have := hv v o h; omega⟩
    · refine ⟨v, o, by simp [upd, hj, h], Nat.le_refl _, fun _ => ⟨by simp [seti, hj], Keep.refl o, fun b cs e fr hb hh => ⟨cs, e, fr, ?_, rfl⟩⟩⟩
      rw [hw.old (hG.lt h hb).choose_spec.choose_spec.choose_spec.2, hh]

theorem Gam.alloc (hG : Gam X s ρ a w) {x : Obj} (hw : OneMore w w' x) (id ver : Nat) (hpn : X.pn id = none) (hv : ∀ v o, s.ob id = some (v, o) → v < ver) (o' : Ob)
    (ho : ObRel w' (Free X.B (upd id (ver, o') s.ob) (seti ρ id (some w.heap.size)) w') (upd id (ver, o') s.ob) (seti ρ id (some w.heap.size)) id o') (hna : o'.isAbs = false := by rfl) :
    Gam X ⟨s.e, upd id (ver, o') s.ob⟩ (seti ρ id (some w.heap.size)) a w' := by
  refine hG.step (Stays.alloc hG hw id ver hv o' hna) (fun j v o h => ?_) (fun i j x x' b hi hj hbi hbj => ?_) ?_ (fun j v o b h h2 => ?_) (fun j b o h hc hp hb => ?_)
  · by_cases hj : j = id
    · subst hj
      simp [upd] at h
      obtain ⟨rfl, rfl⟩ := h
      exact .inr ho
    · simp only [upd, hj, if_false] at h
      refine .inl ⟨h, by simp [seti, hj], by simp [seti], fun b hb => hw.old (hG.foot_lt h hb)⟩
  · have key : ∀ k (y : Nat × Ob), upd id (ver, o') s.ob k = some y → foot (seti ρ id (some w.heap.size)) k y.2 b → (k = id ∧ b = w.heap.size) ∨ (k ≠ id ∧ s.ob k = some y ∧ foot ρ k y.2 b ∧ b < w.heap.size) := fun k y hk hf => by
      by_cases hki : k = id
      · subst hki
        simp [upd] at hk
        subst hk
        rw [foot_na hna] at hf
        simp [seti] at hf
        exact .inl ⟨rfl, hf.symm⟩
      · simp only [upd, hki, if_false] at hk
        rw [foot_seti hki] at hf
        exact .inr ⟨hki, hk, hf, hG.foot_lt hk hf⟩
    rcases key i x hi hbi with ⟨h1, h2⟩ | ⟨h1, h2, h3, h4⟩ <;> rcases key j x' hj hbj with ⟨g1, g2⟩ | ⟨g1, g2, g3, g4⟩
    · rw [h1, g1]
    · omega
    · omega
    · exact hG.inj i j x x' b h2 g2 h3 g3
  · refine hG.keeps.trans ⟨hw.os, hw.tape, hw.output, by rw [hw.size]; omega, fun b hb _ => hw.old hb⟩
  · by_cases hj : j = id
    · subst hj
      simp [upd] at h
      obtain ⟨rfl, rfl⟩ := h
      rw [foot_na hna] at h2
      simp [seti] at h2
      subst h2
      exact .inr hG.keeps.size
    · simp only [upd, hj, if_false] at h
      rw [foot_seti hj] at h2
      exact hG.own j v o b h h2
  · have hj : j ≠ id := fun e => by rw [e, hpn] at h; cases h
    exact ⟨by simp [seti, hj, hb], o, by simp [upd, hj, hc], hp⟩

/-- A world in which one block is another. -/
structure Mods (w w' : World) (b : Nat) (x : Obj) : Prop where
  os : w'.os = w.os
  tape : w'.tape = w.tape
  output : w'.output = w.output
  size : w'.heap.size = w.heap.size
  new : w'.heap[b]? = some x
  old : ∀ k, k ≠ b → w'.heap[k]? = w.heap[k]?

theorem foot_upd {id v ver : Nat} {x x' : Ob} (hid : ob id = some (v, x)) (h : x'.isAbs = x.isAbs) {j k : Nat} {p : Nat × Ob} (hp : upd id (ver, x') ob j = some p) (hf : foot ρ j p.2 k) : ∃ q, ob j = some q ∧ foot ρ j q.2 k := by
  by_cases hj : j = id
  · subst hj
    simp [upd] at hp
    subst hp
    exact ⟨_, hid, (foot_congr rfl (fun _ => rfl) h).1 hf⟩
  · simp only [upd, hj, if_false] at hp
    exact ⟨p, hp, hf⟩
theorem Stays.modify (hG : Gam X s ρ a w) {id v : Nat} {x x' : Ob} {b : Nat} {cs cs' : Array Value} {e e' : TypeId} {fr fr' : Nat × Nat} (hid : s.ob id = some (v, x)) (hx : x.own = true) (hb : ρ id = some b)
    (hcs : w.heap[b]? = some (.cells cs e fr)) (hm : Mods w w' b (.cells cs' e' fr')) (hsz : cs'.size = cs.size) (ver : Nat) (hv : (ver = v ∧ Keep x x') ∨ v < ver) (hna : x.isAbs = false := by rfl) (hna' : x'.isAbs = false := by rfl) :
    Stays w w' (Free X.B s.ob ρ w) (Free X.B (upd id (ver, x') s.ob) ρ w') s.ob (upd id (ver, x') s.ob) ρ ρ := by
  refine ⟨fun k ⟨h1, h2, hB⟩ => ?_, fun j u o h => ?_⟩
  · have hkb : k ≠ b := fun h => h2 ⟨id, v, x, hid, hx, .inl (by rw [hb, h])⟩
    refine ⟨⟨by rw [hm.size]; exact h1, ?_, hB⟩, hm.old k hkb⟩
    rintro ⟨j, u, o, h3, h4, h5⟩
    unfold upd at h3
    split at h3
    · rename_i hj
      subst hj
      cases h3
      rw [foot_na hna', hb] at h5
      cases h5
      exact hkb rfl
    · exact h2 ⟨j, u, o, h3, h4, h5⟩
  · have hblk : ∀ (k : Nat) (q : Array Value) (eq : TypeId) (fq : Nat × Nat), w.heap[k]? = some (.cells q eq fq) → ∃ q' eq' fq', w'.heap[k]? = some (.cells q' eq' fq') ∧ q'.size = q.size := by
      intro k q eq fq hk
      by_cases hkb : k = b
      · subst hkb
        rw [hcs] at hk
        cases hk
        exact ⟨cs', e', fr', hm.new, hsz⟩
      · exact ⟨q, eq, fq, by rw [hm.old k hkb, hk], rfl⟩
    by_cases hj : j = id
    · subst hj
      rw [hid] at h
      cases h
      rcases hv with ⟨rfl, hk⟩ | hv
      · exact ⟨_, x', by simp [upd], Nat.le_refl _, fun _ => ⟨rfl, hk, fun k q eq fq _ hh => hblk k q eq fq hh⟩⟩
      · exact ⟨ver, x', by simp [upd], Nat.le_of_lt hv, fun h => by omega⟩
    · exact ⟨u, o, by simp [upd, hj, h], Nat.le_refl _, fun _ => ⟨rfl, Keep.refl o, fun k q eq fq _ hh => hblk k q eq fq hh⟩⟩

theorem Gam.modify (hG : Gam X s ρ a w) {id v : Nat} {x x' : Ob} {b : Nat} {cs cs' : Array Value} {e e' : TypeId} {fr fr' : Nat × Nat} (hid : s.ob id = some (v, x)) (hx : x.own = true) (hb : ρ id = some b)
    (hcs : w.heap[b]? = some (.cells cs e fr)) (hm : Mods w w' b (.cells cs' e' fr')) (hsz : cs'.size = cs.size) (ver : Nat) (hv : (ver = v ∧ Keep x x') ∨ v < ver) (hpn : X.pn id = none ∨ (ver = v ∧ Keep x x'))
    (ho : ObRel w' (Free X.B (upd id (ver, x') s.ob) ρ w') (upd id (ver, x') s.ob) ρ id x') (hna : x.isAbs = false := by rfl) (hna' : x'.isAbs = false := by rfl) : Gam X ⟨s.e, upd id (ver, x') s.ob⟩ ρ a w' := by
  have hne : ∀ j u, j ≠ id → s.ob j = some u → ∀ k, foot ρ j u.2 k → k ≠ b := fun j u hj h k hk hkb => by
    subst hkb
    exact hj (hG.inj j id u _ k h hid hk (.inl hb))
  refine hG.step (Stays.modify hG hid hx hb hcs hm hsz ver hv hna hna') (fun j u o h => ?_) (fun i j p p' k hi hj hbi hbj => ?_) ?_ (fun j u o k h h2 => ?_) (fun j k o h hc hp hk => ?_)
  · by_cases hj : j = id
    · subst hj
      simp [upd] at h
      obtain ⟨rfl, rfl⟩ := h
      exact .inr ho
    · simp only [upd, hj, if_false] at h
      exact .inl ⟨h, rfl, fun _ => rfl, fun k hk => hm.old k (hne j _ hj h k hk)⟩
  · obtain ⟨_, h1, h3⟩ := foot_upd hid (hna'.trans hna.symm) hi hbi
    obtain ⟨_, h2, h4⟩ := foot_upd hid (hna'.trans hna.symm) hj hbj
    exact hG.inj i j _ _ k h1 h2 h3 h4
  · have hk := hG.keeps
    refine ⟨hm.os.trans hk.os, hm.tape.trans hk.tape, hm.output.trans hk.output, by rw [hm.size]; exact hk.size, fun k hk1 hI => ?_⟩
    by_cases hkb : k = b
    · subst hkb
      rcases hG.own id v x k hid (.inl hb) with h | h
      · exact absurd h hI
      · omega
    · rw [hm.old k hkb]
      exact hk.block k hk1 hI
  · obtain ⟨⟨v0, o0⟩, h1, h3⟩ := foot_upd hid (hna'.trans hna.symm) h h2
    exact hG.own j v0 o0 k h1 h3
  · refine ⟨hk, ?_⟩
    by_cases hj : j = id
    · subst hj
      rw [hid] at hc
      cases hc
      rcases hpn with hpn | ⟨rfl, hkp⟩
      · rw [hpn] at h; cases h
      · refine ⟨x', by simp [upd], ?_⟩
        cases x <;> cases x' <;> first | rfl | exact hkp.elim | cases hp
    · exact ⟨o, by simp [upd, hj, hc], hp⟩

/-- A row is given away. -/
theorem Stays.freeze1 {id v sz : Nat} {z : RV} {app wr : Bool} {xs : List RV} (hid : s.ob id = some (v, .row sz z app wr xs)) :
    Stays w w (Free X.B s.ob ρ w) (Free X.B (upd id (v, .row sz z app false xs) s.ob) ρ w) s.ob (upd id (v, .row sz z app false xs) s.ob) ρ ρ := by
  refine ⟨fun b ⟨h1, h2, hB⟩ => ⟨⟨h1, ?_, hB⟩, rfl⟩, fun j u o h => ?_⟩
  · rintro ⟨j, u, o, h3, h4, h5⟩
    unfold upd at h3
    split at h3
    · cases h3; cases h4
    · exact h2 ⟨j, u, o, h3, h4, h5⟩
  · by_cases hj : j = id
    · subst hj
      rw [hid] at h
      cases h
      exact ⟨v, .row sz z app false xs, by simp [upd], Nat.le_refl _, fun _ => ⟨rfl, ⟨rfl, Nat.le_refl _⟩, fun b cs e fr _ h => ⟨cs, e, fr, h, rfl⟩⟩⟩
    · exact ⟨u, o, by simp [upd, hj, h], Nat.le_refl _, fun _ => ⟨rfl, Keep.refl o, fun b cs e fr _ h => ⟨cs, e, fr, h, rfl⟩⟩⟩
theorem Gam.freeze1 (hG : Gam X s ρ a w) {id v sz : Nat} {z : RV} {app wr : Bool} {xs : List RV} (hid : s.ob id = some (v, .row sz z app wr xs)) : Gam X ⟨s.e, upd id (v, .row sz z app false xs) s.ob⟩ ρ a w := by
  have hs := Stays.freeze1 (X := X) (w := w) (ρ := ρ) hid
  refine hG.step hs (fun j u o h => ?_) (fun i j p p' k hi hj hbi hbj => ?_) hG.keeps (fun j u o k h h2 => ?_) (fun j k o h hc hp hk => ⟨hk, o, ?_, hp⟩)
  · by_cases hj : j = id
    · subst hj
      simp [upd] at h
      obtain ⟨rfl, rfl⟩ := h
      refine .inr ?_
      have := (hG.obj _ _ _ hid).stays hs rfl (fun _ => rfl) (fun _ _ => rfl)
      exact this
    · simp only [upd, hj, if_false] at h
      exact .inl ⟨h, rfl, fun _ => rfl, fun _ _ => rfl⟩
  · obtain ⟨_, h1, h3⟩ := foot_upd (x' := .row sz z app false xs) hid rfl hi hbi
    obtain ⟨_, h2, h4⟩ := foot_upd (x' := .row sz z app false xs) hid rfl hj hbj
    exact hG.inj i j _ _ k h1 h2 h3 h4
  · obtain ⟨⟨v0, o0⟩, h1, h3⟩ := foot_upd (x' := .row sz z app false xs) (p := (u, o)) hid rfl h h2
    exact hG.own j v0 o0 k h1 h3
  · have hj : j ≠ id := fun e => by rw [e, hid] at hc; cases hc; cases hp
    simp [upd, hj, hc]
theorem Gam.frz {ob : Obs} (h : Gam X ⟨s.e, ob⟩ ρ a w) (i : Nat) : Gam X ⟨s.e, Ev.frz ob i (ob i)⟩ ρ a w := by
  rcases hi : ob i with _ | ⟨v, cells | ⟨sz, z, app, wr, xs⟩ | T⟩
  · exact h
  · exact h
  · exact h.freeze1 (s := ⟨s.e, ob⟩) hi
  · exact h
theorem Gam.freeze : ∀ (l : List Nat) {ob : Obs}, Gam X ⟨s.e, ob⟩ ρ a w → Gam X ⟨s.e, Ev.freeze ob l⟩ ρ a w
  | [], _, h => h
  | i :: is, _, h => Gam.freeze is (h.frz i)
theorem frz_row {i j v sz : Nat} {z : RV} {app wr : Bool} {xs : List RV} {ob : Obs} (h : ob i = some (v, .row sz z app wr xs)) : ∃ wr', Ev.frz ob j (ob j) i = some (v, .row sz z app wr' xs) ∧ (wr = false ∨ i = j → wr' = false) := by
  by_cases hij : i = j
  · subst hij
    rw [h]
    exact ⟨false, by simp [Ev.frz, upd], fun _ => rfl⟩
  · refine ⟨wr, ?_, fun hh => hh.resolve_right hij⟩
    rcases hj : ob j with _ | ⟨v', cells | ⟨sz', z', app', wr', xs'⟩ | T⟩ <;> simp [Ev.frz, upd, hij, h]
theorem freeze_row {i v sz : Nat} {z : RV} {app : Bool} {xs : List RV} : ∀ (l : List Nat) (ob : Obs) (wr : Bool), ob i = some (v, .row sz z app wr xs) → ∃ wr', Ev.freeze ob l i = some (v, .row sz z app wr' xs) ∧ (wr = false ∨ i ∈ l → wr' = false)
  | [], ob, wr, h => ⟨wr, h, fun h => h.resolve_right (by simp)⟩
  | j :: l, ob, wr, h => by
    obtain ⟨w1, h1, h2⟩ := frz_row (j := j) h
    obtain ⟨w2, h3, h4⟩ := freeze_row l _ w1 h1
    refine ⟨w2, h3, fun hh => h4 ?_⟩
    rcases hh with hh | hh
    · exact .inl (h2 (.inl hh))
    · rcases List.mem_cons.1 hh with hh | hh
      · exact .inl (h2 (.inr hh))
      · exact .inr hh

/-- A handle of a row that is written no more is a value that may be shared. -/
theorem own_rv (hG : Gam X s ρ a w) {id ver lo len sz : Nat} {z : RV} {app : Bool} {xs : List RV} {c : Value} (hid : s.ob id = some (ver, .row sz z app false xs)) (h : RA X s ρ w (.own id ver lo len) c) :
    RelV w (Free X.B s.ob ρ w) (.sl sz ((xs.drop lo).take len)) c := by
  cases h
  rename_i h
  obtain ⟨A, cap, rfl, e2, e3, e4, e5⟩ := h.live hid
  have hlen : ((xs.drop lo).take len).length = len := by simp; omega
  rcases hG.obj id ver _ hid with ⟨h1, h2⟩ | ⟨b, cs, e, fr, h1, h2, h3, h4, h5, h6⟩
  · subst h1
    have : len = 0 := by have : lo + len ≤ 0 := e4; omega
    subst this
    refine (?_ : RelV w (Free X.B s.ob ρ w) (.sl sz []) _)
    exact .sl sz [] A cap (by simp) e3 0 0 (fun _ _ => undef) (by simp) (by simp) (by simp) (by simp)
  · have key := RelV.sl (w := w) (R := Free X.B s.ob ρ w) sz ((xs.drop lo).take len) A cap (by omega) e3 b (lo * sz) (fun i j => (cs[(lo + i) * sz + j]?).getD undef)
    rw [hlen] at key
    have hget : ∀ (i : Nat) (x : RV), ((xs.drop lo).take len)[i]? = some x → xs[lo + i]? = some x := fun i x hi => by
      rw [List.getElem?_take] at hi
      split at hi
      · rwa [List.getElem?_drop] at hi
      · cases hi
    refine key (fun h0 => ?_) (fun i x hi => (h6 _ x (hget i x hi)).1) (fun i x j y hi hj => ?_) (fun i x j y hi hj => ?_)
    · obtain ⟨b', cs', e', fr', f1, f2, f3, f4⟩ := e5 (by omega)
      rw [h1] at f1
      cases f1
      refine ⟨f2, (Array.getElem?_eq_some_iff.1 h2).1, ?_, hG.base b (hG.own _ _ _ b hid (.inl h1))⟩
      rintro ⟨j, v, o, g1, g2, g3⟩
      have := hG.inj id j _ _ b hid g1 (.inl h1) g3
      subst this
      rw [hid] at g1
      cases g1
      cases g2
    · obtain ⟨c, g1, g2, g3⟩ := (h6 _ x (hget i x hi)).2 j y hj
      rw [g1]
      refine ⟨?_, g2⟩
      simp only [World.cell?, h2, Option.isSome_none, Bool.false_eq_true, if_false, Option.getD_some]
      rw [← g1, Nat.add_mul]
    · obtain ⟨c, g1, g2, g3⟩ := (h6 _ x (hget i x hi)).2 j y hj
      rw [g1]
      exact g3

theorem rv_rel (hG : Gam X s ρ a w) {ob : Obs} {x : AV} {y : RV} {fz l : List Nat} {c : Value} (h : x.rv ob = some (y, fz)) (hsub : ∀ i ∈ fz, i ∈ l) (hob : s.ob = Ev.freeze ob l) (hx : RA X s ρ w x c) : RelV w (Free X.B s.ob ρ w) y c := by
  unfold AV.rv at h
  split at h
  · cases h; cases hx; assumption
  · cases h; cases hx
    exact .sl _ [] none 0 (by simp) (by simp) 0 0 (fun _ _ => undef) (by simp) (by simp) (by simp) (by simp)
  · split at h
    · rename_i hr
      cases h
      obtain ⟨wr', h1, h2⟩ := freeze_row l ob _ (rowAt_some hr)
      rw [h2 (.inr (hsub _ (by simp)))] at h1
      rw [← hob] at h1
      exact own_rv hG h1 hx
    · cases h
  · cases h

/-- An empty row without a block. -/
theorem Stays.nil (id ver : Nat) (hv : ∀ v o, s.ob id = some (v, o) → v < ver) (x : Ob) (hna : x.isAbs = false := by rfl) :
    Stays w w (Free X.B s.ob ρ w) (Free X.B (upd id (ver, x) s.ob) (seti ρ id none) w) s.ob (upd id (ver, x) s.ob) ρ (seti ρ id none) := by
  refine ⟨fun b ⟨h1, h2, hB⟩ => ⟨⟨h1, ?_, hB⟩, rfl⟩, fun j v o h => ?_⟩
  · rintro ⟨j, v, o, h3, h4, h5⟩
    by_cases hj : j = id
    · subst hj
      simp [upd] at h3
      obtain ⟨rfl, rfl⟩ := h3
      rw [foot_na hna] at h5
      simp [seti] at h5
    · simp only [upd, hj, if_false] at h3
      exact h2 ⟨j, v, o, h3, h4, (foot_seti hj).1 h5⟩
  · by_cases hj : j = id
    · subst hj
      exact ⟨ver, x, by simp [upd], Nat.le_of_lt (hv v o h), fun e => by have := hv v o h; omega⟩
    · exact ⟨v, o, by simp [upd, hj, h], Nat.le_refl _, fun _ => ⟨by simp [seti, hj], Keep.refl o, fun b cs e fr hb hh => ⟨cs, e, fr, hh, rfl⟩⟩⟩
theorem Gam.nil (hG : Gam X s ρ a w) (id ver : Nat) (hpn : X.pn id = none) (hv : ∀ v o, s.ob id = some (v, o) → v < ver) (sz : Nat) (z : RV) (app wr : Bool) :
    Gam X ⟨s.e, upd id (ver, .row sz z app wr []) s.ob⟩ (seti ρ id none) a w := by
  refine hG.step (Stays.nil id ver hv _ rfl) (fun j v o h => ?_) (fun i j p p' k hi hj hbi hbj => ?_) hG.keeps (fun j v o b h h2 => ?_) (fun j b o h hc hp hb => ?_)
  · by_cases hj : j = id
    · subst hj
      simp [upd] at h
      obtain ⟨rfl, rfl⟩ := h
      exact .inr (.inl ⟨rfl, by simp [seti]⟩)
    · simp only [upd, hj, if_false] at h
      exact .inl ⟨h, by simp [seti, hj], by simp [seti], fun _ _ => rfl⟩
  · have key : ∀ k' (y : Nat × Ob), upd id (ver, .row sz z app wr []) s.ob k' = some y → foot (seti ρ id none) k' y.2 k → s.ob k' = some y ∧ foot ρ k' y.2 k := fun k' y hk hf => by
      by_cases hki : k' = id
      · subst hki
        simp [upd] at hk
        subst hk
        rw [foot_na rfl] at hf
        simp [seti] at hf
      · simp only [upd, hki, if_false] at hk
        rw [foot_seti hki] at hf
        exact ⟨hk, hf⟩
    obtain ⟨h1, h2⟩ := key i p hi hbi
    obtain ⟨h3, h4⟩ := key j p' hj hbj
    exact hG.inj i j p p' k h1 h3 h2 h4
  · by_cases hj : j = id
    · subst hj
      simp [upd] at h
      obtain ⟨rfl, rfl⟩ := h
      rw [foot_na rfl] at h2
      simp [seti] at h2
    · simp only [upd, hj, if_false] at h
      rw [foot_seti hj] at h2
      exact hG.own j v o b h h2
  · have hj : j ≠ id := fun e => by rw [e, hpn] at h; cases h
    exact ⟨by simp [seti, hj, hb], o, by simp [upd, hj, hc], hp⟩
/-- A row's object is not one of those that the caller holds by pointers. -/
theorem Gam.unpinned (hG : Gam X s ρ a w) {id v sz : Nat} {z : RV} {app wr : Bool} {xs : List RV} (hid : s.ob id = some (v, .row sz z app wr xs)) : X.pn id = none := by
  rcases h : X.pn id with _ | b
  · rfl
  · obtain ⟨_, cells, hc, hp⟩ := hG.pin id b h
    rw [hid] at hc
    cases hc
    cases hp
end
end Go.Ev

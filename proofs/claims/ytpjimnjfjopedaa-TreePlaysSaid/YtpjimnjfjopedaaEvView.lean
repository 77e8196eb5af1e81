import Derived.Test.YtpjimnjfjopedaaEvLaw
namespace Go.Ev
open Go
set_option linter.unnecessarySimpa false
set_option linter.unusedSimpArgs false
set_option linter.unusedVariables false

mutual
theorem imV_free (F : Ren) : ∀ (x : AV), hids x = [] → imV F x = x
  | .r x, h => by rw [imV]
  | .agg xs, h => by rw [imV, imL_free F xs (by simpa [hids] using h)]
  | .tup xs, h => by rw [imV, imL_free F xs (by simpa [hids] using h)]
  | .nils sz z, h => by rw [imV]
  | .own id ver lo len, h => by simp [hids] at h
  | .ptr id ver off, h => by simp [hids] at h
  | .oel id ver idx off, h => by simp [hids] at h
  | .rp ys, h => by rw [imV]
  | .fn f xs k, h => by rw [imV, imL_free F xs (by simpa [hids] using h)]
  | .gd b x, h => by rw [imV, imV_free F x (by simpa [hids] using h)]
  | .undef, h => by rw [imV]
theorem imL_free (F : Ren) : ∀ (xs : List AV), hidL xs = [] → imL F xs = xs
  | [], h => by rw [imL]
  | x :: xs, h => by
    rw [hidL, List.append_eq_nil_iff] at h
    rw [imL, imV_free F x h.1, imL_free F xs h.2]
end
theorem hidL_at : ∀ {xs : List AV}, hidL xs = [] → ∀ {i : Nat} {x : AV}, xs[i]? = some x → hids x = []
  | [], _, i, x, hx => by simp at hx
  | y :: ys, h, 0, x, hx => by simp at hx; subst hx; rw [hidL, List.append_eq_nil_iff] at h; exact h.1
  | y :: ys, h, i + 1, x, hx => by simp at hx; rw [hidL, List.append_eq_nil_iff] at h; exact hidL_at h.2 hx

section
variable {P : Program} {f : FuncId} {as : List AV} {res : AV} {T : AbsT} {w w' : World} {ob ob' : Obs} {ρ ρ' : Pl → Option Nat} {R R' : Nat → Prop}
theorem RelA.free {x : AV} {c : Value} (h : RelA w R ob ρ x c) (hx : hids x = []) (hR : ∀ b, R b → R' b) : RelA w R' ob' ρ' x c := by
  have := h.im (F := fun _ _ => none) (ob' := ob') (ρ' := ρ') hR (fun _ _ _ _ h => by cases h)
  rwa [imV_free _ _ hx] at this

/-- A thing of many blocks is handed by its pointer to what only reads it. -/
theorem view0 (h : Triple P f (.rp T.view :: as) [] res []) (has : hidL as = []) (hres : hids res = []) (hf : Flat res) :
    Triple P f (.ptr 1000000 0 0 :: as) [.abs T] res [.abs T] := by
  intro w cargs ρ B hgl hB hM hcs hargs
  have hob : ob0 [Ob.abs T] 1000000 = some (0, .abs T) := by simp [ob0, obs, upd]
  obtain ⟨b, hρ, hQ⟩ := hM.obj 1000000 0 (.abs T) hob
  have hfoot : ∀ c, foot ρ 1000000 (.abs T) c → c < w.heap.size := fun c hc => (hM.obj 1000000 0 (.abs T) hob).foot_lt hc
  have hnone : ∀ c, ¬ Held (ob0 []) (fun _ => none) c := fun c ⟨id, x, h1, _⟩ => by simp [ob0, obs] at h1
  have hfree : ∀ c, c < w.heap.size → Free (fun _ => True) (ob0 []) (fun _ => none) w c := fun c hc => ⟨hc, fun ⟨id, v, o, h1, _⟩ => by simp [ob0, obs] at h1, trivial⟩
  refine (h w cargs (fun _ => none) (fun _ => True) (hgl.keep fun g h1 h2 => ⟨rfl, hnone g⟩) (fun _ _ => trivial)
    ⟨fun id v o h1 => by simp [ob0, obs] at h1, fun id id' x x' b h1 => by simp [ob0, obs] at h1, Keeps.refl _ _, fun id v o b h1 => by simp [ob0, obs] at h1, fun id b h1 => by cases h1⟩
    (by rw [hcs]; rfl) (fun i x c hx hc => ?_)).mono ?_
  · cases i with
    | zero =>
      simp at hx
      subst hx
      have h0 := hargs 0 _ c rfl hc
      cases h0 with
      | ptr _ _ _ _ hc1 hat =>
        obtain ⟨b', hb', rfl⟩ := hat.live hob
        rw [hρ] at hb'
        cases hb'
        obtain ⟨g, hg⟩ := T.rp (Free (fun _ => True) (ob0 []) (fun _ => none) w) hQ (hfree b (hfoot b (.inl hρ))) fun j c hc => hfree c (hfoot c (.inr ⟨rfl, j, hc⟩))
        exact .rp T.view b 0 g (hfree b (hfoot b (.inl hρ))) hg
    | succ i =>
      simp at hx
      exact (hargs (i + 1) x c (by simpa using hx) hc).free (hidL_at has hx) fun b hb => hfree b hb.1
  · rintro e w' ⟨c, ρ', rfl, hM', hr⟩
    have hblk : ∀ c, c < w.heap.size → w'.heap[c]? = w.heap[c]? := fun c hc => hM'.keeps.block c hc (hnone c)
    have hid : ∀ id x, ob0 [Ob.abs T] id = some x → id = 1000000 ∧ x = (0, .abs T) := fun id x hx => by
      obtain ⟨h1, h2, h3⟩ := ob0_some hx
      have : id - 1000000 = 0 := by
        have := (List.getElem?_eq_some_iff.1 h2).1
        simpa using this
      have hid : id = 1000000 := by omega
      subst hid
      rw [hob] at hx
      exact ⟨rfl, (Option.some.inj hx).symm⟩
    refine ⟨c, ρ, rfl, ⟨fun id v o hx => ?_, hM.inj, ⟨hM'.keeps.os, hM'.keeps.tape, hM'.keeps.output, hM'.keeps.size, fun b hb _ => hblk b hb⟩, hM.own, fun id b hp => ?_⟩, ?_⟩
    · obtain ⟨rfl, hx⟩ := hid id _ hx
      cases hx
      exact ⟨b, hρ, T.loc hQ (hblk b (hfoot b (.inl hρ))) fun j c hc => hblk c (hfoot c (.inr ⟨rfl, j, hc⟩))⟩
    · simp only [pinOf] at hp
      split at hp
      · rename_i v o hx
        split at hp
        · rename_i ho
          obtain ⟨rfl, hx'⟩ := hid id _ hx
          cases hx'
          exact ⟨hp, _, hx, ho⟩
        · cases hp
      · cases hp
    · exact (hr.flat (R' := Free B (ob0 [.abs T]) ρ w') hf).free hres fun _ h => h
/-- A nil slice as an empty row of one's own. -/
theorem nil_own {as : List AV} {sz : Nat} {z : RV} (h : Triple P f as [] (.nils sz z) []) : Triple P f as [] (.own 1000000 0 0 0) [.row sz z true true []] := by
  intro w cargs ρ B hgl hB hM hcs hargs
  refine (h w cargs ρ B hgl hB hM hcs hargs).mono ?_
  rintro e w' ⟨c, ρ', rfl, hM', hr⟩
  cases hr
  have hob : ob0 [Ob.row sz z true true []] 1000000 = some (0, .row sz z true true []) := by simp [ob0, obs, upd]
  have hid : ∀ id x, ob0 [Ob.row sz z true true []] id = some x → id = 1000000 ∧ x = (0, .row sz z true true []) := fun id x hx => by
    obtain ⟨h1, h2, h3⟩ := ob0_some hx
    have : id - 1000000 = 0 := by
      have := (List.getElem?_eq_some_iff.1 h2).1
      simpa using this
    have hid : id = 1000000 := by omega
    subst hid
    rw [hob] at hx
    exact ⟨rfl, (Option.some.inj hx).symm⟩
  refine ⟨_, fun _ => none, rfl, ⟨fun id v o hx => ?_, fun id id' x x' b hx hx' _ _ => by rw [(hid id _ hx).1, (hid id' _ hx').1], hM'.keeps, fun id v o b hx hf => ?_, fun id b hp => by simp [pinOf, obs] at hp⟩, ?_⟩
  · obtain ⟨rfl, hx⟩ := hid id _ hx
    cases hx
    exact .inl ⟨rfl, rfl⟩
  · rcases hf with hf | ⟨_, j, hf⟩ <;> cases hf
  · exact .own _ _ _ _ _ rfl ⟨0, _, hob, Nat.le_refl _, fun _ => ⟨none, 0, rfl, Nat.le_refl _, by simp, by simp, by simp⟩⟩
/-- A reader that makes a row. -/
theorem view1 {as : List AV} {n sz : Nat} {z : RV} {xs : List RV} (h : Triple P f (.rp T.view :: as) [] (.own 1000000 0 0 n) [.row sz z true true xs]) (has : hidL as = []) (hfl : ∀ x ∈ xs, FlatR x) :
    Triple P f (.ptr 1000000 0 0 :: as) [.abs T] (.own 1000001 0 0 n) [.abs T, .row sz z true true xs] := by
  intro w cargs ρ B hgl hB hM hcs hargs
  have hob : ob0 [Ob.abs T] 1000000 = some (0, .abs T) := by simp [ob0, obs, upd]
  obtain ⟨b, hρ, hQ⟩ := hM.obj 1000000 0 (.abs T) hob
  have hfoot : ∀ c, foot ρ 1000000 (.abs T) c → c < w.heap.size := fun c hc => (hM.obj 1000000 0 (.abs T) hob).foot_lt hc
  have hnone : ∀ c, ¬ Held (ob0 []) (fun _ => none) c := fun c ⟨id, x, h1, _⟩ => by simp [ob0, obs] at h1
  have hfree : ∀ c, c < w.heap.size → Free (fun _ => True) (ob0 []) (fun _ => none) w c := fun c hc => ⟨hc, fun ⟨id, v, o, h1, _⟩ => by simp [ob0, obs] at h1, trivial⟩
  refine (h w cargs (fun _ => none) (fun _ => True) (hgl.keep fun g h1 h2 => ⟨rfl, hnone g⟩) (fun _ _ => trivial)
    ⟨fun id v o h1 => by simp [ob0, obs] at h1, fun id id' x x' b h1 => by simp [ob0, obs] at h1, Keeps.refl _ _, fun id v o b h1 => by simp [ob0, obs] at h1, fun id b h1 => by cases h1⟩
    (by rw [hcs]; rfl) (fun i x c hx hc => ?_)).mono ?_
  · cases i with
    | zero =>
      simp at hx
      subst hx
      have h0 := hargs 0 _ c rfl hc
      cases h0 with
      | ptr _ _ _ _ hc1 hat =>
        obtain ⟨b', hb', rfl⟩ := hat.live hob
        rw [hρ] at hb'
        cases hb'
        obtain ⟨g, hg⟩ := T.rp (Free (fun _ => True) (ob0 []) (fun _ => none) w) hQ (hfree b (hfoot b (.inl hρ))) fun j c hc => hfree c (hfoot c (.inr ⟨rfl, j, hc⟩))
        exact .rp T.view b 0 g (hfree b (hfoot b (.inl hρ))) hg
    | succ i =>
      simp at hx
      exact (hargs (i + 1) x c (by simpa using hx) hc).free (hidL_at has hx) fun b hb => hfree b hb.1
  · rintro e w' ⟨c, ρ', rfl, hM', hr⟩
    have hblk : ∀ c, c < w.heap.size → w'.heap[c]? = w.heap[c]? := fun c hc => hM'.keeps.block c hc (hnone c)
    have hob1 : ob0 [Ob.row sz z true true xs] 1000000 = some (0, .row sz z true true xs) := by simp [ob0, obs, upd]
    have hobA : ob0 [Ob.abs T, .row sz z true true xs] 1000000 = some (0, .abs T) := by simp [ob0, obs, upd]
    have hobR : ob0 [Ob.abs T, .row sz z true true xs] 1000001 = some (0, .row sz z true true xs) := by simp [ob0, obs, upd]
    have hid : ∀ id x, ob0 [Ob.abs T, .row sz z true true xs] id = some x → (id = 1000000 ∧ x = (0, .abs T)) ∨ (id = 1000001 ∧ x = (0, .row sz z true true xs)) := fun id x hx => by
      obtain ⟨h1, h2, h3⟩ := ob0_some hx
      have : id - 1000000 < 2 := by
        have := (List.getElem?_eq_some_iff.1 h2).1
        simpa using this
      have hid : id = 1000000 ∨ id = 1000001 := by omega
      rcases hid with rfl | rfl
      · rw [hobA] at hx; exact .inl ⟨rfl, (Option.some.inj hx).symm⟩
      · rw [hobR] at hx; exact .inr ⟨rfl, (Option.some.inj hx).symm⟩
    obtain ⟨ρ2, r1, r2, r3, r4⟩ : ∃ ρ2 : Pl → Option Nat, ρ2 (.o 1000000) = some b ∧ (∀ j, ρ2 (.s 1000000 j) = ρ (.s 1000000 j)) ∧ ρ2 (.o 1000001) = ρ' (.o 1000000) ∧ (∀ j, ρ2 (.s 1000001 j) = none) :=
      ⟨fun | .o i => if i = 1000000 then some b else if i = 1000001 then ρ' (.o 1000000) else none | .s i j => if i = 1000000 then ρ (.s 1000000 j) else none, by simp, by simp, by simp, by simp⟩
    have hnew : ∀ c, ρ' (.o 1000000) = some c → w.heap.size ≤ c := fun c hc => by
      rcases hM'.own 1000000 0 _ c hob1 (.inl hc) with q | q
      · exact (hnone c q).elim
      · exact q
    have hfa : ∀ c, foot ρ2 1000000 (.abs T) c → c < w.heap.size ∧ foot ρ 1000000 (.abs T) c := fun c hc => by
      have : foot ρ 1000000 (.abs T) c := by
        rcases hc with q | ⟨q1, j, q⟩
        · rw [r1] at q; exact .inl (hρ.trans q)
        · rw [r2] at q; exact .inr ⟨rfl, j, q⟩
      exact ⟨hfoot c this, this⟩
    have hfr : ∀ c, foot ρ2 1000001 (.row sz z true true xs) c → w.heap.size ≤ c := fun c hc => by
      rcases hc with q | ⟨q1, j, q⟩
      · rw [r3] at q; exact hnew c q
      · cases q1
    have hrow := hM'.obj 1000000 0 _ hob1
    refine ⟨c, ρ2, rfl, ⟨fun id v o hx => ?_, fun id id' x x' c hx hx' hf hf' => ?_, ⟨hM'.keeps.os, hM'.keeps.tape, hM'.keeps.output, hM'.keeps.size, fun b hb _ => hblk b hb⟩, fun id v o c hx hf => ?_, fun id c hp => ?_⟩, ?_⟩
    · rcases hid id _ hx with ⟨rfl, hx⟩ | ⟨rfl, hx⟩
      · cases hx
        refine ⟨b, r1, ?_⟩
        rw [show (fun j => ρ2 (.s 1000000 j)) = fun j => ρ (.s 1000000 j) from funext r2]
        exact T.loc hQ (hblk b (hfoot b (.inl hρ))) fun j c hc => hblk c (hfoot c (.inr ⟨rfl, j, hc⟩))
      · cases hx
        rcases hrow with ⟨q1, q2⟩ | ⟨b1, cs, e, fr, q1, q2, q3, q4, q5, q6⟩
        · exact .inl ⟨q1, by rw [r3]; exact q2⟩
        · refine .inr ⟨b1, cs, e, fr, by rw [r3]; exact q1, q2, q3, q4, q5, fun i x hx => ⟨(q6 i x hx).1, fun j y hy => ?_⟩⟩
          obtain ⟨u, t1, t2, t3⟩ := (q6 i x hx).2 j y hy
          exact ⟨u, t1, t2, t3.flat (FlatRs.cells (hfl x (List.mem_of_getElem? hx)) hy)⟩
    · rcases hid id _ hx with ⟨rfl, ex⟩ | ⟨rfl, ex⟩ <;> rcases hid id' _ hx' with ⟨rfl, ex'⟩ | ⟨rfl, ex'⟩
      · rfl
      · subst ex; subst ex'
        have h1 := (hfa c hf).1
        have h2 := hfr c hf'
        omega
      · subst ex; subst ex'
        have h1 := (hfa c hf').1
        have h2 := hfr c hf
        omega
      · rfl
    · rcases hid id _ hx with ⟨rfl, hx⟩ | ⟨rfl, hx⟩
      · cases hx
        exact .inl ⟨1000000, _, hob, (hfa c hf).2⟩
      · cases hx
        exact .inr (hfr c hf)
    · simp only [pinOf] at hp
      split at hp
      · rename_i v o hx
        split at hp
        · rename_i ho
          have hid0 : id = 1000000 ∧ (v, o) = (0, Ob.abs T) := by
            obtain ⟨h1, h2, h3⟩ := ob0_some hx
            have : id - 1000000 = 0 := by
              have := (List.getElem?_eq_some_iff.1 h2).1
              simpa using this
            have hid : id = 1000000 := by omega
            subst hid
            rw [hob] at hx
            exact ⟨rfl, (Option.some.inj hx).symm⟩
          obtain ⟨rfl, hx'⟩ := hid0
          refine ⟨by rw [r1, ← hp, hρ], _, hobA, rfl⟩
        · cases hp
      · cases hp
    · cases hr with
      | own _ _ _ _ c hc hat =>
        refine .own _ _ _ _ _ hc ⟨0, _, hobR, Nat.le_refl _, fun _ => ?_⟩
        have := hat.live hob1
        obtain ⟨A, cap, e1, e2, e3, e4, e5⟩ := this
        refine ⟨A, cap, e1, e2, e3, e4, fun h0 => ?_⟩
        obtain ⟨b1, cs, e, fr, f1, f2⟩ := e5 h0
        exact ⟨b1, cs, e, fr, by rw [r3]; exact f1, f2⟩
end
end Go.Ev

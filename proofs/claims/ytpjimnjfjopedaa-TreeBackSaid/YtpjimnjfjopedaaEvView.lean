import Derived.Test.YtpjimnjfjopedaaEvLaw
namespace Go.Ev
open Go
set_option linter.unnecessarySimpa false
set_option linter.unusedSimpArgs false
set_option linter.unusedVariables false

mutual
theorem imV_free (F : Ren) : ∀ (x : AV), hids x = [] → imV F x = x
  | .r x, h => by rw [imV]
  | .agg xs, h => by rw [imV, imL_free F xs (by simpa [hids] using h)]
  | .tup xs, h => by rw [imV, imL_free F xs (by simpa [hids] using h)]
  | .nils sz z, h => by rw [imV]
  | .own id ver lo len, h => by simp [hids] at h
  | .ptr id ver off, h => by simp [hids] at h
  | .oel id ver idx off, h => by simp [hids] at h
  | .rp ys, h => by rw [imV]
  | .fn f xs k, h => by rw [imV, imL_free F xs (by simpa [hids] using h)]
  | .gd b x, h => by rw [imV, imV_free F x (by simpa [hids] using h)]
  | .undef, h => by rw [imV]
theorem imL_free (F : Ren) : ∀ (xs : List AV), hidL xs = [] → imL F xs = xs
  | [], h => by rw [imL]
  | x :: xs, h => by
    rw [hidL, List.append_eq_nil_iff] at h
    rw [imL, imV_free F x h.1, imL_free F xs h.2]
end
theorem hidL_at : ∀ {xs : List AV}, hidL xs = [] → ∀ {i : Nat} {x : AV}, xs[i]? = some x → hids x = []
  | [], _, i, x, hx => by simp at hx
  | y :: ys, h, 0, x, hx => by simp at hx; subst hx; rw [hidL, List.append_eq_nil_iff] at h; exact h.1
  | y :: ys, h, i + 1, x, hx => by simp at hx; rw [hidL, List.append_eq_nil_iff] at h; exact hidL_at h.2 hx

section
variable {P : Program} {f : FuncId} {as : List AV} {res : AV} {T : AbsT} {w w' : World} {ob ob' : Obs} {ρ ρ' : Pl → Option Nat} {R R' : Nat → Prop}
theorem RelA.free {x : AV} {c : Value} (h : RelA w R ob ρ x c) (hx : hids x = []) (hR : ∀ b, R b → R' b) : RelA w R' ob' ρ' x c := by
  have := h.im (F := fun _ _ => none) (ob' := ob') (ρ' := ρ') hR (fun _ _ _ _ h => by cases h)
  rwa [imV_free _ _ hx] at this

/-- A thing of many blocks is handed by its pointer to what only reads it. -/
theorem view0 (h : Triple P f (.rp T.view :: as) [] res []) (has : hidL as = []) (hres : hids res = []) (hf : Flat res) :
    Triple P f (.ptr 1000000 0 0 :: as) [.abs T] res [.abs T] := by
  intro w cargs ρ B hgl hB hM hcs hargs
  have hob : ob0 [Ob.abs T] 1000000 = some (0, .abs T) := by simp [ob0, obs, upd]
  obtain ⟨b, hρ, hQ⟩ := hM.obj 1000000 0 (.abs T) hob
  have hfoot : ∀ c, foot ρ 1000000 (.abs T) c → c < w.heap.size := fun c hc => (hM.obj 1000000 0 (.abs T) hob).foot_lt hc
  have hnone : ∀ c, ¬ Held (ob0 []) (fun _ => none) c := fun c ⟨id, x, h1, _⟩ => by simp [ob0, obs] at h1
  have hfree : ∀ c, c < w.heap.size → Free (fun _ => True) (ob0 []) (fun _ => none) w c := fun c hc => ⟨hc, fun ⟨id, v, o, h1, _⟩ => by simp [ob0, obs] at h1, trivial⟩
  refine (h w cargs (fun _ => none) (fun _ => True) (hgl.keep fun g h1 h2 => ⟨rfl, hnone g⟩) (fun _ _ => trivial)
    ⟨fun id v o h1 => by simp [ob0, obs] at h1, fun id id' x x' b h1 => by simp [ob0, obs] at h1, Keeps.refl _ _, fun id v o b h1 => by simp [ob0, obs] at h1, fun id b h1 => by cases h1⟩
    (by rw [hcs]; rfl) (fun i x c hx hc => ?_)).mono ?_
  · cases i with
    | zero =>
      simp at hx
      subst hx
      have h0 := hargs 0 _ c rfl hc
      cases h0 with
      | ptr _ _ _ _ hc1 hat =>
        obtain ⟨b', hb', rfl⟩ := hat.live hob
        rw [hρ] at hb'
        cases hb'
        obtain ⟨g, hg⟩ := T.rp (Free (fun _ => True) (ob0 []) (fun _ => none) w) hQ (hfree b (hfoot b (.inl hρ))) fun j c hc => hfree c (hfoot c (.inr ⟨rfl, j, hc⟩))
        exact .rp T.view b 0 g (hfree b (hfoot b (.inl hρ))) hg
    | succ i =>
      simp at hx
      exact (hargs (i + 1) x c (by simpa using hx) hc).free (hidL_at has hx) fun b hb => hfree b hb.1
  · rintro e w' ⟨c, ρ', rfl, hM', hr⟩
    have hblk : ∀ c, c < w.heap.size → w'.heap[c]? = w.heap[c]? := fun c hc => hM'.keeps.block c hc (hnone c)
    have hid : ∀ id x, ob0 [Ob.abs T] id = some x → id = 1000000 ∧ x = (0, .abs T) := fun id x hx => by
      obtain ⟨h1, h2, h3⟩ := ob0_some hx
      have : id - 1000000 = 0 := by
        have := (List.getElem?_eq_some_iff.1 h2).1
        simpa using this
      have hid : id = 1000000 := by omega
      subst hid
      rw [hob] at hx
      exact ⟨rfl, (Option.some.inj hx).symm⟩
    refine ⟨c, ρ, rfl, ⟨fun id v o hx => ?_, hM.inj, ⟨hM'.keeps.os, hM'.keeps.tape, hM'.keeps.output, hM'.keeps.size, fun b hb _ => hblk b hb⟩, hM.own, fun id b hp => ?_⟩, ?_⟩
    · obtain ⟨rfl, hx⟩ := hid id _ hx
      cases hx
      exact ⟨b, hρ, T.loc hQ (hblk b (hfoot b (.inl hρ))) fun j c hc => hblk c (hfoot c (.inr ⟨rfl, j, hc⟩))⟩
    · simp only [pinOf] at hp
      split at hp
      · rename_i v o hx
        split at hp
        · rename_i ho
          obtain ⟨rfl, hx'⟩ := hid id _ hx
          cases hx'
          exact ⟨hp, _, hx, ho⟩
        · cases hp
      · cases hp
    · exact (hr.flat (R' := Free B (ob0 [.abs T]) ρ w') hf).free hres fun _ h => h
end
end Go.Ev

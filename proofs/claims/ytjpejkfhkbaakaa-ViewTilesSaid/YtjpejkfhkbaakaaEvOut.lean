import Derived.Test.YtjpejkfhkbaakaaEvRun
import Derived.Test.YtjpejkfhkbaakaaEvLoud
namespace Go.Ev
open Go
set_option linter.unnecessarySimpa false
set_option linter.unusedVariables false
set_option linter.unusedSimpArgs false

/-- What an operation looked at and wrote: slots and objects. -/
structure Lg where
  us : List Nat
  d : List Nat
  rd : List Nat
  wr : List Nat
  /-- It only reckons an address. -/
  ad : Bool
  /-- It stores, and moves nothing. -/
  st : Bool
instance : Inhabited Lg := ⟨⟨[], [], [], [], false, false⟩⟩
def PX.adr : PX → Bool
  | .see o => o.adr
  | _ => false
def PX.sto : PX → Bool
  | .act (.st _ _ _) => true
  | _ => false
structure Out where
  ok : Prop
  st : St
  lg : Lg
abbrev Ans := AV × List Ob
def PX.us : PX → List Nat
  | .see o => o.us
  | .act o => o.us
  | .call _ xs => usL xs
  | .callv x xs => x.us ++ usL xs
def gus : Option (Nat × Bool) → List Nat
  | none => []
  | some (t, _) => [t]
def PR.lg (r : PR) (rd wr : List Nat) : Lg := ⟨gus r.g ++ (r.x.us ++ r.d.toList), r.d.toList, rd, wr, r.x.adr, r.x.sto⟩
def names (u : Nat) (ids : List Nat) (m : Nat) : List Nat := (List.range m).map (bname u ids)
def callO3 (P : Program) (r : PR) (s : St) (f : FuncId) (p : Prop) (c : Ans) (as : List AV) (l : List Nat) (fz : Bool) (ids : List Nat) : Option (List Ob) → Out
  | none => ⟨False, s, r.lg [] []⟩
  | some po => ⟨p ∧ Triple P f (imL (fwd s.ob ids) as) po c.1 c.2 ∧ okC r.u ids c.2.length l fz = true ∧ sameLen po c.2 ∧ (fz = false → Flat c.1 ∧ ∀ o ∈ c.2, FlatO o),
      ⟨putO r.d (imV (back s.ob r.u ids c.2.length) c.1) s.e, putL s.ob r.u ids (back s.ob r.u ids c.2.length) 0 c.2⟩, r.lg (l ++ (ids ++ names r.u ids c.2.length)) (names r.u ids c.2.length)⟩
def callO (P : Program) (r : PR) (s : St) (f : FuncId) (p : Prop) (c : Ans) : Option (List AV × List Nat) → Out
  | none => ⟨False, s, r.lg [] []⟩
  | some (as, l) => callO3 P r s f p c as l l.isEmpty (reach s.ob 64 (hidL as) []) (takeL (fwd s.ob (reach s.ob 64 (hidL as) [])) s.ob (reach s.ob 64 (hidL as) []))
def callV (P : Program) (r : PR) (s : St) (p : Prop) (c : Ans) (vs : List AV) : AV → Out
  | .fn (.func f) cap k => callO P r s f (p ∧ isFn P f = true) c (argL s.ob (cap.take k ++ (vs ++ cap.drop k)))
  | _ => ⟨False, s, r.lg [] []⟩
def PX.out (P : Program) (r : PR) (s : St) (c : Ans) : PX → Option Bool → Out
  | _, none => ⟨False, s, r.lg [] []⟩
  | .see o, some b => ⟨(o.see b s.e s.ob).ok, ⟨putO r.d (gdv r.g b (o.see b s.e s.ob).v) s.e, s.ob⟩, r.lg (o.see b s.e s.ob).rd []⟩
  | .act o, some true => ⟨(o.act (r.d.getD 0) s.e s.ob).ok, ⟨putO r.d (o.act (r.d.getD 0) s.e s.ob).v s.e, (o.act (r.d.getD 0) s.e s.ob).ob⟩, r.lg (o.act (r.d.getD 0) s.e s.ob).rd (o.act (r.d.getD 0) s.e s.ob).wr⟩
  | .call f xs, some true => callO P r s f (mayl true s.e xs) c (argL s.ob (barel s.e xs))
  | .callv x xs, some true => callV P r s ((x.ev s.e).may true ∧ mayl true s.e xs) c (barel s.e xs) (x.ev s.e).bare
  | _, some false => ⟨True, ⟨putO r.d .undef s.e, s.ob⟩, r.lg [] []⟩
def PR.out (P : Program) (r : PR) (s : St) (c : Ans) : Out := r.x.out P r s c (yes s.e r.g)

section
variable {P : Program} {s s' : St} {ob ob' : Obs} {c : Ans} {r : PR}
theorem callO_wp {f : FuncId} {p : Prop} {K : St → Prop} {a : Option (List AV × List Nat)} (h : (callO P r s f p c a).ok) (hK : K (callO P r s f p c a).st) : p ∧ CallW P f r.u s.ob (fun v ob => K ⟨putO r.d v s.e, ob⟩) a := by
  rcases a with _ | ⟨as, l⟩
  · exact h.elim
  · simp only [callO] at h hK
    generalize hids : reach s.ob 64 (hidL as) [] = ids at h hK
    rcases hpo : takeL (fwd s.ob ids) s.ob ids with _ | po
    · rw [hpo] at h; exact h.elim
    · rw [hpo] at h hK
      obtain ⟨h0, h1, h2, h3, h4⟩ := h
      refine ⟨h0, ?_⟩
      have key : CallQ P f r.u s.ob as l l.isEmpty (fun v ob => K ⟨putO r.d v s.e, ob⟩) := by
        unfold CallQ
        rw [hids, hpo]
        exact ⟨_, _, h1, h2, h3, h4, hK⟩
      cases l with
      | nil => exact key
      | cons i l => exact Or.inr key
theorem out_wp {K : St → Prop} (h : (r.out P s c).ok) (hK : K (r.out P s c).st) : r.wp P s K (yes s.e r.g) := by
  rcases r with ⟨d, g, u, x⟩
  unfold PR.out at h hK
  simp only at h hK ⊢
  generalize yes s.e g = y at h hK ⊢
  rcases y with _ | b
  · have h : False := by cases x <;> exact h
    exact h.elim
  · simp only [PR.wp]
    cases x with
    | see o => exact ⟨h, hK⟩
    | act o => cases b with
      | true => exact ⟨fun _ => ⟨h, hK⟩, by simp⟩
      | false => exact ⟨by simp, fun _ => hK⟩
    | call f xs => cases b with
      | true => exact ⟨fun _ => callO_wp h hK, by simp⟩
      | false => exact ⟨by simp, fun _ => hK⟩
    | callv x xs => cases b with
      | true =>
        refine ⟨fun _ => ?_, by simp⟩
        simp only [PX.out] at h hK
        generalize (x.ev s.e).bare = y at h hK ⊢
        cases y with
        | fn f cap k => cases f with
          | func f =>
            have := callO_wp h hK
            exact ⟨this.1.1.1, this.1.1.2, this.1.2, this.2⟩
          | _ => exact (show False from h).elim
        | _ => exact (show False from h).elim
      | false => exact ⟨by simp, fun _ => hK⟩

/-! Locality. -/
theorem argV_congr {x y : AV} {l : List Nat} (h : argV ob x = some (y, l)) (hs : Same ob ob' l) : argV ob' x = some (y, l) := by
  cases x with
  | own id ver lo len =>
    simp only [argV] at h ⊢
    split at h
    · rename_i y' fz hr
      cases h
      rw [rv_congr hr hs]
    · cases h
  | agg xs =>
    simp only [argV] at h ⊢
    split at h
    · rename_i y' fz hr
      cases h
      rw [rvs_congr hr hs]
    · cases h
  | _ => exact h
theorem argL_congr : ∀ {xs ys : List AV} {l : List Nat}, argL ob xs = some (ys, l) → Same ob ob' l → argL ob' xs = some (ys, l)
  | [], ys, l, h, hs => h
  | x :: xs, ys, l, h, hs => by
    simp only [argL] at h ⊢
    split at h
    · rename_i y k zs j h1 h2
      cases h
      obtain ⟨g1, g2⟩ := same_app hs
      rw [argV_congr h1 g1, argL_congr h2 g2]
    · cases h
theorem reach_mono : ∀ (n : Nat) (todo acc : List Nat) (i : Nat), i ∈ acc → i ∈ reach ob n todo acc
  | 0, todo, acc, i, h => h
  | n + 1, [], acc, i, h => h
  | n + 1, j :: todo, acc, i, h => by
    unfold reach
    split
    · exact reach_mono n todo acc i h
    · exact reach_mono n _ _ i (by simp [h])
theorem reach_congr : ∀ (n : Nat) (todo acc : List Nat), Same ob ob' (reach ob n todo acc) → reach ob' n todo acc = reach ob n todo acc
  | 0, todo, acc, hs => rfl
  | n + 1, [], acc, hs => rfl
  | n + 1, j :: todo, acc, hs => by
    unfold reach at hs ⊢
    split
    · rename_i hc
      rw [if_pos hc] at hs
      exact reach_congr n todo acc hs
    · rename_i hc
      rw [if_neg hc] at hs
      rw [hs j (reach_mono n _ _ j (by simp))]
      exact reach_congr n _ _ hs
theorem idx_mem {i k : Nat} {l : List Nat} (h : idx i l = some k) : i ∈ l := List.mem_of_getElem? (idx_some h)
theorem fwd_congr {ids : List Nat} (hs : Same ob ob' ids) : fwd ob' ids = fwd ob ids := by
  funext id ver
  unfold fwd
  split
  · rename_i k hk
    rw [hs id (idx_mem hk)]
  · rfl
theorem takeL_congr {F : Ren} : ∀ {ids : List Nat}, Same ob ob' ids → takeL F ob' ids = takeL F ob ids
  | [], hs => rfl
  | i :: ids, hs => by
    simp only [takeL]
    rw [hs i (by simp), takeL_congr (fun j hj => hs j (by simp [hj]))]
theorem mem_names {u m k : Nat} {ids : List Nat} (h : k < m) : bname u ids k ∈ names u ids m := by
  simp only [names, List.mem_map, List.mem_range]
  exact ⟨k, h, rfl⟩
theorem bver_congr {u m k : Nat} {ids : List Nat} (hs : Same ob ob' (names u ids m)) (h : k < m) : bver ob' u ids k = bver ob u ids k := by
  have := hs _ (mem_names (u := u) (ids := ids) h)
  unfold bver
  unfold bname at this
  split
  · rename_i i hi
    rw [hi] at this
    simp only at this
    rw [this]
    rcases ob i with _ | ⟨v, _ | _⟩ <;> rfl
  · rename_i hi
    rw [hi] at this
    exact nv_congr this
theorem back_congr {u m : Nat} {ids : List Nat} (hs : Same ob ob' (names u ids m)) : back ob' u ids m = back ob u ids m := by
  funext id ver
  unfold back
  split
  · rename_i h
    rw [bver_congr hs h.2.2]
  · rfl
theorem putL_congr {u m : Nat} {ids : List Nat} {F : Ren} (hs : Same ob ob' (names u ids m)) : ∀ {os : List Ob} {k : Nat}, k + os.length ≤ m →
    (∀ j, k ≤ j → j < k + os.length → putL ob' u ids F k os (bname u ids j) = putL ob u ids F k os (bname u ids j)) ∧ (∀ i, (∀ j, k ≤ j → j < k + os.length → i ≠ bname u ids j) → putL ob' u ids F k os i = ob' i)
  | [], k, h => ⟨fun j h1 h2 => by simp at h2; omega, fun i h => rfl⟩
  | o :: os, k, h => by
    simp at h
    obtain ⟨g1, g2⟩ := putL_congr (F := F) hs (os := os) (k := k + 1) (by omega)
    refine ⟨fun j h1 h2 => ?_, fun i hi => ?_⟩
    · simp at h2
      simp only [putL, upd, bver_congr hs (show k < m by omega)]
      split
      · rfl
      · rename_i hne
        refine g1 j ?_ (by omega)
        rcases Nat.lt_or_ge k j with h | h
        · omega
        · have : j = k := by omega
          subst this; exact (hne rfl).elim
    · simp only [putL, upd]
      rw [if_neg (hi k (Nat.le_refl _) (by simp))]
      exact g2 i fun j h1 h2 => hi j (by omega) (by simp; omega)

theorem putO_at {d : Option Nat} {x : AV} {e e' : Env} {t : Nat} (h : t ∈ d.toList) : putO d x e' t = putO d x e t := by
  cases d with
  | none => simp at h
  | some d => simp at h; subst h; simp [putO, put]
theorem putO_other {d : Option Nat} {x : AV} {e : Env} {t : Nat} (h : t ∉ d.toList) : putO d x e t = e t := by
  cases d with
  | none => rfl
  | some d => simp at h; simp [putO, put, h]
theorem yes_congr {g : Option (Nat × Bool)} {e e' : Env} (h : ∀ t, t ∈ gus g → e' t = e t) : yes e' g = yes e g := by
  cases g with
  | none => rfl
  | some p => simp only [yes, h p.1 (by simp [gus])]
/-- The same, of what an operation comes to. -/
def LocO (r : PR) (s s' : St) (o o' : Out) : Prop :=
  o'.ok ∧ (∀ t, t ∈ r.d.toList → o'.st.e t = o.st.e t) ∧ (∀ t, t ∉ r.d.toList → o'.st.e t = s'.e t) ∧
  (∀ i, i ∈ o.lg.wr → i ∈ o.lg.rd ∧ o'.st.ob i = o.st.ob i) ∧ (∀ i, i ∉ o.lg.wr → o'.st.ob i = s'.ob i)
theorem callO_loc {f : FuncId} {p : Prop} {as : List AV} (h : (callO P r s f p c (argL s.ob as)).ok) (hs : Same s.ob s'.ob (callO P r s f p c (argL s.ob as)).lg.rd) :
    LocO r s s' (callO P r s f p c (argL s.ob as)) (callO P r s' f p c (argL s'.ob as)) := by
  rcases ha : argL s.ob as with _ | ⟨bs, l⟩
  · rw [ha] at h; exact (show False from h).elim
  · rw [ha] at h hs
    simp only [callO] at h hs ⊢
    rcases hpo : takeL (fwd s.ob (reach s.ob 64 (hidL bs) [])) s.ob (reach s.ob 64 (hidL bs) []) with _ | po
    · rw [hpo] at h; exact (show False from h).elim
    · rw [hpo] at h hs
      simp only [callO3, PR.lg] at hs
      obtain ⟨s1, s2⟩ := same_app hs
      obtain ⟨s2, s3⟩ := same_app s2
      rw [argL_congr ha s1]
      simp only
      rw [reach_congr 64 (hidL bs) [] s2]
      generalize reach s.ob 64 (hidL bs) [] = ids at *
      rw [fwd_congr s2, takeL_congr s2, hpo]
      simp only [callO3, PR.lg] at h ⊢
      rw [fwd_congr s2, back_congr s3]
      have hp := putL_congr (F := back s.ob r.u ids c.2.length) s3 (os := c.2) (k := 0) (by simp)
      have hn : ∀ i, i ∈ names r.u ids c.2.length ↔ ∃ j, j < c.2.length ∧ bname r.u ids j = i := fun i => by simp [names]
      refine ⟨h, fun t ht => putO_at ht, fun t ht => putO_other ht, fun i hi => ⟨by simp [hi], ?_⟩, fun i hi => ?_⟩
      · obtain ⟨j, hj, rfl⟩ := (hn i).1 hi
        exact hp.1 j (Nat.zero_le _) (by simpa using hj)
      · refine hp.2 i fun j h1 h2 hij => hi ((hn i).2 ⟨j, by simpa using h2, hij.symm⟩)
theorem callV_loc {p : Prop} {vs : List AV} {y : AV} (h : (callV P r s p c vs y).ok) (hs : Same s.ob s'.ob (callV P r s p c vs y).lg.rd) : LocO r s s' (callV P r s p c vs y) (callV P r s' p c vs y) := by
  cases y with
  | fn f cap k => cases f with
    | func f => exact callO_loc h hs
    | _ => exact (show False from h).elim
  | _ => exact (show False from h).elim
theorem out_loc (h : (r.out P s c).ok) (he : ∀ t, t ∈ (r.out P s c).lg.us → s'.e t = s.e t) (hs : r.x.adr = false → Same s.ob s'.ob (r.out P s c).lg.rd) (hpn : SamePl s.ob s'.ob (r.out P s c).lg.rd) : LocO r s s' (r.out P s c) (r.out P s' c) := by
  rcases r with ⟨d, g, u, x⟩
  have hus : (PR.out P ⟨d, g, u, x⟩ s c).lg.us = gus g ++ (x.us ++ d.toList) := by
    unfold PR.out
    simp only
    generalize yes s.e g = y
    rcases y with _ | b
    · cases x <;> rfl
    · cases x with
      | see o => rfl
      | act o => cases b <;> rfl
      | call f xs => cases b with
        | false => rfl
        | true =>
          simp only [PX.out]
          generalize argL s.ob (barel s.e xs) = q
          rcases q with _ | ⟨as, l⟩
          · rfl
          · simp only [callO]
            generalize takeL _ _ _ = po
            cases po <;> rfl
      | callv x xs => cases b with
        | false => rfl
        | true =>
          simp only [PX.out]
          generalize (x.ev s.e).bare = y
          cases y with
          | fn f cap k => cases f with
            | func f =>
              simp only [callV]
              generalize argL s.ob (cap.take k ++ (barel s.e xs ++ cap.drop k)) = q
              rcases q with _ | ⟨as, l⟩
              · rfl
              · simp only [callO]
                generalize takeL _ _ _ = po
                cases po <;> rfl
            | _ => rfl
          | _ => rfl
  rw [hus] at he
  obtain ⟨he1, he2⟩ := fa_app he
  obtain ⟨he2, _⟩ := fa_app he2
  unfold PR.out at h hs hpn ⊢
  simp only at h hs hpn he1 he2 ⊢
  rw [yes_congr he1]
  generalize yes s.e g = y at h hs hpn ⊢
  rcases y with _ | b
  · have h : False := by cases x <;> exact h
    exact h.elim
  · cases x with
    | see o =>
      simp only [PX.out] at h hs hpn ⊢
      rw [see_env (show ∀ t, t ∈ o.us → s'.e t = s.e t from he2)]
      obtain ⟨g1, g2⟩ : (o.see b s.e s'.ob).ok ∧ (o.see b s.e s'.ob).v = (o.see b s.e s.ob).v := by
        cases hadr : o.adr with
        | true => exact adr_ob hadr h hpn
        | false => exact see_ob h (hs hadr)
      rw [g2]
      exact ⟨g1, fun t ht => putO_at ht, fun t ht => putO_other ht, fun i hi => by simp [PR.lg] at hi, fun i hi => rfl⟩
    | act o => replace hs := hs rfl; cases b with
      | true =>
        simp only [PX.out] at h hs ⊢
        rw [act_env (show ∀ t, t ∈ o.us → s'.e t = s.e t from he2)]
        obtain ⟨g1, g2, g3, g4⟩ := act_ob h hs
        simp only at g1 g2 g3 g4
        rw [g2]
        exact ⟨g1, fun t ht => putO_at ht, fun t ht => putO_other ht, g3, g4⟩
      | false => exact ⟨trivial, fun t ht => putO_at ht, fun t ht => putO_other ht, fun i hi => by simp [PX.out, PR.lg] at hi, fun i hi => rfl⟩
    | call f xs => replace hs := hs rfl; cases b with
      | true =>
        simp only [PX.out] at h hs ⊢
        rw [barel_congr (show ∀ t, t ∈ usL xs → s'.e t = s.e t from he2), mayl_congr (show ∀ t, t ∈ usL xs → s'.e t = s.e t from he2)]
        exact callO_loc h hs
      | false => exact ⟨trivial, fun t ht => putO_at ht, fun t ht => putO_other ht, fun i hi => by simp [PX.out, PR.lg] at hi, fun i hi => rfl⟩
    | callv x xs => replace hs := hs rfl; cases b with
      | true =>
        obtain ⟨he2, he3⟩ := fa_app he2
        simp only [PX.out] at h hs ⊢
        rw [barel_congr he3, mayl_congr he3, ev_congr he2]
        exact callV_loc h hs
      | false => exact ⟨trivial, fun t ht => putO_at ht, fun t ht => putO_other ht, fun i hi => by simp [PX.out, PR.lg] at hi, fun i hi => rfl⟩
/-- A store leaves each object's pin. -/
theorem out_pin (h : r.x.sto = true) (i : Nat) : pin ((r.out P s c).st.ob i) = pin (s.ob i) := by
  rcases r with ⟨d, g, u, x⟩
  unfold PR.out
  simp only
  generalize yes s.e g = y
  cases x with
  | act o => cases o with
    | st n x1 x2 => rcases y with _ | b
                    · rfl
                    · cases b with
                      | true => exact st_pin
                      | false => rfl
    | _ => cases h
  | _ => cases h
theorem out_flags : (r.out P s c).lg.ad = r.x.adr ∧ (r.out P s c).lg.st = r.x.sto := by
  rcases r with ⟨d, g, u, x⟩
  unfold PR.out
  simp only
  generalize yes s.e g = y
  rcases y with _ | b
  · cases x <;> exact ⟨rfl, rfl⟩
  · cases x with
    | see o => exact ⟨rfl, rfl⟩
    | act o => cases b <;> exact ⟨rfl, rfl⟩
    | call f xs => cases b with
      | false => exact ⟨rfl, rfl⟩
      | true =>
        simp only [PX.out]
        generalize argL s.ob (barel s.e xs) = q
        rcases q with _ | ⟨as, l⟩
        · exact ⟨rfl, rfl⟩
        · simp only [callO]
          generalize takeL _ _ _ = po
          cases po <;> exact ⟨rfl, rfl⟩
    | callv x xs => cases b with
      | false => exact ⟨rfl, rfl⟩
      | true =>
        simp only [PX.out]
        generalize (x.ev s.e).bare = y
        cases y with
        | fn f cap k => cases f with
          | func f =>
            simp only [callV]
            generalize argL s.ob (cap.take k ++ (barel s.e xs ++ cap.drop k)) = q
            rcases q with _ | ⟨as, l⟩
            · exact ⟨rfl, rfl⟩
            · simp only [callO]
              generalize takeL _ _ _ = po
              cases po <;> exact ⟨rfl, rfl⟩
          | _ => exact ⟨rfl, rfl⟩
        | _ => exact ⟨rfl, rfl⟩
end
end Go.Ev

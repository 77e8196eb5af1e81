import Derived.Test.YtjpejkfhkbaakaaEvCall
namespace Go.Ev
open Go
set_option linter.unnecessarySimpa false
set_option linter.unusedSimpArgs false
set_option linter.unusedVariables false

/-- The names of an activation's objects when they are counted anew: what came in keeps its name; the others are counted from lb. -/
def nfwd1 (ver new : Nat) : Option (Nat × Ob) → Option (Nat × Nat)
  | some (v, _) => if ver = v then some (new, 0) else none
  | none => none
def nfwd (np lb : Nat) (ob : Obs) (ids : List Nat) : Ren := fun id ver =>
  if 1000000 ≤ id ∧ id < 1000000 + np then nfwd1 ver id (ob id)
  else match idx id ids with
    | some k => nfwd1 ver (lb + k) (ob id)
    | none => none
def grab1 (F : Ren) : Option (Nat × Ob) → Option Ob
  | some (_, o) => some (imO F o)
  | none => none
def grab (F : Ren) (ob : Obs) : List Nat → Option (List Ob)
  | [] => some []
  | i :: is => match grab1 F (ob i), grab F ob is with
    | some o, some os => some (o :: os)
    | _, _ => none
theorem grab_at {F : Ren} {ob : Obs} : ∀ {ids : List Nat} {po : List Ob}, grab F ob ids = some po → po.length = ids.length ∧ ∀ (k i : Nat) (o : Ob), ids[k]? = some i → po[k]? = some o → ∃ v x, ob i = some (v, x) ∧ o = imO F x
  | [], po, h => by simp [grab] at h; subst h; simp
  | j :: ids, po, h => by
    simp only [grab] at h
    split at h
    · rename_i o os h1 h2
      cases h
      obtain ⟨g1, g2⟩ := grab_at h2
      refine ⟨by simp [g1], fun k i q hk ho => ?_⟩
      cases k with
      | zero =>
        simp at hk ho
        subst hk; subst ho
        rcases hj : ob j with _ | ⟨v, x⟩
        · rw [hj] at h1; cases h1
        · rw [hj] at h1
          cases h1
          exact ⟨v, x, rfl, rfl⟩
      | succ k => simp at hk ho; exact g2 k i q hk ho
    · cases h
def params (np : Nat) : Nat → List Nat
  | 0 => []
  | n + 1 => (1000000 + (np - (n + 1))) :: params np n
theorem params_at {np : Nat} : ∀ {n k : Nat}, n ≤ np → k < n → (params np n)[k]? = some (1000000 + (np - n + k))
  | 0, k, _, h => by omega
  | n + 1, 0, h, _ => by simp [params]
  | n + 1, k + 1, h, hk => by
    simp only [params, List.getElem?_cons_succ]
    rw [params_at (by omega) (by omega)]
    congr 1
    omega
theorem params_len {np : Nat} : ∀ {n : Nat}, (params np n).length = n
  | 0 => rfl
  | n + 1 => by simp [params, params_len]
def isPar (np i : Nat) : Bool := decide (1000000 ≤ i ∧ i < 1000000 + np)
def locals (np : Nat) (l : List Nat) : List Nat := l.filter fun i => !isPar np i
/-- Values and objects, counted anew. -/
def nrm (fuel np lb : Nat) (vs : List AV) (ob : Obs) : Option (List AV × List Ob × List Ob) :=
  let ids := locals np (reach ob fuel (hidL vs ++ params np np) [])
  let F := nfwd np lb ob ids
  match grab F ob (params np np), grab F ob ids with
  | some pos, some los => some (imL F vs, pos, los)
  | _, _ => none
/-- The objects of an activation when they have been counted anew. -/
def obsO : Nat → List Ob → Obs → Obs
  | _, [], ob => ob
  | k, o :: os, ob => upd k (0, o) (obsO (k + 1) os ob)
theorem obsO_lt : ∀ {os : List Ob} {k id : Nat} {ob : Obs}, (id < k ∨ k + os.length ≤ id) → obsO k os ob id = ob id
  | [], k, id, ob, h => rfl
  | o :: os, k, id, ob, h => by
    simp at h
    unfold obsO upd
    rw [if_neg (by omega)]
    exact obsO_lt (by omega)
theorem obsO_at : ∀ {os : List Ob} {k j : Nat} {o : Ob} {ob : Obs}, os[j]? = some o → obsO k os ob (k + j) = some (0, o)
  | [], k, j, o, ob, h => by simp at h
  | q :: os, k, 0, o, ob, h => by simp at h; subst h; simp [obsO, upd]
  | q :: os, k, j + 1, o, ob, h => by
    simp at h
    unfold obsO upd
    rw [if_neg (by omega), show k + (j + 1) = k + 1 + j by omega]
    exact obsO_at h

theorem reach_nodup (ob : Obs) : ∀ (fuel : Nat) (todo acc : List Nat), acc.Nodup → (reach ob fuel todo acc).Nodup
  | 0, _, acc, h => h
  | _ + 1, [], acc, h => h
  | n + 1, i :: todo, acc, h => by
    unfold reach
    split
    · exact reach_nodup ob n todo acc h
    · rename_i hc
      refine reach_nodup ob n _ _ ?_
      rw [List.nodup_append]
      refine ⟨h, by simp, fun a ha b hb => ?_⟩
      simp at hb
      subst hb
      intro e
      subst e
      simp at hc
      exact hc ha
theorem nodup_get {l : List Nat} (h : l.Nodup) {i j x : Nat} (hi : l[i]? = some x) (hj : l[j]? = some x) : i = j := by
  have h1 := (List.getElem?_eq_some_iff.1 hi)
  have h2 := (List.getElem?_eq_some_iff.1 hj)
  obtain ⟨a1, b1⟩ := h1
  obtain ⟨a2, b2⟩ := h2
  rcases Nat.lt_trichotomy i j with hlt | rfl | hlt
  · exact absurd (by rw [b1, b2]) (List.pairwise_iff_getElem.1 h i j a1 a2 hlt)
  · rfl
  · exact absurd (by rw [b1, b2]) (List.pairwise_iff_getElem.1 h j i a2 a1 hlt)

section
variable {P : Program} {X : Cx} {w w' : World} {s : St} {ρ ρ' : Pl → Option Nat} {a : Act} {ob ob' : Obs} {R R' : Nat → Prop}

/-- COUNTING ANEW: the objects lie in the world as they did. -/
theorem Mem.nrm (hM : Mem X ob ρ w) {fuel np lb : Nat} {vs vs' : List AV} {pos los : List Ob} (h : nrm fuel np lb vs ob = some (vs', pos, los)) (hlb : 1000000 + np ≤ lb) (hpn : ∀ id b, X.pn id = some b → 1000000 ≤ id ∧ id < 1000000 + np) :
    ∃ ρ', Mem X (obsO 1000000 pos (obsO lb los fun _ => none)) ρ' w ∧ vs'.length = vs.length ∧ pos.length = np ∧
      ∀ (i : Nat) (x y : AV) (c : Value), vs[i]? = some x → vs'[i]? = some y → RelA w (Free X.B ob ρ w) ob ρ x c → RelA w (Free X.B (obsO 1000000 pos (obsO lb los fun _ => none)) ρ' w) (obsO 1000000 pos (obsO lb los fun _ => none)) ρ' y c := by
  unfold Ev.nrm at h
  generalize hids : locals np (reach ob fuel (hidL vs ++ params np np) []) = ids at h
  simp only at h
  generalize hF : nfwd np lb ob ids = F at h
  split at h
  · rename_i pos' los' hp hl
    cases h
    obtain ⟨p1, p2⟩ := grab_at hp
    obtain ⟨l1, l2⟩ := grab_at hl
    rw [params_len] at p1
    have hnd : ids.Nodup := by
      rw [← hids]
      exact (reach_nodup ob fuel _ [] (by simp)).filter _
    have hnp : ∀ i, i ∈ ids → ¬ (1000000 ≤ i ∧ i < 1000000 + np) := fun i hi => by
      rw [← hids] at hi
      simp [locals, isPar] at hi
      intro hc
      have := hi.2
      omega
    generalize hob2 : obsO 1000000 pos (obsO lb los fun _ => none) = ob2
    let ρ2 : Pl → Option Nat := fun p => match p with
      | .o i => if 1000000 ≤ i ∧ i < 1000000 + np then ρ i else if lb ≤ i then (ids[i - lb]?).bind fun i => ρ (.o i) else none
      | .s i j => if 1000000 ≤ i ∧ i < 1000000 + np then ρ (.s i j) else if lb ≤ i then (ids[i - lb]?).bind fun i => ρ (.s i j) else none
    have hP : ∀ k o, pos[k]? = some o → ob2 (1000000 + k) = some (0, o) ∧ SameP ρ ρ2 (1000000 + k) (1000000 + k) ∧ ∃ v x, ob (1000000 + k) = some (v, x) ∧ o = imO F x := fun k o hk => by
      have hlt := (List.getElem?_eq_some_iff.1 hk).1
      refine ⟨by rw [← hob2]; exact obsO_at hk, ⟨by simp only [ρ2]; rw [if_pos (by omega)], fun j => by simp only [ρ2]; rw [if_pos (by omega)]⟩, ?_⟩
      have := params_at (np := np) (n := np) (k := k) (Nat.le_refl _) (by omega)
      rw [Nat.sub_self, Nat.zero_add] at this
      exact p2 k _ o this hk
    have hL : ∀ k o, los[k]? = some o → ob2 (lb + k) = some (0, o) ∧ ∃ i v x, ids[k]? = some i ∧ SameP ρ ρ2 i (lb + k) ∧ ob i = some (v, x) ∧ o = imO F x := fun k o hk => by
      have hlt := (List.getElem?_eq_some_iff.1 hk).1
      have hi : ids[k]? = some (ids[k]'(by omega)) := by simp [show k < ids.length by omega]
      obtain ⟨v, x, g1, g2⟩ := l2 k _ o hi hk
      refine ⟨?_, _, v, x, hi, ?_, g1, g2⟩
      · rw [← hob2, obsO_lt (by omega)]
        exact obsO_at hk
      · refine ⟨?_, fun j => ?_⟩
        · simp only [ρ2]
          rw [if_neg (by omega), if_pos (by omega), show lb + k - lb = k by omega, hi]
          rfl
        · simp only [ρ2]
          rw [if_neg (by omega), if_pos (by omega), show lb + k - lb = k by omega, hi]
          rfl
    have hcase : ∀ id x, ob2 id = some x → (∃ k, pos[k]? = some x.2 ∧ id = 1000000 + k ∧ x.1 = 0) ∨ (∃ k, los[k]? = some x.2 ∧ id = lb + k ∧ x.1 = 0) := fun id x hx => by
      rw [← hob2] at hx
      by_cases h1 : 1000000 ≤ id ∧ id < 1000000 + np
      · have hk : pos[id - 1000000]? = some (pos[id - 1000000]'(by omega)) := by simp [show id - 1000000 < pos.length by omega]
        have := obsO_at (k := 1000000) (ob := obsO lb los fun _ => none) hk
        rw [show 1000000 + (id - 1000000) = id by omega, hx] at this
        cases this
        exact .inl ⟨_, hk, by omega, rfl⟩
      · rw [obsO_lt (by omega)] at hx
        by_cases h2 : lb ≤ id ∧ id < lb + los.length
        · have hk : los[id - lb]? = some (los[id - lb]'(by omega)) := by simp [show id - lb < los.length by omega]
          have := obsO_at (k := lb) (ob := fun _ => none) hk
          rw [show lb + (id - lb) = id by omega, hx] at this
          cases this
          exact .inr ⟨_, hk, by omega, rfl⟩
        · rw [obsO_lt (by omega)] at hx
          cases hx
    have hold : ∀ id x, ob2 id = some x → ∃ i v y, ob i = some (v, y) ∧ x = (0, imO F y) ∧ SameP ρ ρ2 i id ∧ ((id = i ∧ 1000000 ≤ i ∧ i < 1000000 + np) ∨ (∃ k, ids[k]? = some i ∧ id = lb + k)) := fun id x hx => by
      rcases hcase id x hx with ⟨k, h1, rfl, h3⟩ | ⟨k, h1, rfl, h3⟩
      · obtain ⟨g1, g2, v, y, g3, g4⟩ := hP k _ h1
        have hlt := (List.getElem?_eq_some_iff.1 h1).1
        exact ⟨_, v, y, g3, Prod.ext h3 g4, g2, .inl ⟨rfl, by omega, by omega⟩⟩
      · obtain ⟨g1, i, v, y, g2, g3, g4, g5⟩ := hL k _ h1
        exact ⟨i, v, y, g4, Prod.ext h3 g5, g3, .inr ⟨k, g2, rfl⟩⟩
    have hfit : Fits ob ob2 ρ ρ2 F := fun id ver i v hFv => by
      rw [← hF] at hFv
      unfold nfwd at hFv
      split at hFv
      · rename_i hc
        rcases ho : ob id with _ | ⟨v0, y⟩
        · rw [ho] at hFv; cases hFv
        · rw [ho] at hFv
          simp only [nfwd1] at hFv
          split at hFv
          · rename_i hv
            cases hFv
            subst hv
            have hk : pos[id - 1000000]? = some (pos[id - 1000000]'(by omega)) := by simp [show id - 1000000 < pos.length by omega]
            obtain ⟨g1, g2, v1, y1, g3, g4⟩ := hP _ _ hk
            rw [show 1000000 + (id - 1000000) = id by omega] at g1 g2 g3
            rw [ho] at g3
            cases g3
            exact ⟨_, _, rfl, g1, g2.1, by rw [g4]; exact Keep.im F _⟩
          · cases hFv
      · split at hFv
        · rename_i k hk
          have hik := idx_some hk
          rcases ho : ob id with _ | ⟨v0, y⟩
          · rw [ho] at hFv; cases hFv
          · rw [ho] at hFv
            simp only [nfwd1] at hFv
            split at hFv
            · rename_i hv
              cases hFv
              subst hv
              have hlt := (List.getElem?_eq_some_iff.1 hik).1
              have hlk : los[k]? = some (los[k]'(by omega)) := by simp [show k < los.length by omega]
              obtain ⟨g1, i, v1, y1, g2, g3, g4, g5⟩ := hL k _ hlk
              rw [hik] at g2
              cases g2
              rw [ho] at g4
              cases g4
              exact ⟨_, _, rfl, g1, g3.1, by rw [g5]; exact Keep.im F _⟩
            · cases hFv
        · cases hFv
    have hR : ∀ b, Free X.B ob ρ w b → Free X.B ob2 ρ2 w b := fun b hb => ⟨hb.1, fun ⟨id, v, o, h1, h2, h3⟩ => by
      obtain ⟨i, v', y, g1, g2, g3, _⟩ := hold id _ h1
      cases g2
      rw [own_im] at h2
      exact hb.2.1 ⟨i, v', y, g1, h2, (g3.foot (isAbs_im F y)).1 h3⟩, hb.2.2⟩
    refine ⟨ρ2, ⟨fun id v o hx => ?_, fun id id' x x' b h1 h2 h3 h4 => ?_, hM.keeps, fun id v o b h1 h2 => ?_, fun id b h1 => ?_⟩, by rw [imL_length], p1, fun i x y c hx hy hr => ?_⟩
    · obtain ⟨i, v', y, g1, g2, g3, _⟩ := hold id _ hx
      cases g2
      exact (hM.obj i v' y g1).im hR hfit g3.1 g3.2
    · obtain ⟨i, v, y, g1, g2, g3, g4⟩ := hold id _ h1
      obtain ⟨i', v', y', g1', g2', g3', g4'⟩ := hold id' _ h2
      have := hM.inj i i' _ _ b g1 g1' ((g3.foot (by rw [g2]; exact isAbs_im F y)).1 h3) ((g3'.foot (by rw [g2']; exact isAbs_im F y')).1 h4)
      subst this
      rcases g4 with ⟨rfl, q1, q2⟩ | ⟨k, q1, rfl⟩ <;> rcases g4' with ⟨rfl, q1', q2'⟩ | ⟨k', q1', rfl⟩
      · rfl
      · exact absurd ⟨q1, q2⟩ (hnp _ (List.mem_of_getElem? q1'))
      · exact absurd ⟨q1', q2'⟩ (hnp _ (List.mem_of_getElem? q1))
      · rw [nodup_get hnd q1 q1']
    · obtain ⟨i, v', y, g1, g2, g3, _⟩ := hold id _ h1
      exact hM.own i v' y b g1 ((g3.foot (by rw [show o = imO F y from congrArg Prod.snd g2]; exact isAbs_im F y)).1 h2)
    · obtain ⟨q1, q2⟩ := hpn id b h1
      obtain ⟨e1, cells, e2, e3⟩ := hM.pin id b h1
      have hk : pos[id - 1000000]? = some (pos[id - 1000000]'(by omega)) := by simp [show id - 1000000 < pos.length by omega]
      obtain ⟨g1, g2, v1, y1, g3, g4⟩ := hP _ _ hk
      rw [show 1000000 + (id - 1000000) = id by omega] at g1 g2 g3
      rw [e2] at g3
      cases g3
      exact ⟨by rw [g2.1, e1], imO F cells, by rw [g1, g4], by rw [pinned_im]; exact e3⟩
    · rw [imL_get, hx] at hy
      cases hy
      exact hr.im hR hfit
  · cases h
end
end Go.Ev

import Derived.Test.YtjpejkfhkbaakaaEvLoc
namespace Go.Ev
open Go
set_option linter.unnecessarySimpa false
set_option linter.unusedVariables false
set_option linter.unusedSimpArgs false
section
variable {ob ob' : Obs} {e : Env}
/-- What is written hangs on what is read alone. -/
def Loud (ob ob' : Obs) (f : Obs → Rs) : Prop := (f ob).ok → Same ob ob' (f ob).rd →
  (f ob').ok ∧ (f ob').v = (f ob).v ∧ (∀ i, i ∈ (f ob).wr → i ∈ (f ob).rd ∧ (f ob').ob i = (f ob).ob i) ∧ (∀ i, i ∉ (f ob).wr → (f ob').ob i = ob' i)
theorem Loud.and {p : Prop} {f : Obs → Rs} (h : Loud ob ob' f) : Loud ob ob' fun ob => Rs.and p (f ob) := fun ⟨hp, hok⟩ hs => ⟨⟨hp, (h hok hs).1⟩, (h hok hs).2⟩
theorem loud_bad : Loud ob ob' fun ob => badR ob := fun h _ => h.elim
theorem loud_new {d : Nat} {x : Ob} {y : Nat → AV} {ok : Prop} {rd : List Nat} : Loud ob ob' fun ob => newOb ob d x y ok rd [] := by
  intro hok hs
  have hd : ob' d = ob d := hs d (by simp [newOb])
  refine ⟨hok, ?_, fun i hi => ?_, fun i hi => ?_⟩
  · simp only [newOb, nv_congr hd]
  · simp only [newOb, List.mem_cons, List.not_mem_nil, or_false] at hi
    subst hi
    simp [newOb, upd, nv_congr hd]
  · simp only [newOb, List.mem_cons, List.not_mem_nil, or_false] at hi
    simp [newOb, upd, hi]
theorem frz_at (ob : Obs) (i j : Nat) : frz ob i (ob i) j = if j = i then frz ob i (ob i) i else ob j := by
  by_cases h : j = i
  · subst h; simp
  · rw [if_neg h]
    generalize ob i = q
    rcases q with _ | ⟨v, _ | _ | _⟩
    · rfl
    · rfl
    · simp [frz, upd, h]
    · rfl
theorem frz_own {i : Nat} (h : ob' i = ob i) : frz ob' i (ob' i) i = frz ob i (ob i) i := by
  rcases hq : ob i with _ | ⟨v, _ | _ | _⟩ <;> rw [h, hq]
  · exact h.trans hq |>.trans hq.symm
  · exact h.trans hq |>.trans hq.symm
  · simp [frz, upd]
  · exact h.trans hq |>.trans hq.symm
theorem freeze_at : ∀ (l : List Nat) {ob ob' : Obs} {i : Nat}, ob' i = ob i → freeze ob' l i = freeze ob l i
  | [], _, _, _, h => h
  | j :: l, ob, ob', i, h => by
    refine freeze_at l ?_
    rw [frz_at ob, frz_at ob']
    by_cases hij : i = j
    · subst hij; simp only [if_true]; exact frz_own h
    · simp only [if_neg hij]; exact h
theorem freeze_other : ∀ (l : List Nat) {ob : Obs} {i : Nat}, i ∉ l → freeze ob l i = ob i
  | [], _, _, _ => rfl
  | j :: l, ob, i, h => by
    simp only [List.mem_cons, not_or] at h
    rw [freeze, freeze_other l h.2, frz_at, if_neg h.1]
theorem rv_congr {x : AV} {y : RV} {l : List Nat} (h : x.rv ob = some (y, l)) (hs : Same ob ob' l) : x.rv ob' = some (y, l) := by
  unfold AV.rv at h ⊢
  split at h
  · exact h
  · exact h
  · rename_i id ver lo len
    rcases hr : rowAt ob id ver with _ | c
    · simp only [hr] at h; cases h
    · simp only [hr] at h
      cases h
      rw [row_congr (hs id (by simp)), hr]
  · cases h
theorem same_app {a b : List Nat} (h : Same ob ob' (a ++ b)) : Same ob ob' a ∧ Same ob ob' b := ⟨fun i hi => h i (by simp [hi]), fun i hi => h i (by simp [hi])⟩
theorem rvs_congr : ∀ {xs : List AV} {ys : List RV} {l : List Nat}, rvs ob xs = some (ys, l) → Same ob ob' l → rvs ob' xs = some (ys, l)
  | [], ys, l, h, hs => h
  | x :: xs, ys, l, h, hs => by
    simp only [rvs] at h ⊢
    split at h
    · rename_i y k zs j h1 h2
      cases h
      obtain ⟨g1, g2⟩ := same_app hs
      rw [rv_congr h1 g1, rvs_congr h2 g2]
    · cases h
theorem elt_congr {x : AV} {y : RV} {l : List Nat} (h : x.elt ob = some (y, l)) (hs : Same ob ob' l) : x.elt ob' = some (y, l) := by
  unfold AV.elt at h ⊢
  split at h
  · split at h
    · rename_i ys j hr
      cases h
      simp only [rvs_congr hr hs]
    · cases h
  · exact rv_congr h hs
theorem eltsOf_congr {g : Bool} : ∀ {xs : List Opd} {p : Prop} {ys : List RV} {l : List Nat}, eltsOf e ob g xs = some (p, ys, l) → Same ob ob' l → eltsOf e ob' g xs = some (p, ys, l)
  | [], p, ys, l, h, hs => h
  | x :: xs, p, ys, l, h, hs => by
    simp only [eltsOf] at h ⊢
    split at h
    · rename_i y k p' zs j h1 h2
      cases h
      obtain ⟨g1, g2⟩ := same_app hs
      rw [elt_congr h1 g1, eltsOf_congr h2 g2]
    · cases h
theorem loud_bsl {d sz : Nat} {z : RV} {ps : List Opd} : Loud ob ob' fun ob => PO.act d e ob (.bsl sz z ps) := by
  intro hok hs
  simp only [PO.act] at hok hs ⊢
  rcases hr : eltsOf e ob true ps with _ | ⟨p, ys, fz⟩
  · rw [hr] at hok; exact hok.elim
  · rw [hr] at hok hs
    have hf : Same ob ob' fz := fun i hi => hs i (by simp [newOb, hi])
    have hd : ob' d = ob d := hs d (by simp [newOb])
    rw [eltsOf_congr hr hf]
    refine ⟨hok, ?_, fun i hi => ?_, fun i hi => ?_⟩
    · simp only [newOb, nv_congr (freeze_at fz hd)]
    · refine ⟨hi, ?_⟩
      simp only [newOb, List.mem_cons] at hi
      simp only [newOb, upd, nv_congr (freeze_at fz hd)]
      split
      · rfl
      · rename_i hid
        exact freeze_at fz (hf i (hi.resolve_left hid))
    · simp only [newOb, List.mem_cons, not_or] at hi
      simp only [newOb, upd, if_neg hi.1]
      exact freeze_other fz hi.2
theorem loud_upd {id : Nat} {x : Nat × Ob} {ok : Prop} {v : AV} {rd : List Nat} : Loud ob ob' fun ob => ⟨ok, v, upd id x ob, id :: rd, [id]⟩ := by
  intro hok hs
  refine ⟨hok, rfl, fun i hi => ?_, fun i hi => ?_⟩
  · simp only [List.mem_cons, List.not_mem_nil, or_false] at hi
    subst hi
    simp [upd]
  · simp only [List.mem_cons, List.not_mem_nil, or_false] at hi
    simp [upd, hi]
theorem loud_st {n : Nat} {x y : AV} : Loud ob ob' (st2 n x y) := by
  cases x with
  | ptr id ver off =>
    intro hok hs
    simp only [st2] at hok hs ⊢
    rcases hr : boxAt ob id ver with _ | c
    · rw [hr] at hok; exact hok.2.elim
    · rw [hr] at hok hs
      rw [box_congr (hs id (by simp [Rs.and, stb])), hr]
      exact Loud.and (f := fun ob => stb id ver ob n off y.cells (some c)) loud_upd hok hs
  | oel id ver idx off =>
    intro hok hs
    simp only [st2] at hok hs ⊢
    split at hok
    · rename_i ys hy
      rw [rvs_congr hy (fun i hi => by simp at hi)]
      rw [hy] at hs
      simp only at hs ⊢
      rcases hr : rowAt ob id ver with _ | ⟨sz, z, app, wr, xs⟩
      · rw [hr] at hok; exact hok.2.elim
      · rw [hr] at hok hs
        rw [row_congr (hs id (by simp [Rs.and, str])), hr]
        exact Loud.and (f := fun ob => str id ver ob n idx off ys (some (sz, z, app, wr, xs))) loud_upd hok hs
    · exact hok.elim
  | _ => exact fun h _ => h.elim
theorem loud_app {d sz : Nat} {z : RV} {bytes : Nat} {x y : AV} : Loud ob ob' fun ob => app3 d ob sz z bytes x (src ob y) := by
  intro hok hs
  rcases hy : src ob y with _ | ⟨sy, ys, rd⟩
  · simp only [hy] at hok
    unfold app3 at hok
    split at hok
    · rename_i h; cases h
    · rename_i h; cases h
    · exact hok.elim
  · simp only [hy] at hok hs ⊢
    cases x with
    | nils sz' z' =>
      have h1 : Same ob ob' rd := fun i hi => hs i (by simp [app3, newOb, hi])
      rw [src_congr hy h1]
      exact loud_new (ok := _) hok hs
    | own id ver lo len =>
      cases lo with
      | succ lo => exact hok.elim
      | zero =>
        simp only [app3] at hok hs
        rcases hr : rowAt ob id ver with _ | ⟨sz', z', app, wr, xs⟩
        · rw [hr] at hok; exact hok.elim
        · rw [hr] at hok hs
          have h1 : Same ob ob' rd := fun i hi => hs i (by simp [hi])
          rw [src_congr hy h1]
          simp only [app3]
          rw [hr, row_congr (hs id (by simp)), hr]
          exact loud_upd hok hs
    | _ => exact hok.elim
theorem loud_cpy {sz : Nat} {x y : AV} : Loud ob ob' fun ob => cpy3 ob sz x (src ob y) := by
  intro hok hs
  rcases hy : src ob y with _ | ⟨sy, ys, rd⟩
  · simp only [hy] at hok
    unfold cpy3 at hok
    split at hok
    · rename_i h; cases h
    · exact hok.elim
  · simp only [hy] at hok hs ⊢
    cases x with
    | own id ver lo len =>
      simp only [cpy3] at hok hs
      rcases hr : rowAt ob id ver with _ | ⟨sz', z', app, wr, xs⟩
      · rw [hr] at hok; exact hok.elim
      · rw [hr] at hok hs
        have h1 : Same ob ob' rd := fun i hi => hs i (by simp [hi])
        rw [src_congr hy h1]
        simp only [cpy3]
        rw [hr, row_congr (hs id (by simp)), hr]
        exact loud_upd hok hs
    | _ => exact hok.elim
theorem act_ob {o : PO} {d : Nat} : Loud ob ob' fun ob => o.act d e ob := by
  cases o with
  | new zs => exact loud_new
  | box x => exact loud_new
  | bsl sz z ps => exact loud_bsl
  | st n x y => exact Loud.and loud_st
  | app sz z bytes x y => exact Loud.and loud_app
  | cpy sz x y => exact Loud.and loud_cpy
  | toBytes z x =>
    refine Loud.and ?_
    generalize (x.ev e).bare = y
    rcases y with ⟨v | _ | _⟩ | _ | _ | _ | _ | _ | _ | _ | _ | _ | _
    · cases v <;> first | exact loud_new | exact loud_bad
    all_goals exact loud_bad
  | mks sz z bytes l c =>
    refine Loud.and ?_
    generalize (l.ev e).bare = y
    generalize (c.ev e).bare = y'
    rcases y with ⟨v | _ | _⟩ | _ | _ | _ | _ | _ | _ | _ | _ | _ | _
    · cases v with
      | int k i =>
        rcases y' with ⟨v | _ | _⟩ | _ | _ | _ | _ | _ | _ | _ | _ | _ | _
        · cases v <;> first | exact loud_new | exact loud_bad
        all_goals exact loud_bad
      | _ => exact loud_bad
    all_goals exact loud_bad
  | _ => exact loud_bad
end
end Go.Ev

import Derived.Test.YtjpejkfhkbaakaaEvLoop
namespace Go.Ev
open Go
set_option linter.unnecessarySimpa false
set_option linter.unusedSimpArgs false
set_option linter.unusedVariables false

/-- A result, as it is handed out. -/
def outV (ob : Obs) : AV → Option (AV × List Nat)
  | .own id ver lo len => match rowAt ob id ver with
    | some (sz, _, _, wr, xs) => if wr then some (.own id ver lo len, []) else some (.r (.sl sz ((xs.drop lo).take len)), [])
    | none => none
  | .agg xs => match rvs ob xs with
    | some (ys, l) => some (.r (.agg ys), l)
    | none => none
  | x => some (x, [])
def outL (ob : Obs) : List AV → Option (List AV × List Nat)
  | [] => some ([], [])
  | x :: xs => match outV ob x, outL ob xs with
    | some (y, i), some (ys, j) => some (y :: ys, i ++ j)
    | _, _ => none
def resOf : List AV → AV
  | [x] => x
  | xs => .tup xs
def expo2 (np : Nat) (ob : Obs) (D : AV → List Ob → Prop) : Option (List AV × List Nat) → Prop
  | some (vs, l) => nrmD (fun vs pos los => D (resOf vs) (pos ++ los)) (nrm 64 np (1000000 + np) vs (freeze ob l))
  | none => False
/-- What is handed out behind a return: the results in these slots. -/
def expo (np : Nat) (rs : List (Nat × Bool)) (s : St) (D : AV → List Ob → Prop) : Prop :=
  expo2 np (preL s.e rs s.ob).2 D (outL (preL s.e rs s.ob).2 (preL s.e rs s.ob).1)
/-- Result variables: a slot, whether a nil slice in it becomes a row, and what is loaded if the variable lies in memory. -/
abbrev RSl := Nat × Bool × Option (TypeId × Option Nat)
/-- What lies in memory is loaded; then the results are handed out. -/
def opn (np : Nat) (all : List (Nat × Bool)) (D : AV → List Ob → Prop) : List RSl → Env → Obs → Prop
  | [], e, ob => expo np all ⟨e, ob⟩ D
  | (_, _, none) :: r, e, ob => opn np all D r e ob
  | (a, _, some (_, n)) :: r, e, ob => (ld1 true n (e a) ob).ok ∧ opn np all D r (put a (ld1 true n (e a) ob).v e) ob
def RetP (np : Nat) (rs : List RSl) (D : AV → List Ob → Prop) : Ex → St → Prop
  | .nor, s => opn np (rs.map fun p => (p.1, p.2.1)) D rs s.e s.ob
  | .rt, s => opn np (rs.map fun p => (p.1, p.2.1)) D rs s.e s.ob
  | .ex _, _ => False
def RSl.rv : RSl → ResultVar
  | (t, _, none) => .tmp t
  | (a, _, some (ty, _)) => .cell a ty
def RSl.agg (P : Program) : RSl → Bool
  | (_, _, none) => true
  | (_, _, some (ty, n)) => aggN P ty n
def argE : Nat → List AV → Env
  | _, [] => fun _ => .undef
  | k, x :: xs => put k x (argE (k + 1) xs)
theorem argE_lt : ∀ {xs : List AV} {k t : Nat}, t < k → argE k xs t = .undef
  | [], k, t, h => rfl
  | x :: xs, k, t, h => by
    simp only [argE, put]
    rw [if_neg (by omega)]
    exact argE_lt (by omega)
theorem argE_at : ∀ {xs : List AV} {k t : Nat}, k ≤ t → argE k xs t = (xs[t - k]?).getD .undef
  | [], k, t, h => by simp [argE]
  | x :: xs, k, t, h => by
    simp only [argE, put]
    by_cases hk : t = k
    · subst hk; simp
    · rw [if_neg hk, argE_at (by omega), show t - k = (t - (k + 1)) + 1 by omega]
      simp
theorem obsO_app : ∀ (xs ys : List Ob) (k : Nat), obsO k xs (obsO (k + xs.length) ys fun _ => none) = obs k (xs ++ ys)
  | [], [], k => rfl
  | [], y :: ys, k => by
    have := obsO_app [] ys (k + 1)
    simp only [obsO, List.length_nil, Nat.add_zero, List.nil_append, obs] at this ⊢
    rw [this]
  | x :: xs, ys, k => by
    have := obsO_app xs ys (k + 1)
    simp only [obsO, List.length_cons, List.cons_append, obs] at this ⊢
    rw [show k + (xs.length + 1) = k + 1 + xs.length by omega, this]

section
variable {P : Program} {X : Cx} {w w' : World} {s : St} {ρ ρ' : Pl → Option Nat} {a : Act} {o : Oper} {ob ob' : Obs} {R R' : Nat → Prop}

theorem outV_rel {lall : List Nat} (hG : Gam X s ρ a w) {ob : Obs} (hob : s.ob = Ev.freeze ob lall) {x y : AV} {l : List Nat} {c : Value} (h : outV ob x = some (y, l)) (hsub : ∀ i, i ∈ l → i ∈ lall) (hx : RA X s ρ w x c) : RA X s ρ w y c := by
  unfold outV at h
  split at h
  · split at h
    · rename_i sz z app wr xs hr
      split at h
      · cases h; exact hx
      · rename_i hwr
        cases h
        obtain ⟨wr', h1, h2⟩ := freeze_row lall ob _ (rowAt_some hr)
        rw [← hob, h2 (.inl (by simpa using hwr))] at h1
        exact .r (own_rv hG h1 hx)
    · cases h
  · rename_i xs
    split at h
    · rename_i ys l' hrv
      cases h
      cases hx
      rename_i cs hl hrel
      refine .r (.agg _ _ (by rw [rvs_len hrv]; exact hl) fun i y c hy hc => ?_)
      have hlt : i < xs.length := by have := (List.getElem?_eq_some_iff.1 hy).1; have := rvs_len hrv; omega
      have hxi : xs[i]? = some xs[i] := by simp [hlt]
      exact rvs_rel hG hob hrv hsub i _ y c hxi hy (hrel i _ c hxi hc)
    · cases h
  · cases h; exact hx
theorem outL_rel {lall : List Nat} (hG : Gam X s ρ a w) {ob : Obs} (hob : s.ob = Ev.freeze ob lall) : ∀ {xs ys : List AV} {l : List Nat}, outL ob xs = some (ys, l) → (∀ i, i ∈ l → i ∈ lall) →
    ys.length = xs.length ∧ ∀ (i : Nat) (x y : AV) (c : Value), xs[i]? = some x → ys[i]? = some y → RA X s ρ w x c → RA X s ρ w y c
  | [], ys, l, h, hs => by simp [outL] at h; obtain ⟨rfl, rfl⟩ := h; simp
  | z :: xs, ys, l, h, hs => by
    simp only [outL] at h
    split at h
    · rename_i y' k zs j h1 h2
      cases h
      obtain ⟨g1, g2⟩ := outL_rel hG hob h2 (fun p hp => hs p (by simp [hp]))
      refine ⟨by simp [g1], fun i x y c hx hy hr => ?_⟩
      cases i with
      | zero =>
        simp at hx hy
        subst hx; subst hy
        exact outV_rel hG hob h1 (fun p hp => hs p (by simp [hp])) hr
      | succ i =>
        simp at hx hy
        exact g2 i x y c hx hy hr
    · cases h

def tupOf : List Value → Value
  | [v] => v
  | vs => .tuple vs.toArray
def resV (tmps : Array Value) : ResultVar → Sem Value
  | .tmp t => pure (tmps.getD t undef)
  | .cell a t => do loadVar t (← asAddr (tmps.getD a undef))
theorem run_results (fn : Func) (rs : List ResultVar) (h : fn.results.toList = rs) (tmps : Array Value) {cs : List Value} (hm : (rs.mapM (resV tmps)).run P w = .ok cs w) : (results fn tmps).run P w = .ok (tupOf cs) w := by
  have hfn : fn.results = rs.toArray := by rw [← h]
  have key : (fn.results.mapM (m := Sem) (resV tmps)).run P w = .ok cs.toArray w := by
    rw [hfn]
    simp only [List.mapM_toArray]
    simp only [map_eq_pure_bind, Sem.run_bind, hm, Result.andThen_ok, Sem.run_pure]
  have key2 : (fn.results.mapM (m := Sem) fun | .tmp t => pure (tmps.getD t undef) | .cell a t => do loadVar t (← asAddr (tmps.getD a undef))).run P w = .ok cs.toArray w := by
    rw [← key]
    congr 2
  unfold results
  rw [Sem.run_bind]
  refine (congrArg (fun r => Result.andThen r _) key2).trans ?_
  clear key key2 hfn h hm
  match cs with
  | [] => rfl
  | [t] => rfl
  | t :: t' :: rs => rfl
theorem ld_ptr {g : Bool} (hg : g = true) {n : Option Nat} {u : AV} {v : Value} (hG : Gam X s ρ a w) (hok : (ld1 g n u s.ob).ok) (hu : RA X s ρ w u v) : ∃ b o, v = .pointer (some ⟨b, o, none⟩) := by
  cases u with
  | ptr id ver off =>
    simp only [ld1] at hok
    rcases hr : boxAt s.ob id ver with _ | c
    · rw [hr] at hok; exact (hok hg).elim
    · cases hu
      rename_i h
      obtain ⟨b, _, hc⟩ := h.live (boxAt_some hr)
      exact ⟨b, off, hc⟩
  | oel id ver i off =>
    simp only [ld1] at hok
    rcases hr : rowAt s.ob id ver with _ | c
    · rw [hr] at hok; exact (hok hg).elim
    · cases hu
      rename_i h
      obtain ⟨_, _, b, _, hc⟩ := h.live (rowAt_some hr)
      exact ⟨b, _, hc⟩
  | rp ys => cases hu; exact ⟨_, _, rfl⟩
  | _ => exact (hok.2 hg).elim
theorem opn_rel {np : Nat} {all : List (Nat × Bool)} {D : AV → List Ob → Prop} {tmps : Array Value} {ob : Obs} : ∀ {rs : List RSl} {e : Env} {a : Act}, opn np all D rs e ob → Gam X ⟨e, ob⟩ ρ a w → (rs.all fun p => p.agg P) = true → (∀ p ∈ rs, p.1 < X.n) → (rs.map (·.1)).Nodup →
    (∀ p ∈ rs, tmps.getD p.1 undef = a.tmps.getD p.1 undef) → ∃ e' a' cs, Gam X ⟨e', ob⟩ ρ a' w ∧ expo np all ⟨e', ob⟩ D ∧ ((rs.map RSl.rv).mapM (resV tmps)).run P w = .ok cs w ∧ cs.length = rs.length ∧
      (∀ (i : Nat) (p : RSl) (c : Value), rs[i]? = some p → cs[i]? = some c → RelA w (Free X.B ob ρ w) ob ρ (e' p.1) c) ∧ ∀ t, t ∉ rs.map (·.1) → e' t = e t
  | [], e, a, h, hG, _, _, _, _ => ⟨e, a, [], hG, h, by simp, rfl, by simp, fun _ _ => rfl⟩
  | (t, fl, none) :: rs, e, a, h, hG, hag, hlt, hnd, htm => by
    simp only [List.all_cons, Bool.and_eq_true] at hag
    simp only [List.map_cons, List.nodup_cons] at hnd
    obtain ⟨e', a', cs, g1, g2, g3, g4, g5, g6⟩ := opn_rel (rs := rs) h hG hag.2 (fun p hp => hlt p (by simp [hp])) hnd.2 (fun p hp => htm p (by simp [hp]))
    refine ⟨e', a', tmps.getD t undef :: cs, g1, g2, ?_, by simp [g4], fun i p c hp hc => ?_, fun t' ht' => ?_⟩
    · simp only [List.map_cons, List.mapM_cons, Sem.run_bind, RSl.rv, resV, Sem.run_pure, Result.andThen_ok]
      rw [g3]
      simp only [Result.andThen_ok]
    · cases i with
      | zero =>
        simp at hp hc
        subst hp; subst hc
        rw [g6 t hnd.1]
        have := hG.env t
        rw [← htm (t, fl, none) (by simp)] at this
        rw [Array.getD_eq_getD_getElem?] at this
        exact this
      | succ i => exact g5 i p c (by simpa using hp) (by simpa using hc)
    · simp at ht'
      exact g6 t' (by simpa using ht'.2)
  | (t, fl, some (ty, n)) :: rs, e, a, h, hG, hag, hlt, hnd, htm => by
    simp only [List.all_cons, Bool.and_eq_true] at hag
    simp only [List.map_cons, List.nodup_cons] at hnd
    obtain ⟨hok, h⟩ := h
    have ht : a.eval (.tmp t) = a.tmps.getD t undef := rfl
    have hsee := see_ld (P := P) (s := ⟨e, ob⟩) (o := { dst := none, op := .load ty (.tmp t), type := 0, pos := "", after := #[], guard := none }) rfl hG rfl hag.1 (hG.env t) hok
    obtain ⟨c, hrun, hr⟩ := hsee
    obtain ⟨b, o, hv⟩ := ld_ptr rfl hG hok (hG.env t)
    have hload : (loadVar ty ⟨b, o, none⟩).run P w = .ok c w := by
      simp only [execOp, ht, hv, Instr.loadAt, Instr.sureAddr, Sem.run_bind, Sem.run_pure, Result.andThen_ok] at hrun
      generalize (loadVar ty ⟨b, o, none⟩).run P w = r at hrun ⊢
      cases r with
      | ok v w1 => simp only [Result.andThen_ok] at hrun; cases hrun; rfl
      | halt x w1 => cases hrun
    have hG2 := hG.see (hlt (t, fl, some (ty, n)) (by simp)) hr
    obtain ⟨e', a', cs, g1, g2, g3, g4, g5, g6⟩ := opn_rel (rs := rs) (tmps := tmps) h hG2 hag.2 (fun p hp => hlt p (by simp [hp])) hnd.2 (fun p hp => by
      rw [htm p (by simp [hp])]
      have hne : t ≠ p.1 := fun heq => hnd.1 (by rw [heq]; exact List.mem_map_of_mem hp)
      simp [Act.put, Array.getD_eq_getD_getElem?, Array.getElem?_setIfInBounds_ne hne])
    refine ⟨e', a', c :: cs, g1, g2, ?_, by simp [g4], fun i p c' hp hc => ?_, fun t' ht' => ?_⟩
    · have htm0 := htm (t, fl, some (ty, n)) (by simp)
      simp only [List.map_cons, List.mapM_cons, Sem.run_bind, RSl.rv, resV]
      simp only at htm0
      rw [htm0, hv]
      simp only [asAddr, Sem.run_pure, Result.andThen_ok]
      rw [hload]
      simp only [Result.andThen_ok]
      rw [g3]
      simp only [Result.andThen_ok]
    · cases i with
      | zero =>
        simp at hp hc
        subst hp; subst hc
        rw [g6 t hnd.1]
        simp only [put, if_true]
        exact hr
      | succ i => exact g5 i p c' (by simpa using hp) (by simpa using hc)
    · simp at ht'
      rw [g6 t' (by simpa using ht'.2)]
      simp [put, ht'.1]

set_option maxHeartbeats 1000000 in
/-- A FUNCTION'S CONTRACT, from its code. -/
theorem triple_of_W {f : FuncId} {fn : Func} {c : Code} {pc : PC} {args : List AV} {po ro : List Ob} {res : AV} {rs : List RSl} (hf : P.funcs[f]? = some fn) (hb : fn.body = some c) (hn : fn.ntmps ≤ 100000) (hck : chkC P fn.ntmps c pc = true)
    (hal : args.length ≤ fn.ntmps) (hres : fn.results.toList = rs.map RSl.rv) (hag : (rs.all fun p => p.agg P) = true) (hrs : (rs.all fun p => decide (p.1 < fn.ntmps)) = true) (hnd : (rs.map (·.1)).Nodup) (hpo : po.length ≤ 1000)
    (h : W P po.length pc (RetP po.length rs fun v os => v = res ∧ os = ro) ⟨argE 0 args, ob0 po⟩) : Triple P f args po res ro := by
  intro w cargs ρ B hgl hB hM hcs hargs
  let X : Cx := ⟨fn.ntmps, Held (ob0 po) ρ, pinOf po ρ, B, w⟩
  haveI : GlC P X := ⟨hgl⟩
  have hpin : ∀ id b, X.pn id = some b → ρ id = some b ∧ ∃ o, ob0 po id = some (0, o) ∧ o.pinned = true := fun id b hp => by
    simp only [X, pinOf] at hp
    split at hp
    · rename_i v o hx
      split at hp
      · rename_i ho
        have := (ob0_some hx).2.2
        simp only at this
        subst this
        exact ⟨hp, o, hx, ho⟩
      · cases hp
    · cases hp
  have hX : Mem X (ob0 po) ρ w := ⟨hM.obj, hM.inj, hM.keeps, hM.own, hpin⟩
  have hpr : ∀ id b, X.pn id = some b → 1000000 ≤ id ∧ id < 1000000 + po.length := fun id b hp => by
    obtain ⟨_, cells, hx, _⟩ := hpin id b hp
    obtain ⟨h1, h2, _⟩ := ob0_some hx
    have := (List.getElem?_eq_some_iff.1 h2).1
    exact ⟨h1, by omega⟩
  have hG : Gam X ⟨argE 0 args, ob0 po⟩ ρ { tmps := cargs ++ Array.replicate (fn.ntmps - cargs.size) undef, defers := [] } w := by
    refine ⟨hX, by simp [X]; omega, rfl, fun t => ?_, fun id hid => ?_, hn, hB⟩
    · show RelA w (Free X.B (ob0 po) ρ w) (ob0 po) ρ (argE 0 args t) _
      rw [argE_at (Nat.zero_le _), Nat.sub_zero]
      by_cases ht : t < args.length
      · have hx : args[t]? = some args[t] := by simp [ht]
        have hc : cargs[t]? = some (cargs[t]'(by omega)) := by simp [show t < cargs.size by omega]
        have := hargs t _ _ hx hc
        rw [hx]
        simp only [Option.getD_some]
        rw [Array.getD_eq_getD_getElem?, Array.getElem?_append_left (by omega), hc]
        exact this
      · rw [List.getElem?_eq_none (by omega)]
        exact .undef _
    · rcases hp : X.pn id with _ | b
      · rfl
      · have := (hpr id b hp).1; omega
  refine calls_of_wp hf hb (wp_mono (W_sound (by omega) hpr pc c _ _ ρ _ w hck h hG) fun e a' w' hp => ?_)
  have key : (∃ s ρ, opn po.length (rs.map fun p => (p.1, p.2.1)) (fun v os => v = res ∧ os = ro) rs s.e s.ob ∧ Gam X s ρ a' w') → a'.defers = [] ∧ ∃ v, (results fn a'.tmps).run P w' = .ok v w' ∧ ∃ c ρ', Ending.returned v = .returned c ∧ Mem ⟨0, Held (ob0 po) ρ, pinOf po ρ, B, w⟩ (ob0 ro) ρ' w' ∧ RelA w' (Free B (ob0 ro) ρ' w') (ob0 ro) ρ' res c := by
    rintro ⟨s0, ρ1, hx0, hG0⟩
    obtain ⟨e1, a1, cs, hG1, hx, hrun, hcl, hrel, _⟩ := opn_rel (P := P) (tmps := a'.tmps) hx0 hG0 hag (fun p hp => by simpa using List.all_eq_true.1 hrs p hp) hnd (fun _ _ => rfl)
    refine ⟨hG0.df, _, run_results fn _ hres a'.tmps hrun, ?_⟩
    generalize hall : (rs.map fun p => (p.1, p.2.1)) = all at hx
    have hal1 : all.length = rs.length := by rw [← hall]; simp
    obtain ⟨ρ2, g1, g2, g3, g4⟩ := preL_rel (live := all) (fun p hp => by
      rw [← hall] at hp
      obtain ⟨q, hq, rfl⟩ := List.mem_map.1 hp
      have : q.1 < fn.ntmps := by simpa using List.all_eq_true.1 hrs q hq
      simp only
      omega) hG1
    unfold expo at hx
    simp only at g1 g2 g3 g4 hx
    rcases ho : outL (preL e1 all s0.ob).2 (preL e1 all s0.ob).1 with _ | ⟨vs, l⟩
    · rw [ho] at hx; exact hx.elim
    rw [ho] at hx
    simp only [expo2] at hx
    have hG3 := Gam.freeze (s := ⟨e1, (preL e1 all s0.ob).2⟩) l g1
    obtain ⟨k1, k2⟩ := outL_rel (s := ⟨e1, Ev.freeze (preL e1 all s0.ob).2 l⟩) hG3 rfl ho (fun _ h => h)
    rcases hn2 : nrm 64 po.length (1000000 + po.length) vs (freeze (preL e1 all s0.ob).2 l) with _ | ⟨vs', pos, los⟩
    · rw [hn2] at hx; exact hx.elim
    rw [hn2] at hx
    obtain ⟨hx1, hx2⟩ := hx
    obtain ⟨ρ4, m1, m2, m3, m4⟩ := hG3.toMem.nrm hn2 (Nat.le_refl _) hpr
    rw [← m3, obsO_app pos los 1000000, hx2] at m1 m4
    refine ⟨_, ρ4, rfl, ⟨m1.obj, m1.inj, m1.keeps, m1.own, m1.pin⟩, ?_⟩
    have hval : ∀ (i : Nat) (y : AV) (v : Value), vs'[i]? = some y → cs[i]? = some v → RelA w' (Free B (ob0 ro) ρ4 w') (ob0 ro) ρ4 y v := fun i y v hy hv => by
      have hlt := (List.getElem?_eq_some_iff.1 hv).1
      obtain ⟨q, hr⟩ : ∃ q, rs[i]? = some q := ⟨rs[i]'(by omega), by simp [show i < rs.length by omega]⟩
      have ha : all[i]? = some (q.1, q.2.1) := by rw [← hall, List.getElem?_map, hr]; rfl
      have hp : (preL e1 all s0.ob).1[i]? = some ((preL e1 all s0.ob).1[i]'(by omega)) := by simp [show i < (preL e1 all s0.ob).1.length by omega]
      have hv' : vs[i]? = some (vs[i]'(by omega)) := by simp [show i < vs.length by omega]
      exact m4 i _ y _ hv' hy (k2 i _ _ _ hp hv' (freeze_rel l (g4 i _ _ _ _ ha hp (hrel i _ v hr hv))))
    have hlen : vs'.length = cs.length := by omega
    rw [← hx1]
    clear hrun hrel hcl g4
    match vs', cs, hlen, hval with
    | [], [], _, hv => exact .tup _ _ (by simp) fun i x c hx => by simp at hx
    | [x], [c], _, hv => exact hv 0 x c rfl rfl
    | x :: x' :: xs, c :: c' :: cs, hl, hv => exact .tup _ _ (by simp at hl ⊢; omega) fun i y v hy hc => hv i y v hy (by simpa using hc)
    | [], _ :: _, hl, _ => simp at hl
    | _ :: _, [], hl, _ => simp at hl
    | [_], _ :: _ :: _, hl, _ => simp at hl
    | _ :: _ :: _, [_], hl, _ => simp at hl
  cases e with
  | normal => exact key hp
  | ret => exact key hp
  | exit i => obtain ⟨_, _, h, _⟩ := hp; exact h.elim
  | goto l => exact hp.elim
  | panic ch => exact hp.elim
  | outgrown => exact hp.elim
end
end Go.Ev

import Derived.Test.YtjpejkfhkbaakaaEvDrw
namespace Go.Ev
open Go
set_option linter.unnecessarySimpa false
set_option linter.unusedSimpArgs false
set_option linter.unusedVariables false

/-- A nil slice as an empty row of one's own. -/
def preV (fl : Bool) (id : Nat) (ob : Obs) : AV → AV × Obs
  | .nils sz z => if fl then (.own id (nv ob id) 0 0, upd id (nv ob id, .row sz z true true []) ob) else (.nils sz z, ob)
  | x => (x, ob)
def preL (e : Env) : List (Nat × Bool) → Obs → List AV × Obs
  | [], ob => ([], ob)
  | (t, fl) :: r, ob => ((preV fl (900000 + t) ob (e t)).1 :: (preL e r (preV fl (900000 + t) ob (e t)).2).1, (preL e r (preV fl (900000 + t) ob (e t)).2).2)
def nrmD (D : List AV → List Ob → List Ob → Prop) : Option (List AV × List Ob × List Ob) → Prop
  | some (vs, pos, los) => D vs pos los
  | none => False
/-- The head of a loop: the slots that are kept, and the objects, counted anew. -/
def atHead (np : Nat) (live : List (Nat × Bool)) (s : St) (D : List AV → List Ob → List Ob → Prop) : Prop :=
  nrmD D (nrm 64 np 2000000 (preL s.e live s.ob).1 (preL s.e live s.ob).2)
def keep : List (Nat × Bool) → List AV → Env
  | l :: ls, x :: xs => put l.1 x (keep ls xs)
  | _, _ => fun _ => .undef
def stAt (live : List (Nat × Bool)) (vs : List AV) (pos los : List Ob) : St := ⟨keep live vs, obsO 1000000 pos (obsO 2000000 los fun _ => none)⟩
def W (P : Program) (np : Nat) : PC → (Ex → St → Prop) → St → Prop
  | .skip, K, s => K .nor s
  | .reg rs, K, s => wpR P rs (K .nor) s
  | .seq a b, K, s => W P np a (fun x s => match x with | .nor => W P np b K s | x => K x s) s
  | .cond x a b, K, s => match x.ev s.e with
    | .r (.v (.bool c)) => (c = true → W P np a K s) ∧ (c = false → W P np b K s)
    | _ => False
  | .block id c, K, s => W P np c (fun x s => match x with | .ex i => if i = id then K .nor s else K (.ex i) s | x => K x s) s
  | .loop c, K, s => ∃ (live : List (Nat × Bool)) (I : List AV → List Ob → List Ob → Prop) (m : List AV → List Ob → List Ob → Nat), (live.all fun p => decide (p.1 < 100000)) = true ∧ atHead np live s I ∧
      ∀ vs pos los, I vs pos los → W P np c (fun x s' => match x with | .nor => atHead np live s' (fun vs' pos' los' => I vs' pos' los' ∧ m vs' pos' los' < m vs pos los) | x => K x s') (stAt live vs pos los)
  | .exit i, K, s => K (.ex i) s
  | .ret, K, s => K .rt s
  | .drw rs pre, K, s => wpD P rs [] s fun log s => apartB pre log = true ∧ K .nor s

section
variable {P : Program} {X : Cx} [GlC P X] {w w' : World} {s : St} {ρ ρ' : Pl → Option Nat} {a : Act} {o : Oper} {ob ob' : Obs} {R R' : Nat → Prop} {ops : Array Oper} {Q : Exit → Act → World → Prop}

theorem yes_sound (hG : Gam X s ρ a w) {g : Option (Nat × Bool)} {b : Bool} (hc : chkG ops o.guard g = true) (hy : yes s.e g = some b) : Region.wanted o (yielded ops a.tmps) = b := by
  unfold chkG at hc
  split at hc
  · rename_i h1
    simp [yes] at hy
    subst hy
    simp [Region.wanted, h1]
  · rename_i j want t want' hg
    simp only [Bool.and_eq_true, beq_iff_eq] at hc
    obtain ⟨rfl, ht⟩ := hc
    have henv := hG.env t
    simp only [yes] at hy
    simp only [Region.wanted, hg, yielded, ht, Option.bind_some]
    generalize s.e t = x at henv hy
    unfold yes1 at hy
    split at hy
    · rename_i q
      cases hy
      have h1 := inv_v henv
      have h2 : a.tmps[t]? = some (.bool q) := by
        rcases hq : a.tmps[t]? with _ | u
        · simp [Array.getD_eq_getD_getElem?, hq, undef] at h1
        · simp [Array.getD_eq_getD_getElem?, hq] at h1
          rw [h1]
      rw [h2]
      cases want <;> cases q <;> rfl
    · rename_i h q
      cases hy
      cases henv with
      | gd _ h1 h3 =>
      cases h
      · have h2 := h3 rfl
        rcases hq : a.tmps[t]? with _ | u
        · simp
        · simp [Array.getD_eq_getD_getElem?, hq] at h2
          subst h2
          simp [undef]
      · have h1' := inv_v (h1 rfl)
        have h2 : a.tmps[t]? = some (.bool q) := by
          rcases hq : a.tmps[t]? with _ | u
          · simp [Array.getD_eq_getD_getElem?, hq, undef] at h1'
          · simp [Array.getD_eq_getD_getElem?, hq] at h1'
            rw [h1']
        rw [h2]
        cases want <;> cases q <;> rfl
    · cases hy
  · cases hc

theorem chkAct_st {m : Nat} {x y : Opd} (h : chkAct P o (.st m x y) = true) : ∃ t u v inf, o.op = .store t u v ∧ P.info? t = some inf ∧ inf.size = m ∧ opd u x = true ∧ opd v y = true := by
  unfold chkAct at h
  cases ho : o.op <;> simp only [ho] at h <;> try (cases h; done)
  rename_i t u v
  simp only [Bool.and_eq_true] at h
  obtain ⟨⟨h1, h2⟩, h3⟩ := h
  split at h1
  · rename_i inf hi
    exact ⟨t, u, v, inf, rfl, hi, by simpa using h1, h2, h3⟩
  · cases h1
theorem isFn_ok {f : FuncId} (h : isFn P f = true) (args : Array Value) : (callFunc f args).run P w = .ok (.enter f args) w := by
  unfold isFn at h
  split at h
  · rename_i fn hf
    simp at h
    obtain ⟨h1, h2⟩ := h
    have h3 : ¬ fn.body = none := by intro e; rw [e] at h1; cases h1
    simp [callFunc, hf, h2, h3]
  · cases h
theorem chkPX_call {f : FuncId} {args : List Opd} (h : chkPX P o (.call f args) = true) : ∃ c, o.op = .call c ∧ c.callee = .value (.func f) ∧ all2 opd c.args.toList args = true ∧ isFn P f = true := by
  unfold chkPX at h
  cases ho : o.op <;> simp only [ho] at h <;> try (cases h; done)
  rename_i c
  split at h
  · rename_i f' hc
    simp only [Bool.and_eq_true, beq_iff_eq] at h
    obtain ⟨⟨rfl, h2⟩, h3⟩ := h
    exact ⟨c, rfl, hc, h2, h3⟩
  · cases h
theorem chkPX_callv {x : Opd} {args : List Opd} (h : chkPX P o (.callv x args) = true) : ∃ c x', o.op = .call c ∧ c.callee = .value x' ∧ opd x' x = true ∧ all2 opd c.args.toList args = true := by
  unfold chkPX at h
  cases ho : o.op <;> simp only [ho] at h <;> try (cases h; done)
  rename_i c
  split at h
  · rename_i x' hc
    simp only [Bool.and_eq_true] at h
    exact ⟨c, x', rfl, hc, h.1, h.2⟩
  · cases h
theorem pr_sound {r : PR} {K : St → Prop} {i : Nat} {N : Act → World → Prop} (hG : Gam X s ρ a w) (hi : ops[i]? = some o) (hck : chkPR P X.n ops o r = true) (h : r.wp P s K (yes s.e r.g)) (hN : ∀ s' ρ' a' w', K s' → Gam X s' ρ' a' w' → N a' w') : wpOp P ops Q i N a w := by
  simp only [chkPR, Bool.and_eq_true, beq_iff_eq] at hck
  obtain ⟨⟨⟨hd, hdn⟩, hg⟩, hx⟩ := hck
  rcases hy : yes s.e r.g with _ | b
  · rw [hy] at h; exact h.elim
  rw [hy] at h
  have hw := yes_sound hG hg hy
  have hskip : ∀ x, (∀ c, c = undef → RA X s ρ w x c) → Gam X ⟨putO r.d x s.e, s.ob⟩ ρ (a.put o.dst undef) w := fun x hx => by
    rw [hd]
    rcases hrd : r.d with _ | d
    · exact hG
    · rw [hrd] at hdn
      exact hG.see (by simpa using hdn) (hx _ rfl)
  unfold wpOp
  simp only [hi, hw]
  simp only [PR.wp] at h
  rcases r with ⟨rd, rg, ru, rx⟩
  simp only at hd hdn hg hx h hy hskip
  cases rx with
  | see po =>
    obtain ⟨h1, h2⟩ := h
    cases b with
    | true =>
      simp only [if_true]
      refine .inl ?_
      obtain ⟨c, hrun, hr⟩ := see_all (P := P) rfl hG hx h1
      unfold Oper.wp
      rw [hrun, Oper.upon_value, hd]
      rcases rd with _ | d
      · simp [isSee] at hdn
      · refine hN _ ρ _ _ h2 (hG.see (by simpa using hdn) ?_)
        unfold gdv
        split
        · exact hr
        · exact .gd true (fun _ => hr) (by simp)
    | false =>
      simp only [Bool.false_eq_true, if_false]
      refine hN _ ρ _ _ h2 (hskip _ fun c hc => ?_)
      rcases rg with _ | g
      · simp [yes] at hy
      · simp only [gdv]
        exact .gd false (by simp) (fun _ => hc)
  | act po =>
    cases b with
    | false =>
      simp only [Bool.false_eq_true, if_false]
      exact hN _ ρ _ _ (h.2 rfl) (hskip _ fun c _ => .undef c)
    | true =>
      simp only [if_true]
      refine .inl ?_
      obtain ⟨h1, h2⟩ := h.1 rfl
      rcases rd with _ | d
      · have hst : ∃ n x y, po = .st n x y := by
          cases po <;> simp [isActD, isSee] at hdn
          exact ⟨_, _, _, rfl⟩
        obtain ⟨m, x, y, rfl⟩ := hst
        obtain ⟨t, u, v, inf, ho, hinf, hm, hu, hv⟩ := chkAct_st hx
        obtain ⟨⟨hm1, hm2⟩, hok⟩ := h1
        obtain ⟨nx, w1, ρ1, hrun, hG1, hv⟩ := act_st hG ho hinf hm (get_op hG rfl hu hm1) (get_op hG rfl hv hm2) hok
        unfold Oper.wp
        rw [hrun]
        rcases hv with ⟨c, rfl, hr⟩ | ⟨rfl, hv⟩
        · rw [Oper.upon_value, hd]
          exact hN _ ρ1 _ _ h2 hG1
        · rw [Oper.upon_skip, hd]
          exact hN _ ρ1 _ _ h2 hG1
      · obtain ⟨nx, w1, ρ1, hrun, hG1, hv⟩ := act_all (P := P) (d := d) hG hx (by simpa using hdn) h1
        unfold Oper.wp
        rw [hrun]
        rcases hv with ⟨c, rfl, hr⟩ | ⟨rfl, hv⟩
        · rw [Oper.upon_value, hd]
          exact hN _ ρ1 _ _ h2 (hG1.see (s := ⟨s.e, _⟩) (by simpa using hdn) hr)
        · rw [Oper.upon_skip, hd]
          refine hN _ ρ1 _ _ h2 (hG1.see (s := ⟨s.e, _⟩) (by simpa using hdn) ?_)
          simp only [Option.getD_some]
          rw [hv]
          exact .undef _
  | call f args =>
    cases b with
    | false =>
      simp only [Bool.false_eq_true, if_false]
      exact hN _ ρ _ _ (h.2 rfl) (hskip _ fun c _ => .undef c)
    | true =>
      simp only [if_true]
      refine .inl ?_
      obtain ⟨h1, h2⟩ := h.1 rfl
      obtain ⟨c, ho, hcal, hall, hf⟩ := chkPX_call hx
      obtain ⟨g1, g2⟩ := get_opl hG rfl hall h1
      have hrun : (execOp a.eval o).run P w = .ok (.enter f (c.args.map a.eval)) w := by
        have := isFn_ok (w := w) hf (c.args.map a.eval)
        simp [execOp, ho, resolve, hcal, Act.eval, Deferred.ofValue, invoke]
        exact this
      unfold Oper.wp
      rw [hrun, Oper.upon_enter]
      refine (call_sound hG h2 (by simp [g1]) fun i x cc hxx hc => ?_).mono ?_
      · rw [Array.getElem?_map, Option.map_eq_some_iff] at hc
        obtain ⟨y, hy, rfl⟩ := hc
        exact g2 i x y hxx (by simpa using hy)
      · rintro e w1 ⟨cv, v, ob1, ρ1, rfl, hK, hG1, hr⟩
        simp only
        rw [hd]
        rcases rd with _ | d
        · exact hN _ ρ1 _ _ hK hG1
        · exact hN _ ρ1 _ _ hK (hG1.see (s := ⟨s.e, ob1⟩) (by simpa using hdn) hr)
  | callv x args =>
    cases b with
    | false =>
      simp only [Bool.false_eq_true, if_false]
      exact hN _ ρ _ _ (h.2 rfl) (hskip _ fun c _ => .undef c)
    | true =>
      simp only [if_true]
      refine .inl ?_
      obtain ⟨hm, h1, h2⟩ := h.1 rfl
      obtain ⟨c, x', ho, hcal, hxx, hall⟩ := chkPX_callv hx
      obtain ⟨g1, g2⟩ := get_opl hG rfl hall h1
      have hf := get_op hG rfl hxx hm
      generalize (x.ev s.e).bare = xv at hf h2
      unfold CallV at h2
      split at h2
      · rename_i f cap k
        obtain ⟨hfn, h2⟩ := h2
        generalize hev : a.eval x' = cf at hf
        cases hf
        rename_i fs cs hl hcs hk
        have hrun : (execOp a.eval o).run P w = .ok (.enter f (fs ++ (c.args.map a.eval ++ cs))) w := by
          have := isFn_ok (w := w) hfn (fs ++ (c.args.map a.eval ++ cs))
          simp [execOp, ho, resolve, hcal, hev, Deferred.ofValue, invoke]
          exact this
        unfold Oper.wp
        rw [hrun, Oper.upon_enter]
        have hg1 : (barel s.e args).length = c.args.size := by rw [g1]; simp
        have hpre : ∀ (i : Nat) (y : AV) (v : Value), (cap.take k)[i]? = some y → fs[i]? = some v → RA X s ρ w y v := fun i y v hy hv => by
          rw [List.getElem?_take] at hy
          split at hy
          · rename_i hlt
            exact hcs i y v hy (by rw [Array.getElem?_append, if_pos (by omega)]; exact hv)
          · cases hy
        have hpost : ∀ (i : Nat) (y : AV) (v : Value), (cap.drop k)[i]? = some y → cs[i]? = some v → RA X s ρ w y v := fun i y v hy hv => by
          rw [List.getElem?_drop] at hy
          exact hcs (k + i) y v hy (by rw [Array.getElem?_append, if_neg (by omega), show k + i - fs.size = i by omega]; exact hv)
        have happ : ∀ (xs ys : List AV) (us vs : Array Value), us.size = xs.length → (∀ (i : Nat) (y : AV) (v : Value), xs[i]? = some y → us[i]? = some v → RA X s ρ w y v) →
            (∀ (i : Nat) (y : AV) (v : Value), ys[i]? = some y → vs[i]? = some v → RA X s ρ w y v) → ∀ (i : Nat) (y : AV) (v : Value), (xs ++ ys)[i]? = some y → (us ++ vs)[i]? = some v → RA X s ρ w y v :=
          fun xs ys us vs hs h1 h2 i y v hy hv => by
            rw [List.getElem?_append] at hy
            rw [Array.getElem?_append, hs] at hv
            split at hy
            · rename_i hlt
              rw [if_pos hlt] at hv
              exact h1 i y v hy hv
            · rename_i hlt
              rw [if_neg hlt] at hv
              exact h2 _ y v hy hv
        have hkl : (cap.take k).length = k := by rw [List.length_take]; omega
        refine (call_sound hG h2 (by simp [g1]; omega) (happ _ _ _ _ (by rw [hkl]; exact hk) hpre (happ _ _ _ _ (by rw [hg1]; simp) (fun i y v hy hv => ?_) hpost))).mono ?_
        · rw [Array.getElem?_map, Option.map_eq_some_iff] at hv
          obtain ⟨z, hz, rfl⟩ := hv
          exact g2 i y z hy (by simpa using hz)
        · rintro e w1 ⟨cv, v, ob1, ρ1, rfl, hK, hG1, hr⟩
          simp only
          rw [hd]
          rcases rd with _ | d
          · exact hN _ ρ1 _ _ hK hG1
          · exact hN _ ρ1 _ _ hK (hG1.see (s := ⟨s.e, ob1⟩) (by simpa using hdn) hr)
      · cases h2

theorem wpR_sound {rs : List PR} {l : List Oper} {K : St → Prop} {k : Nat} (hops : ∀ i, i < l.length → ops[k + i]? = l[i]?) (hck : all2 (chkPR P X.n ops) l rs = true) (hG : Gam X s ρ a w) (h : wpR P rs K s)
    (hN : ∀ s' ρ' a' w', K s' → Gam X s' ρ' a' w' → Q .normal a' w') : wpOps P ops Q (List.range' k l.length) a w := by
  induction l generalizing rs k s ρ a w with
  | nil =>
    cases rs with
    | nil => exact hN s ρ a w h hG
    | cons r rs => cases hck
  | cons o l ih =>
    cases rs with
    | nil => cases hck
    | cons r rs =>
      simp only [all2, Bool.and_eq_true] at hck
      have hi : ops[k]? = some o := by have := hops 0 (by simp); simpa using this
      rw [List.length_cons, List.range'_succ, wpOps_cons]
      refine pr_sound hG hi hck.1 h fun s' ρ' a' w' hK hG' => ?_
      exact ih (fun i hi => by have := hops (i + 1) (by simp; omega); rw [show k + 1 + i = k + (i + 1) by omega, this]; simp) hck.2 hG' hK

theorem all2_get {α β : Type} {f : α → β → Bool} : ∀ {xs : List α} {ys : List β}, all2 f xs ys = true → xs.length = ys.length ∧ ∀ (i : Nat) (x : α) (y : β), xs[i]? = some x → ys[i]? = some y → f x y = true
  | [], [], _ => ⟨rfl, fun i x y h => by simp at h⟩
  | [], _ :: _, h => by cases h
  | _ :: _, [], h => by cases h
  | x :: xs, y :: ys, h => by
    simp only [all2, Bool.and_eq_true] at h
    obtain ⟨g1, g2⟩ := all2_get h.2
    refine ⟨by simp [g1], fun i a b ha hb => ?_⟩
    cases i with
    | zero => simp at ha hb; subst ha; subst hb; exact h.1
    | succ i => simp at ha hb; exact g2 i a b ha hb
theorem drw_sound {rs : List PR} {pre : List (List Nat)} {log : List Lg} {K : St → Prop} {R : Nat → St} {C : Nat → Ans} (hck : all2 (chkPR P X.n ops) ops.toList rs = true) (hpre : chkPre ops pre = true) (hap : apartB pre log = true) (hll : log.length = rs.length)
    (href : ∀ k r, rs[k]? = some r → (r.out P (R k) (C k)).ok ∧ R (k + 1) = (r.out P (R k) (C k)).st ∧ log[k]? = some (r.out P (R k) (C k)).lg) (hK : K (R rs.length))
    (hN : ∀ s' ρ' a' w', K s' → Gam X s' ρ' a' w' → Q .normal a' w') : ∀ (fuel : Nat) (listed : Array Bool) (s : St) (ρ : Pl → Option Nat) (a : Act) (w : World), listed.size = ops.size →
      (∀ j, listed.getD j false = true → ∀ i, i ∈ pre.getD j [] → listed.getD i false = true) → (List.range ops.size).countP (fun k => !listed.getD k false) ≤ fuel →
      (∀ l, place s l = cont (fun k => place (R k)) (wrt log) (fun k => listed.getD k false = true) ops.size l) → Gam X s ρ a w → wpAny P .any ops Q fuel listed a w := by
  obtain ⟨hlen, hat⟩ := all2_get hck
  have hlen : ops.size = rs.length := by simpa using hlen
  have hr : ∀ k, k < ops.size → ∃ o r, ops[k]? = some o ∧ rs[k]? = some r ∧ chkPR P X.n ops o r = true ∧ (r.out P (R k) (C k)).ok ∧ R (k + 1) = (r.out P (R k) (C k)).st ∧ log.getD k default = (r.out P (R k) (C k)).lg := fun k hk => by
    have h1 : ops[k]? = some ops[k] := by simp [hk]
    have h2 : rs[k]? = some (rs[k]'(by omega)) := by simp [show k < rs.length by omega]
    obtain ⟨g1, g2, g3⟩ := href k _ h2
    exact ⟨_, _, h1, h2, hat k _ _ (by simpa using h1) h2, g1, g2, by simp [List.getD_eq_getElem?_getD, g3]⟩
  have hloc : ∀ k r, k < ops.size → rs[k]? = some r → log.getD k default = (r.out P (R k) (C k)).lg := fun k r hk h => by
    obtain ⟨_, r', _, h2, _, _, _, h3⟩ := hr k hk
    rw [h] at h2; cases h2; exact h3
  have hflag : ∀ k r, k < ops.size → rs[k]? = some r → (log.getD k default).ad = r.x.adr ∧ (log.getD k default).st = r.x.sto := fun k r hk h => by
    rw [hloc k r hk h]
    exact out_flags
  have hWR : ∀ k i, k < ops.size → i ∈ (log.getD k default).wr → i ∈ (log.getD k default).rd ∧ (log.getD k default).ad = false := fun k i hk hw => by
    obtain ⟨o, r, h1, h2, h3, h4, h5, h6⟩ := hr k hk
    refine ⟨?_, ?_⟩
    · simp only [h6] at hw ⊢
      exact ((out_loc (s' := R k) h4 (fun _ _ => rfl) (fun _ _ _ => rfl) (fun _ _ => rfl)).2.2.2.1 i hw).1
    · rw [(hflag k r hk h2).1]
      cases hadr : r.x.adr with
      | false => rfl
      | true =>
        rw [h6] at hw
        rcases r with ⟨d, g, u, x⟩
        cases x with
        | see o =>
          unfold PR.out at hw
          simp only at hw
          generalize yes (R k).e g = y at hw
          rcases y with _ | b
          · simp [PX.out, PR.lg] at hw
          · simp [PX.out, PR.lg] at hw
        | _ => cases hadr
  have hWU : ∀ k l, k < ops.size → wrt log k l → usd log k l := fun k l hk hw => by
    cases l with
    | t t =>
      obtain ⟨o, r, h1, h2, h3, h4, h5, h6⟩ := hr k hk
      simp only [wrt, usd, h6] at hw ⊢
      rw [us_lg.2] at hw
      rw [us_lg.1]
      simp [hw]
    | o i => exact hWR k i hk hw
    | p i => exact (hWR k i hk hw.1).1
  have hoff : ∀ k l, k < ops.size → ¬ wrt log k l → place (R (k + 1)) l = place (R k) l := fun k l hk hw => by
    obtain ⟨o, r, h1, h2, h3, h4, h5, h6⟩ := hr k hk
    have hl := out_loc (s' := R k) h4 (fun _ _ => rfl) (fun _ _ _ => rfl) (fun _ _ => rfl)
    rw [h5]
    cases l with
    | t t =>
      simp only [wrt, h6, us_lg.2] at hw
      simp only [place, hl.2.2.1 t hw]
    | o i =>
      simp only [wrt, h6] at hw
      simp only [place, hl.2.2.2.2 i hw]
    | p i =>
      simp only [wrt, (hflag k r hk h2).2] at hw
      simp only [place]
      by_cases hi : i ∈ (log.getD k default).wr
      · have : r.x.sto = true := by
          cases hsto : r.x.sto with
          | true => rfl
          | false => exact (hw ⟨hi, hsto⟩).elim
        rw [out_pin this]
      · rw [h6] at hi
        rw [hl.2.2.2.2 i hi]
  have hpp : ∀ i j, i < j → j < ops.size → ¬ (i ∈ pre.getD j []) → ∀ l, ¬ (wrt log i l ∧ usd log j l) ∧ ¬ (wrt log j l ∧ usd log i l) := fun i j hij hj hp l => apartB_no hap hij (by omega) hp l
  intro fuel
  induction fuel with
  | zero =>
    intro listed s ρ a w hsz hcl hcnt hpl hG
    have hall : ∀ k, k < ops.size → listed.getD k false = true := fun k hk => by
      have h0 : (List.range ops.size).countP (fun k => !listed.getD k false) = 0 := by omega
      rw [List.countP_eq_zero] at h0
      have := h0 k (by simp [hk])
      simpa using this
    have hs : s = R rs.length := place_ext fun l => by rw [hpl l, cont_all hoff hall ops.size (Nat.le_refl _), hlen]
    refine ⟨?_, hN s ρ a w (by rw [hs]; exact hK) hG⟩
    rcases hrd : Region.ready .any ops listed with _ | ⟨j, js⟩
    · rfl
    · have hj : j ∈ Region.ready .any ops listed := by rw [hrd]; simp
      obtain ⟨h1, o, ho, _⟩ := mem_ready.1 hj
      have hlt := (Array.getElem?_eq_some_iff.1 ho).1
      have := hall j hlt
      rw [Array.getD_eq_getD_getElem?] at this h1
      have hsome : listed[j]? = some (listed[j]'(by omega)) := by simp [show j < listed.size by omega]
      rw [hsome] at this h1
      simp at this h1
      rw [this] at h1
      cases h1
  | succ fuel ih =>
    intro listed s ρ a w hsz hcl hcnt hpl hG
    refine ⟨fun hnil => ?_, fun j hj => ?_⟩
    · have hall : ∀ k, k < ops.size → listed.getD k false = true := fun k => by
        induction k using Nat.strongRecOn with
        | ind k ihk =>
          intro hk
          apply Classical.byContradiction
          intro hnot
          have hf : listed.getD k true = false := by
            rw [Array.getD_eq_getD_getElem?] at hnot ⊢
            have hsome : listed[k]? = some (listed[k]'(by omega)) := by simp [show k < listed.size by omega]
            rw [hsome] at hnot ⊢
            simpa using hnot
          obtain ⟨o, r, h1, _⟩ := hr k hk
          have : k ∈ Region.ready .any ops listed := mem_ready.2 ⟨hf, o, h1, fun e he hb => ihk e.on ((chkPre_spec hpre h1).1 e he hb) (Nat.lt_trans ((chkPre_spec hpre h1).1 e he hb) hk)⟩
          rw [hnil] at this
          cases this
      have hs : s = R rs.length := place_ext fun l => by rw [hpl l, cont_all hoff hall ops.size (Nat.le_refl _), hlen]
      exact hN s ρ a w (by rw [hs]; exact hK) hG
    · obtain ⟨hun, oj, hoj, haft⟩ := mem_ready.1 hj
      have hlt := (Array.getElem?_eq_some_iff.1 hoj).1
      have hunf : ¬ (listed.getD j false = true) := by
        rw [Array.getD_eq_getD_getElem?] at hun ⊢
        have hsome : listed[j]? = some (listed[j]'(by omega)) := by simp [show j < listed.size by omega]
        rw [hsome] at hun ⊢
        simpa using hun
      obtain ⟨o, r, h1, h2, h3, h4, h5, h6⟩ := hr j hlt
      have hpj : ∀ i, i ∈ pre.getD j [] → listed.getD i false = true := fun i hi => by
        obtain ⟨e, he, hb, hor⟩ := (chkPre_spec hpre h1).2 i hi
        have he' : listed.getD e.on false = true := by rw [h1] at hoj; cases hoj; exact haft e he hb
        rcases hor with rfl | hor
        · exact he'
        · exact hcl _ he' i hor
      have hsee : ∀ l, usd log j l → place s l = place (R j) l := fun l hl => by
        rw [hpl l]
        exact cont_at (pr := fun j i => i ∈ pre.getD j []) hoff hpp hcl hlt hunf hpj hl
      have hL := out_loc (s' := s) h4 (fun t ht => by
        have := hsee (.t t) (by simp only [usd, h6]; exact ht)
        simpa [place] using this) (fun hadr i hi => by
        have := hsee (.o i) (by
          simp only [usd]
          rw [(hflag j r hlt h2).1, h6]
          exact ⟨hi, hadr⟩)
        simpa [place] using this) (fun i hi => by
        have := hsee (.p i) (by simp only [usd, h6]; exact hi)
        simpa [place] using this)
      have hset : ∀ k, (listed.setIfInBounds j true).getD k false = true ↔ (listed.getD k false = true ∨ k = j) := fun k => by
        by_cases hkj : k = j
        · subst hkj
          simp [Array.getD_eq_getD_getElem?, hsz, hlt]
        · have : (listed.setIfInBounds j true).getD k false = listed.getD k false := getD_set_ne false (Ne.symm hkj)
          rw [this]
          simp [hkj]
      refine pr_sound hG h1 h3 (out_wp (K := fun s' => ∀ l, place s' l = cont (fun k => place (R k)) (wrt log) (fun k => (listed.setIfInBounds j true).getD k false = true) ops.size l) hL.1 fun l => ?_) fun s' ρ' a' w' hs' hG' => ?_
      · have hfun : (fun k => (listed.setIfInBounds j true).getD k false = true) = fun k => listed.getD k false = true ∨ k = j := funext fun k => propext (hset k)
        rw [hfun]
        by_cases hw : wrt log j l
        · rw [cont_yes (pr := fun j i => i ∈ pre.getD j []) hWU hpp hcl hlt hunf hw, h5]
          cases l with
          | t t =>
            simp only [wrt, h6, us_lg.2] at hw
            simp only [place, hL.2.1 t hw]
          | o i =>
            simp only [wrt, h6] at hw
            simp only [place, (hL.2.2.2.1 i hw).2]
          | p i =>
            have hw1 := hw.1
            simp only [h6] at hw1
            simp only [place, (hL.2.2.2.1 i hw1).2]
        · rw [cont_no hw, ← hpl l]
          cases l with
          | t t =>
            simp only [wrt, h6, us_lg.2] at hw
            simp only [place, hL.2.2.1 t hw]
          | o i =>
            simp only [wrt, h6] at hw
            simp only [place, hL.2.2.2.2 i hw]
          | p i =>
            simp only [place]
            by_cases hi : i ∈ (log.getD j default).wr
            · have : r.x.sto = true := by
                cases hsto : r.x.sto with
                | true => rfl
                | false => exact (hw ⟨hi, by rw [(hflag j r hlt h2).2]; exact hsto⟩).elim
              rw [out_pin this]
            · rw [h6] at hi
              rw [hL.2.2.2.2 i hi]
      · refine ih _ s' ρ' a' w' (by simpa using hsz) (fun k hk i hi => ?_) ?_ hs' hG'
        · rw [hset] at hk ⊢
          rcases hk with hk | rfl
          · exact .inl (hcl k hk i hi)
          · exact .inl (hpj i hi)
        · have := countP_lt (p := fun k => !listed.getD k false) (q := fun k => !(listed.setIfInBounds j true).getD k false) (j := j) (fun x hx => by
            have hx' : ¬ ((listed.setIfInBounds j true).getD x false = true) := by simpa using hx
            rw [hset] at hx'
            simpa using fun h => hx' (.inl h)) (by simpa using hunf) (by have := (hset j).2 (.inr rfl); simp only [this, Bool.not_true]) (l := List.range ops.size) (by simp [hlt])
          omega

def PostOf (X : Cx) (K : Ex → St → Prop) : Exit → Act → World → Prop
  | .normal, a, w => ∃ s ρ, K .nor s ∧ Gam X s ρ a w
  | .exit i, a, w => ∃ s ρ, K (.ex i) s ∧ Gam X s ρ a w
  | .ret, a, w => ∃ s ρ, K .rt s ∧ Gam X s ρ a w
  | _, _, _ => False

theorem preV_rel {fl : Bool} {id : Nat} (hid : id < 1000000) {x : AV} (hG : Gam X s ρ a w) : ∃ ρ', Gam X ⟨s.e, (preV fl id s.ob x).2⟩ ρ' a w ∧ (∀ (y : AV) (c : Value), RA X s ρ w y c → RA X ⟨s.e, (preV fl id s.ob x).2⟩ ρ' w y c) ∧
    ∀ (c : Value), RA X s ρ w x c → RA X ⟨s.e, (preV fl id s.ob x).2⟩ ρ' w (preV fl id s.ob x).1 c := by
  unfold preV
  split
  · rename_i sz z
    split
    · refine ⟨seti ρ id none, hG.nil id _ (hG.pnn id hid) (fun v o h => nv_lt h) sz z true true, fun y c h => h.stays (Stays.nil id _ (fun v o h => nv_lt h) _), fun c h => ?_⟩
      cases h
      exact .own _ _ _ _ _ rfl (at_new ⟨none, 0, rfl, Nat.le_refl _, by simp, by simp, by simp⟩)
    · exact ⟨ρ, hG, fun _ _ h => h, fun _ h => h⟩
  · exact ⟨ρ, hG, fun _ _ h => h, fun _ h => h⟩
theorem preL_rel : ∀ {live : List (Nat × Bool)} {s : St} {ρ : Pl → Option Nat}, (∀ p ∈ live, p.1 < 100000) → Gam X s ρ a w → ∃ ρ', Gam X ⟨s.e, (preL s.e live s.ob).2⟩ ρ' a w ∧ (∀ (y : AV) (c : Value), RA X s ρ w y c → RA X ⟨s.e, (preL s.e live s.ob).2⟩ ρ' w y c) ∧
    (preL s.e live s.ob).1.length = live.length ∧ ∀ (i t : Nat) (fl : Bool) (x : AV) (c : Value), live[i]? = some (t, fl) → (preL s.e live s.ob).1[i]? = some x → RA X s ρ w (s.e t) c → RA X ⟨s.e, (preL s.e live s.ob).2⟩ ρ' w x c
  | [], s, ρ, _, hG => ⟨ρ, hG, fun _ _ h => h, rfl, fun i t fl x c h => by simp at h⟩
  | (t, fl) :: r, s, ρ, hl, hG => by
    have ht : t < 100000 := hl (t, fl) (by simp)
    obtain ⟨ρ1, g1, g2, g3⟩ := preV_rel (fl := fl) (id := 900000 + t) (by omega) (x := s.e t) hG
    obtain ⟨ρ2, k1, k2, k3, k4⟩ := preL_rel (live := r) (s := ⟨s.e, (preV fl (900000 + t) s.ob (s.e t)).2⟩) (fun p hp => hl p (by simp [hp])) g1
    refine ⟨ρ2, k1, fun y c h => k2 y c (g2 y c h), by simp [preL, k3], fun i t' fl' x c hi hx hr => ?_⟩
    cases i with
    | zero =>
      simp [preL] at hi hx
      obtain ⟨rfl, rfl⟩ := hi
      subst hx
      exact k2 _ c (g3 c hr)
    | succ i =>
      simp [preL] at hi hx
      exact k4 i t' fl' x c hi hx (g2 _ c hr)

theorem keep_at : ∀ {live : List (Nat × Bool)} {vs : List AV} (t : Nat), (∃ (i : Nat) (fl : Bool) (x : AV), live[i]? = some (t, fl) ∧ vs[i]? = some x ∧ keep live vs t = x) ∨ keep live vs t = .undef
  | [], vs, t => .inr (by simp [keep])
  | _ :: _, [], t => .inr (by simp [keep])
  | (l, fl) :: ls, v :: vs, t => by
    by_cases h : t = l
    · subst h
      exact .inl ⟨0, fl, v, rfl, rfl, by simp [keep, put]⟩
    · have hk : keep ((l, fl) :: ls) (v :: vs) t = keep ls vs t := by simp [keep, put, h]
      rw [hk]
      rcases keep_at (live := ls) (vs := vs) t with ⟨i, fl', x, h1, h2, h3⟩ | h0
      · exact .inl ⟨i + 1, fl', x, by simpa using h1, by simpa using h2, h3⟩
      · exact .inr h0

theorem atHead_sound {np : Nat} {live : List (Nat × Bool)} {D : List AV → List Ob → List Ob → Prop} (hl : ∀ p ∈ live, p.1 < 100000) (hnp : np ≤ 1000000) (hpn : ∀ id b, X.pn id = some b → 1000000 ≤ id ∧ id < 1000000 + np) (hG : Gam X s ρ a w) (h : atHead np live s D) :
    ∃ vs pos los ρ', D vs pos los ∧ Gam X (stAt live vs pos los) ρ' a w := by
  obtain ⟨ρ1, g1, g2, g3, g4⟩ := preL_rel hl hG
  unfold atHead at h
  rcases hn : nrm 64 np 2000000 (preL s.e live s.ob).1 (preL s.e live s.ob).2 with _ | ⟨vs, pos, los⟩
  · rw [hn] at h; exact h.elim
  rw [hn] at h
  obtain ⟨ρ2, k1, k2, k3, k4⟩ := g1.toMem.nrm hn (by omega) hpn
  refine ⟨vs, pos, los, ρ2, h, k1, hG.sz, hG.df, fun t => ?_, hG.pnn, hG.small, hG.base⟩
  simp only [stAt]
  rcases keep_at (live := live) (vs := vs) t with ⟨i, fl, x, h1, h2, h3⟩ | h0
  · rw [h3]
    have hlt := (List.getElem?_eq_some_iff.1 h2).1
    have hp : (preL s.e live s.ob).1[i]? = some ((preL s.e live s.ob).1[i]'(by omega)) := by simp [show i < (preL s.e live s.ob).1.length by omega]
    exact k4 i _ x _ hp h2 (g4 i t fl _ _ h1 hp (hG.env t))
  · rw [h0]
    exact .undef _

theorem atHead_mono {np : Nat} {live : List (Nat × Bool)} {D D' : List AV → List Ob → List Ob → Prop} (h : atHead np live s D) (hD : ∀ a b c, D a b c → D' a b c) : atHead np live s D' := by
  unfold atHead at *
  rcases hn : nrm 64 np 2000000 (preL s.e live s.ob).1 (preL s.e live s.ob).2 with _ | ⟨vs, pos, los⟩
  · rw [hn] at h; exact h.elim
  · rw [hn] at h; exact hD _ _ _ h

theorem PostOf.mono {K K' : Ex → St → Prop} (h : ∀ x s, K x s → K' x s) {e : Exit} {a : Act} {w : World} (hp : PostOf X K e a w) : PostOf X K' e a w := by
  cases e <;> first
    | (obtain ⟨s, ρ, h1, h2⟩ := hp; exact ⟨s, ρ, h _ _ h1, h2⟩)
    | exact hp.elim

theorem least {S : Nat → Prop} (h : ∃ k, S k) : ∃ k, S k ∧ ∀ j, S j → k ≤ j := by
  obtain ⟨k, hk⟩ := h
  induction k using Nat.strongRecOn with
  | _ k ih =>
    by_cases hx : ∃ j, j < k ∧ S j
    · obtain ⟨j, h1, h2⟩ := hx
      exact ih j h1 h2
    · refine ⟨k, hk, fun j hj => ?_⟩
      rcases Nat.lt_or_ge j k with h | h
      · exact absurd ⟨j, h, hj⟩ hx
      · exact h
theorem W_sound {np : Nat} (hnp : np ≤ 1000000) (hpn : ∀ id b, X.pn id = some b → 1000000 ≤ id ∧ id < 1000000 + np) : ∀ (pc : PC) (c : Code) (K : Ex → St → Prop) (s : St) (ρ : Pl → Option Nat) (a : Act) (w : World), chkC P X.n c pc = true → W P np pc K s → Gam X s ρ a w → c.wp P (PostOf X K) a w := by
  intro pc
  induction pc with
  | skip =>
    intro c K s ρ a w hc h hG
    cases c <;> simp only [chkC] at hc <;> try (cases hc; done)
    exact wp_skip ⟨s, ρ, h, hG⟩
  | reg rs =>
    intro c K s ρ a w hc h hG
    cases c <;> simp only [chkC] at hc <;> try (cases hc; done)
    rename_i id ops d
    simp only [Bool.and_eq_true, Bool.not_eq_true'] at hc
    obtain ⟨rfl, hc⟩ := hc
    refine wp_region ?_
    rw [List.range_eq_range', ← Array.length_toList]
    exact wpR_sound (k := 0) (l := ops.toList) (fun i hi => by simp) hc hG h fun s' ρ' a' w' hK hG' => ⟨s', ρ', hK, hG'⟩
  | seq p q ihp ihq =>
    intro c K s ρ a w hc h hG
    cases c <;> simp only [chkC] at hc <;> try (cases hc; done)
    rename_i x y
    simp only [Bool.and_eq_true] at hc
    refine wp_seq (wp_mono (ihp x _ s ρ a w hc.1 h hG) fun e a' w' hp => ?_)
    cases e with
    | normal =>
      obtain ⟨s', ρ', h1, h2⟩ := hp
      exact ihq y K s' ρ' a' w' hc.2 h1 h2
    | exit i => exact hp
    | ret => exact hp
    | goto l => exact hp
    | panic ch => exact hp
    | outgrown => exact hp
  | cond x p q ihp ihq =>
    intro c K s ρ a w hc h hG
    cases c <;> simp only [chkC] at hc <;> try (cases hc; done)
    rename_i y c1 c2
    simp only [Bool.and_eq_true] at hc
    obtain ⟨⟨h1, h2⟩, h3⟩ := hc
    have hx := opd_rel hG.env h1
    simp only [W] at h
    generalize x.ev s.e = xv at hx h
    split at h
    · rename_i b
      exact wp_cond_split (inv_v hx) (fun hb => ihp c1 K s ρ a w h2 (h.1 hb) hG) (fun hb => ihq c2 K s ρ a w h3 (h.2 hb) hG)
    · exact h.elim
  | block id p ih =>
    intro c K s ρ a w hc h hG
    cases c <;> simp only [chkC] at hc <;> try (cases hc; done)
    rename_i id' c'
    simp only [Bool.and_eq_true, beq_iff_eq] at hc
    obtain ⟨rfl, hc⟩ := hc
    refine wp_block (wp_mono (ih c' _ s ρ a w hc h hG) fun e a' w' hp => ?_)
    cases e with
    | normal => exact hp
    | exit i =>
      obtain ⟨s', ρ', h1, h2⟩ := hp
      simp only [Exit.inBlock]
      simp only at h1
      split
      · rename_i hi
        rw [if_pos hi] at h1
        exact ⟨s', ρ', h1, h2⟩
      · rename_i hi
        rw [if_neg hi] at h1
        exact ⟨s', ρ', h1, h2⟩
    | ret => exact hp
    | goto l => exact hp
    | panic ch => exact hp
    | outgrown => exact hp
  | loop p ih =>
    intro c K s ρ a w hc h hG
    cases c <;> simp only [chkC] at hc <;> try (cases hc; done)
    rename_i c'
    obtain ⟨live, I, m, hl, h0, hr⟩ := h
    have hl' : ∀ p ∈ live, p.1 < 100000 := fun p hp => by simpa using List.all_eq_true.1 hl p hp
    let S : Nat → Act → World → Prop := fun k a w => ∃ vs pos los ρ, I vs pos los ∧ Gam X (stAt live vs pos los) ρ a w ∧ m vs pos los = k
    refine wp_loop (fun a w => ∃ k, S k a w) (fun a w => open Classical in if hx : ∃ k, S k a w then (least hx).choose else 0) ?_ ?_
    · obtain ⟨vs, pos, los, ρ', h1, h2⟩ := atHead_sound hl' hnp hpn hG h0
      exact ⟨_, vs, pos, los, ρ', h1, h2, rfl⟩
    · intro a w hx
      simp only [dif_pos hx]
      obtain ⟨vs, pos, los, ρ', h1, h2, h3⟩ := (least hx).choose_spec.1
      refine wp_mono (ih c' _ _ ρ' a w hc (hr vs pos los h1) h2) fun e a' w' hp => ?_
      cases e with
      | normal =>
        obtain ⟨s', ρ'', g1, g2⟩ := hp
        obtain ⟨vs', pos', los', ρ3, k1, k2⟩ := atHead_sound hl' hnp hpn g2 g1
        have hex : ∃ k, S k a' w' := ⟨_, vs', pos', los', ρ3, k1.1, k2, rfl⟩
        refine ⟨hex, ?_⟩
        rw [dif_pos hex, ← h3]
        exact Nat.lt_of_le_of_lt ((least hex).choose_spec.2 _ ⟨vs', pos', los', ρ3, k1.1, k2, rfl⟩) k1.2
      | exit i => exact hp
      | ret => exact hp
      | goto l => exact hp
      | panic ch => exact hp
      | outgrown => exact hp
  | exit i =>
    intro c K s ρ a w hc h hG
    cases c <;> simp only [chkC] at hc <;> try (cases hc; done)
    rename_i j
    have : j = i := by simpa using hc
    subst this
    exact wp_exit ⟨s, ρ, h, hG⟩
  | ret =>
    intro c K s ρ a w hc h hG
    cases c <;> simp only [chkC] at hc <;> try (cases hc; done)
    exact wp_ret ⟨s, ρ, h, hG⟩
  | drw rs pre =>
    intro c K s ρ a w hc h hG
    cases c <;> simp only [chkC] at hc <;> try (cases hc; done)
    rename_i id ops d
    simp only [Bool.and_eq_true] at hc
    obtain ⟨⟨⟨rfl, hm⟩, hck⟩, hpre⟩ := hc
    obtain ⟨R, C, log, h0, hll, href, hap, hK⟩ := wpD_ref h
    refine wp_region_any hm ?_
    have hrep : ∀ k, ¬ ((Array.replicate ops.size false).getD k false = true) := fun k => by
      rw [Array.getD_eq_getD_getElem?, Array.getElem?_replicate]
      split <;> simp
    refine drw_sound hck hpre (by simpa using hap) hll href hK (fun s' ρ' a' w' hK' hG' => ⟨s', ρ', hK', hG'⟩) ops.size _ s ρ a _ (by simp) (fun j hj => ?_) ?_ (fun l => ?_) (hG.drew _)
    · exact (hrep j hj).elim
    · exact Nat.le_trans List.countP_le_length (by simp)
    · rw [cont_none hrep, h0]
end
end Go.Ev

import Derived.Test.YtjpejkfhkbaakaaEvFn
namespace Go.Ev
open Go
set_option linter.unnecessarySimpa false
set_option linter.unusedSimpArgs false
set_option linter.unusedVariables false

/-- What a tactic is not to open by itself. -/
structure Shut (p : Prop) : Prop where
  out : p
/-- What is still to do. -/
inductive Item where
  | c (c : PC)
  | blk (id : Nat)
  | lp (live : List (Nat × Bool)) (D : List AV → List Ob → List Ob → Prop)
  | cut (S : Env → Obs → Prop)
section
variable {P : Program}
theorem CallW_mono {f : FuncId} {u : Nat} {ob : Obs} {K K' : AV → Obs → Prop} (hK : ∀ v o, K v o → K' v o) {a : Option (List AV × List Nat)} (h : CallW P f u ob K a) : CallW P f u ob K' a := by
  have hR : ∀ {ob : Obs} {ids : List Nat} {as : List AV} {l : List Nat} {fz : Bool} {o : Option (List Ob)}, CallR P f u ob ids as l fz K o → CallR P f u ob ids as l fz K' o := fun {ob ids as l fz o} h => by
    cases o with
    | none => exact h
    | some po => obtain ⟨r, o, h1, h2, h3, h4, h5⟩ := h; exact ⟨r, o, h1, h2, h3, h4, hK _ _ h5⟩
  rcases a with _ | ⟨as, _ | ⟨i, l⟩⟩
  · exact h
  · exact hR h
  · exact h.imp hR hR
theorem wpR_mono : ∀ {rs : List PR} {K K' : St → Prop} {s : St}, (∀ s, K s → K' s) → wpR P rs K s → wpR P rs K' s
  | [], K, K', s, hK, h => hK s h
  | r :: rs, K, K', s, hK, h => by
    have ih : ∀ s, wpR P rs K s → wpR P rs K' s := fun s => wpR_mono hK
    simp only [wpR] at h ⊢
    generalize yes s.e r.g = y at h ⊢
    cases y with
    | none => exact h
    | some b =>
      simp only [PR.wp] at h ⊢
      rcases r with ⟨d, g, u, x⟩
      cases x with
      | see o => exact ⟨h.1, ih _ h.2⟩
      | act o => exact ⟨fun hb => ⟨(h.1 hb).1, ih _ (h.1 hb).2⟩, fun hb => ih _ (h.2 hb)⟩
      | call f xs => exact ⟨fun hb => ⟨(h.1 hb).1, CallW_mono (fun v o => ih _) (h.1 hb).2⟩, fun hb => ih _ (h.2 hb)⟩
      | callv x xs =>
        refine ⟨fun hb => ⟨(h.1 hb).1, (h.1 hb).2.1, ?_⟩, fun hb => ih _ (h.2 hb)⟩
        have h3 := (h.1 hb).2.2
        simp only at h3 ⊢
        generalize (x.ev s.e).bare = y at h3 ⊢
        cases y with
        | fn f cap => cases f with
          | func f => exact ⟨h3.1, CallW_mono (fun v o => ih _) h3.2⟩
          | _ => exact h3
        | _ => exact h3
theorem wpD_mono : ∀ {rs : List PR} {log : List Lg} {K K' : List Lg → St → Prop} {s : St}, (∀ l s, K l s → K' l s) → wpD P rs log s K → wpD P rs log s K'
  | [], log, K, K', s, hK, h => hK log s h
  | r :: rs, log, K, K', s, hK, h => by
    obtain ⟨c, h1, h2⟩ := h
    exact ⟨c, h1, wpD_mono hK h2⟩
theorem W_mono {np : Nat} : ∀ {pc : PC} {K K' : Ex → St → Prop} {s : St}, (∀ x s, K x s → K' x s) → W P np pc K s → W P np pc K' s := by
  intro pc
  induction pc with
  | skip => intro K K' s hK h; exact hK _ _ h
  | reg rs => intro K K' s hK h; exact wpR_mono (hK .nor) h
  | seq a b iha ihb =>
    intro K K' s hK h
    refine iha (fun x s h => ?_) h
    cases x with
    | nor => exact ihb hK h
    | _ => exact hK _ _ h
  | cond x a b iha ihb =>
    intro K K' s hK h
    unfold W at h ⊢
    split at h
    · exact ⟨fun q => iha hK (h.1 q), fun q => ihb hK (h.2 q)⟩
    · exact h.elim
  | block id c ih =>
    intro K K' s hK h
    refine ih (fun x s h => ?_) h
    cases x with
    | ex i =>
      simp only at h ⊢
      split
      · rename_i hi; rw [if_pos hi] at h; exact hK _ _ h
      · rename_i hi; rw [if_neg hi] at h; exact hK _ _ h
    | _ => exact hK _ _ h
  | loop c ih =>
    intro K K' s hK h
    obtain ⟨live, I, m, h1, h2, h3⟩ := h
    refine ⟨live, I, m, h1, h2, fun vs pos los hv => ih (fun x s h => ?_) (h3 vs pos los hv)⟩
    cases x with
    | nor => exact h
    | _ => exact hK _ _ h
  | exit i => intro K K' s hK h; exact hK _ _ h
  | ret => intro K K' s hK h; exact hK _ _ h
  | drw rs pre => intro K K' s hK h; exact wpD_mono (fun l s h => ⟨h.1, hK _ _ h.2⟩) h
end
mutual
def run (P : Program) (np : Nat) (Q : Ex → St → Prop) : List Item → St → Prop
  | [], s => Q .nor s
  | .c c :: is, s => W P np c (fun x s => match x with | .nor => run P np Q is s | x => unw P np Q is x s) s
  | .blk _ :: is, s => run P np Q is s
  | .lp live D :: _, s => atHead np live s D
  | .cut S :: _, s => S s.e s.ob
def unw (P : Program) (np : Nat) (Q : Ex → St → Prop) : List Item → Ex → St → Prop
  | [], x, s => Q x s
  | .blk id :: is, .ex i, s => if i = id then run P np Q is s else unw P np Q is (.ex i) s
  | _ :: is, x, s => unw P np Q is x s
end
/-- A region's operations, and what is to do behind them. -/
def runR (P : Program) (np : Nat) (Q : Ex → St → Prop) (rs : List PR) (is : List Item) (e : Env) (ob : Obs) : Prop := wpR P rs (run P np Q is) ⟨e, ob⟩
def stp (P : Program) (np : Nat) (Q : Ex → St → Prop) (d : Option Nat) (g : Option (Nat × Bool)) (u : Nat) (x : PX) (rs : List PR) (is : List Item) (e : Env) (ob : Obs) : Option Bool → Prop
  | some b => x.wp P ⟨d, g, u, x⟩ ⟨e, ob⟩ (wpR P rs (run P np Q is)) b
  | none => False
def sfin (P : Program) (np : Nat) (Q : Ex → St → Prop) (d : Option Nat) (g : Option (Nat × Bool)) (b : Bool) (rs : List PR) (is : List Item) (e : Env) (R : Rs) (ob : Obs) : Prop :=
  R.ok ∧ runR P np Q rs is (putO d (gdv g b R.v) e) ob
def afin (P : Program) (np : Nat) (Q : Ex → St → Prop) (d : Option Nat) (rs : List PR) (is : List Item) (e : Env) (R : Rs) : Prop :=
  R.ok ∧ runR P np Q rs is (putO d R.v e) R.ob
/-- An act under a guard. -/
def actB (P : Program) (np : Nat) (Q : Ex → St → Prop) (d : Option Nat) (g : Option (Nat × Bool)) (u : Nat) (x : PX) (rs : List PR) (is : List Item) (e : Env) (ob : Obs) (b : Bool) : Prop :=
  Shut ((b = true → stp P np Q d g u x rs is e ob (some true)) ∧ (b = false → runR P np Q rs is (putO d .undef e) ob))
def cnd (P : Program) (np : Nat) (Q : Ex → St → Prop) (x : AV) (a b : PC) (is : List Item) (s : St) : Prop := match x with
    | .r (.v (.bool c)) => Shut ((c = true → run P np Q (.c a :: is) s) ∧ (c = false → run P np Q (.c b :: is) s))
    | _ => False
/-- A call, with its arguments. -/
def callA (P : Program) (np : Nat) (Q : Ex → St → Prop) (f : FuncId) (u : Nat) (d : Option Nat) (rs : List PR) (is : List Item) (e : Env) (ob : Obs) : Option (List AV × List Nat) → Prop :=
  CallW P f u ob (fun v ob => runR P np Q rs is (putO d v e) ob)
/-- A call, with the objects that it reaches. -/
def callB (P : Program) (np : Nat) (Q : Ex → St → Prop) (f : FuncId) (u : Nat) (d : Option Nat) (rs : List PR) (is : List Item) (e : Env) (ob : Obs) (as : List AV) (l : List Nat) (fz : Bool) (ids : List Nat) : Prop :=
  CallR P f u ob ids (imL (fwd ob ids) as) l fz (fun v ob => runR P np Q rs is (putO d v e) ob) (takeL (fwd ob ids) ob ids)
/-- A call, with its objects. -/
def callC (P : Program) (np : Nat) (Q : Ex → St → Prop) (f : FuncId) (u : Nat) (d : Option Nat) (rs : List PR) (is : List Item) (e : Env) (ob : Obs) (as : List AV) (l : List Nat) (fz : Bool) (ids : List Nat) : Option (List Ob) → Prop :=
  CallR P f u ob ids as l fz (fun v ob => runR P np Q rs is (putO d v e) ob)
def callP (P : Program) (np : Nat) (Q : Ex → St → Prop) (f : FuncId) (u : Nat) (d : Option Nat) (rs : List PR) (is : List Item) (e : Env) (ob : Obs) (as : List AV) (l : List Nat) (fz : Bool) (ids : List Nat) (po : List Ob) : Prop :=
  callC P np Q f u d rs is e ob as l fz ids (some po)
/-- Behind a call. -/
def aft (P : Program) (np : Nat) (Q : Ex → St → Prop) (u : Nat) (d : Option Nat) (rs : List PR) (is : List Item) (e : Env) (ob : Obs) (ids : List Nat) (res : AV) (ro : List Ob) : Prop :=
  runR P np Q rs is (putO d (imV (back ob u ids ro.length) res) e) (putL ob u ids (back ob u ids ro.length) 0 ro)

/-- A call of a function value. -/
def callX (P : Program) (np : Nat) (Q : Ex → St → Prop) (u : Nat) (d : Option Nat) (rs : List PR) (is : List Item) (e : Env) (ob : Obs) (vs : List AV) (x : AV) : Prop :=
  CallV P u ob vs (fun v ob => runR P np Q rs is (putO d v e) ob) x
section
variable (P : Program) (np : Nat) (Q : Ex → St → Prop) (is : List Item) (s : St) (e : Env) (ob : Obs)
theorem stp_callv (d : Option Nat) (g : Option (Nat × Bool)) (u : Nat) (x : Opd) (xs : List Opd) (rs : List PR) : stp P np Q d g u (.callv x xs) rs is e ob (some true) = ((x.ev e).may true ∧ mayl true e xs ∧ callX P np Q u d rs is e ob (barel e xs) (x.ev e).bare) := by
  simp [stp, PX.wp, callX, runR]
theorem callX_fn (u : Nat) (d : Option Nat) (rs : List PR) (vs : List AV) (f : FuncId) (cap : List AV) (k : Nat) : callX P np Q u d rs is e ob vs (.fn (.func f) cap k) = (isFn P f = true ∧ callA P np Q f u d rs is e ob (argL ob (cap.take k ++ (vs ++ cap.drop k)))) := (rfl)
theorem stp_callv_no (d : Option Nat) (g : Option (Nat × Bool)) (u : Nat) (x : Opd) (xs : List Opd) (rs : List PR) : stp P np Q d g u (.callv x xs) rs is e ob (some false) = runR P np Q rs is (putO d .undef e) ob := by
  simp [stp, PX.wp, runR]
theorem run_nil : run P np Q [] s = Q .nor s := by unfold run; rfl
theorem run_skip : run P np Q (.c .skip :: is) s = run P np Q is s := by rw [run]; rfl
theorem run_seq (a b : PC) : run P np Q (.c (.seq a b) :: is) s = run P np Q (.c a :: .c b :: is) s := by
  rw [run, W, run]
  congr 1
  funext x s
  cases x <;> simp only [run, unw]
theorem run_reg (ops : List PR) : run P np Q (.c (.reg ops) :: is) ⟨e, ob⟩ = runR P np Q ops is e ob := by rw [run]; rfl
theorem runR_nil : runR P np Q [] is e ob = run P np Q is ⟨e, ob⟩ := (rfl)
theorem runR_cons (d : Option Nat) (g : Option (Nat × Bool)) (u : Nat) (x : PX) (rs : List PR) : runR P np Q (⟨d, g, u, x⟩ :: rs) is e ob = stp P np Q d g u x rs is e ob (yes e g) := by
  show PR.wp P ⟨d, g, u, x⟩ ⟨e, ob⟩ (wpR P rs (run P np Q is)) (yes e g) = _
  generalize yes e g = y
  cases y <;> rfl
theorem stp_see (d : Option Nat) (g : Option (Nat × Bool)) (u : Nat) (o : PO) (rs : List PR) (b : Bool) : stp P np Q d g u (.see o) rs is e ob (some b) = sfin P np Q d g b rs is e (o.see b e ob) ob := (rfl)
theorem sfin_mk (d : Option Nat) (g : Option (Nat × Bool)) (b : Bool) (rs : List PR) (p : Prop) (v : AV) (ob' : Obs) (rd wr : List Nat) : sfin P np Q d g b rs is e ⟨p, v, ob', rd, wr⟩ ob = (p ∧ runR P np Q rs is (putO d (gdv g b v) e) ob) := (rfl)
theorem stp_act (d : Option Nat) (g : Option (Nat × Bool)) (u : Nat) (o : PO) (rs : List PR) : stp P np Q d g u (.act o) rs is e ob (some true) = afin P np Q d rs is e (o.act (d.getD 0) e ob) := by
  simp [stp, PX.wp, afin, runR]
theorem stp_act_no (d : Option Nat) (g : Option (Nat × Bool)) (u : Nat) (o : PO) (rs : List PR) : stp P np Q d g u (.act o) rs is e ob (some false) = runR P np Q rs is (putO d .undef e) ob := by
  simp [stp, PX.wp, afin, runR]
theorem stp_call_no (d : Option Nat) (g : Option (Nat × Bool)) (u : Nat) (f : FuncId) (xs : List Opd) (rs : List PR) : stp P np Q d g u (.call f xs) rs is e ob (some false) = runR P np Q rs is (putO d .undef e) ob := by
  simp [stp, PX.wp, afin, runR]
theorem stp_act_b (d : Option Nat) (g : Option (Nat × Bool)) (u : Nat) (o : PO) (rs : List PR) (b : Bool) (h : actB P np Q d g u (.act o) rs is e ob b) : stp P np Q d g u (.act o) rs is e ob (some b) := by
  cases b
  · rw [stp_act_no]; exact h.out.2 rfl
  · exact h.out.1 rfl
theorem stp_call_b (d : Option Nat) (g : Option (Nat × Bool)) (u : Nat) (f : FuncId) (xs : List Opd) (rs : List PR) (b : Bool) (h : actB P np Q d g u (.call f xs) rs is e ob b) : stp P np Q d g u (.call f xs) rs is e ob (some b) := by
  cases b
  · rw [stp_call_no]; exact h.out.2 rfl
  · exact h.out.1 rfl
theorem afin_mk (d : Option Nat) (rs : List PR) (p : Prop) (v : AV) (ob' : Obs) (rd wr : List Nat) : afin P np Q d rs is e ⟨p, v, ob', rd, wr⟩ = (p ∧ runR P np Q rs is (putO d v e) ob') := (rfl)
theorem stp_call (d : Option Nat) (g : Option (Nat × Bool)) (u : Nat) (f : FuncId) (xs : List Opd) (rs : List PR) : stp P np Q d g u (.call f xs) rs is e ob (some true) = (mayl true e xs ∧ callA P np Q f u d rs is e ob (argL ob (barel e xs))) := by
  simp [stp, PX.wp, callA, runR]
theorem callA_none (f : FuncId) (u : Nat) (d : Option Nat) (rs : List PR) (as : List AV) : callA P np Q f u d rs is e ob (some (as, [])) = callB P np Q f u d rs is e ob as [] true (reach ob 64 (hidL as) []) := (rfl)
/-- What is lent comes back: no answer may hold what it was lent. -/
theorem callA_lend {P : Program} {np : Nat} {Q : Ex → St → Prop} {is : List Item} {e : Env} {ob : Obs} {f : FuncId} {u : Nat} {d : Option Nat} {rs : List PR} {as : List AV} {i : Nat} {l : List Nat} (h : callB P np Q f u d rs is e ob as (i :: l) false (reach ob 64 (hidL as) [])) : callA P np Q f u d rs is e ob (some (as, i :: l)) := Or.inr h
/-- What is lent is given away. -/
theorem callA_give {P : Program} {np : Nat} {Q : Ex → St → Prop} {is : List Item} {e : Env} {ob : Obs} {f : FuncId} {u : Nat} {d : Option Nat} {rs : List PR} {as : List AV} {i : Nat} {l : List Nat} (h : callB P np Q f u d rs is e (freeze ob (i :: l)) as (i :: l) true (reach (freeze ob (i :: l)) 64 (hidL as) [])) : callA P np Q f u d rs is e ob (some (as, i :: l)) := Or.inl h
theorem callB_eq (f : FuncId) (u : Nat) (d : Option Nat) (rs : List PR) (as : List AV) (l : List Nat) (fz : Bool) (ids : List Nat) : callB P np Q f u d rs is e ob as l fz ids = callC P np Q f u d rs is e ob (imL (fwd ob ids) as) l fz ids (takeL (fwd ob ids) ob ids) := (rfl)
theorem callC_some (f : FuncId) (u : Nat) (d : Option Nat) (rs : List PR) (as : List AV) (l : List Nat) (fz : Bool) (ids : List Nat) (po : List Ob) : callC P np Q f u d rs is e ob as l fz ids (some po) = callP P np Q f u d rs is e ob as l fz ids po := (rfl)
theorem call_mk {P : Program} {np : Nat} {Q : Ex → St → Prop} {is : List Item} {e : Env} {ob : Obs} {f : FuncId} {u : Nat} {d : Option Nat} {rs : List PR} {as : List AV} {l : List Nat} {ids : List Nat} {po : List Ob} {res : AV} {ro : List Ob}
    (h : Triple P f as po res ro) (h1 : okC u ids ro.length l true = true) (h2 : sameLen po ro) (h3 : aft P np Q u d rs is e ob ids res ro) : callP P np Q f u d rs is e ob as l true ids po :=
  ⟨res, ro, h, h1, h2, (fun h => by cases h), h3⟩
theorem call_as {P : Program} {np : Nat} {Q : Ex → St → Prop} {is : List Item} {e : Env} {ob : Obs} {f : FuncId} {u : Nat} {d : Option Nat} {rs : List PR} {as as' : List AV} {l : List Nat} {fz : Bool} {ids : List Nat} {po : List Ob} (has : as = as') (h : callP P np Q f u d rs is e ob as' l fz ids po) : callP P np Q f u d rs is e ob as l fz ids po := has ▸ h
theorem call_lend {P : Program} {np : Nat} {Q : Ex → St → Prop} {is : List Item} {e : Env} {ob : Obs} {f : FuncId} {u : Nat} {d : Option Nat} {rs : List PR} {as : List AV} {l : List Nat} {ids : List Nat} {po : List Ob} {res : AV} {ro : List Ob}
    (h : Triple P f as po res ro) (h1 : okC u ids ro.length l false = true) (h2 : sameLen po ro) (h4 : Flat res) (h5 : ∀ o ∈ ro, FlatO o) (h3 : aft P np Q u d rs is e ob ids res ro) : callP P np Q f u d rs is e ob as l false ids po :=
  ⟨res, ro, h, h1, h2, fun _ => ⟨h4, h5⟩, h3⟩
theorem aft_eq (u : Nat) (d : Option Nat) (rs : List PR) (ids : List Nat) (res : AV) (ro : List Ob) : aft P np Q u d rs is e ob ids res ro = runR P np Q rs is (putO d (imV (back ob u ids ro.length) res) e) (putL ob u ids (back ob u ids ro.length) 0 ro) := (rfl)
theorem run_cond (x : Opd) (a b : PC) : run P np Q (.c (.cond x a b) :: is) ⟨e, ob⟩ = cnd P np Q (x.ev e) a b is ⟨e, ob⟩ := by
  rw [run, W]; unfold cnd; split
  · simp only [*, run]; exact propext ⟨fun h => ⟨h⟩, fun h => h.out⟩
  · simp [*]
theorem cnd_true (a b : PC) : cnd P np Q (.r (.v (.bool true))) a b is s = run P np Q (.c a :: is) s := propext ⟨fun h => h.out.1 rfl, fun h => ⟨fun _ => h, fun h => by cases h⟩⟩
theorem cnd_false (a b : PC) : cnd P np Q (.r (.v (.bool false))) a b is s = run P np Q (.c b :: is) s := propext ⟨fun h => h.out.2 rfl, fun h => ⟨(fun h => by cases h), fun _ => h⟩⟩
theorem cnd_mk {P : Program} {np : Nat} {Q : Ex → St → Prop} {is : List Item} {s : St} {c : Bool} {a b : PC} (h1 : c = true → run P np Q (.c a :: is) s) (h2 : c = false → run P np Q (.c b :: is) s) : cnd P np Q (.r (.v (.bool c))) a b is s := ⟨⟨h1, h2⟩⟩
theorem run_block (id : Nat) (c : PC) : run P np Q (.c (.block id c) :: is) s = run P np Q (.c c :: .blk id :: is) s := by
  rw [run, W, run]
  congr 1
  funext x s
  cases x with
  | nor => simp only [run]
  | ex i => simp only [unw]
  | rt => simp [unw]
theorem run_exit (i : Nat) : run P np Q (.c (.exit i) :: is) s = unw P np Q is (.ex i) s := by rw [run]; rfl
theorem run_ret : run P np Q (.c .ret :: is) s = unw P np Q is .rt s := by rw [run]; rfl
theorem run_blk (i : Nat) : run P np Q (.blk i :: is) s = run P np Q is s := by rw [run]
theorem run_lp (l : List (Nat × Bool)) (D : List AV → List Ob → List Ob → Prop) : run P np Q (.lp l D :: is) s = atHead np l s D := by rw [run]
theorem unw_nil (x : Ex) : unw P np Q [] x s = Q x s := by unfold unw; rfl
theorem unw_blk (i j : Nat) : unw P np Q (.blk j :: is) (.ex i) s = if i = j then run P np Q is s else unw P np Q is (.ex i) s := by rw [unw]
theorem unw_blk_rt (j : Nat) : unw P np Q (.blk j :: is) .rt s = unw P np Q is .rt s := by simp [unw]
theorem unw_c (c : PC) (x : Ex) : unw P np Q (.c c :: is) x s = unw P np Q is x s := by cases x <;> simp [unw]
theorem unw_lp (l : List (Nat × Bool)) (D : List AV → List Ob → List Ob → Prop) (x : Ex) : unw P np Q (.lp l D :: is) x s = unw P np Q is x s := by cases x <;> simp [unw]
theorem run_cut (S : Env → Obs → Prop) : run P np Q (.cut S :: is) ⟨e, ob⟩ = S e ob := by rw [run]
theorem unw_cut (S : Env → Obs → Prop) (x : Ex) : unw P np Q (.cut S :: is) x s = unw P np Q is x s := by cases x <;> simp [unw]
/-- Both arms come to one state. -/
theorem cnd_join {P : Program} {np : Nat} {Q : Ex → St → Prop} {is : List Item} {s : St} {c : Bool} {a b : PC} (S : Env → Obs → Prop) (hS : ∀ e ob, S e ob → run P np Q is ⟨e, ob⟩)
    (h1 : c = true → run P np Q (.c a :: .cut S :: is) s) (h2 : c = false → run P np Q (.c b :: .cut S :: is) s) : cnd P np Q (.r (.v (.bool c))) a b is s := by
  have key : ∀ a, run P np Q (.c a :: .cut S :: is) s → run P np Q (.c a :: is) s := fun a h => by
    rw [run] at h ⊢
    refine W_mono (fun x s h => ?_) h
    cases x with
    | nor => simp only [run] at h; exact hS _ _ h
    | ex i => simp only [unw] at h; exact h
    | rt => simp only [unw] at h; exact h
  exact ⟨⟨fun h => key a (h1 h), fun h => key b (h2 h)⟩⟩
theorem run_loop {P : Program} {np : Nat} {Q : Ex → St → Prop} {is : List Item} {s : St} {c : PC} (live : List (Nat × Bool)) (I : List AV → List Ob → List Ob → Prop) (m : List AV → List Ob → List Ob → Nat) (hl : (live.all fun p => decide (p.1 < 100000)) = true) (h0 : atHead np live s I)
    (h : ∀ vs pos los, I vs pos los → run P np Q (.c c :: .lp live (fun vs' pos' los' => I vs' pos' los' ∧ m vs' pos' los' < m vs pos los) :: is) (stAt live vs pos los)) : run P np Q (.c (.loop c) :: is) s := by
  rw [run, W]
  refine ⟨live, I, m, hl, h0, fun vs pos los hv => ?_⟩
  have := h vs pos los hv
  rw [run] at this
  refine cast (congrArg (fun K => W P np c K (stAt live vs pos los)) ?_) this
  funext x e
  cases x <;> simp only [run, unw]
theorem W_of_run {P : Program} {np : Nat} {Q : Ex → St → Prop} {s : St} {c : PC} (h : run P np Q [.c c] s) : W P np c Q s := by
  rw [run] at h
  refine cast (congrArg (fun K => W P np c K s) ?_) h
  funext x e
  cases x <;> simp only [run, unw]
theorem RetP_rt (rs : List RSl) (D : AV → List Ob → Prop) (e : Env) (ob : Obs) : RetP np rs D .rt ⟨e, ob⟩ = opn np (rs.map fun p => (p.1, p.2.1)) D rs e ob := (rfl)
theorem RetP_nor (rs : List RSl) (D : AV → List Ob → Prop) (e : Env) (ob : Obs) : RetP np rs D .nor ⟨e, ob⟩ = opn np (rs.map fun p => (p.1, p.2.1)) D rs e ob := (rfl)
theorem opn_nil (all : List (Nat × Bool)) (D : AV → List Ob → Prop) (e : Env) (ob : Obs) : opn np all D [] e ob = expo np all ⟨e, ob⟩ D := (rfl)
theorem opn_tmp (all : List (Nat × Bool)) (D : AV → List Ob → Prop) (a : Nat) (b : Bool) (r : List RSl) (e : Env) (ob : Obs) : opn np all D ((a, b, none) :: r) e ob = opn np all D r e ob := (rfl)
def opf (np : Nat) (all : List (Nat × Bool)) (D : AV → List Ob → Prop) (a : Nat) (r : List RSl) (e : Env) (ob : Obs) (R : Rs) : Prop := R.ok ∧ opn np all D r (put a R.v e) ob
theorem opn_cell (all : List (Nat × Bool)) (D : AV → List Ob → Prop) (a : Nat) (b : Bool) (t : TypeId) (n : Option Nat) (r : List RSl) (e : Env) (ob : Obs) : opn np all D ((a, b, some (t, n)) :: r) e ob = opf np all D a r e ob (ld1 true n (e a) ob) := (rfl)
theorem opf_mk (all : List (Nat × Bool)) (D : AV → List Ob → Prop) (a : Nat) (r : List RSl) (e : Env) (ob : Obs) (p : Prop) (v : AV) (ob' : Obs) (rd wr : List Nat) : opf np all D a r e ob ⟨p, v, ob', rd, wr⟩ = (p ∧ opn np all D r (put a v e) ob) := (rfl)
end

/-! Regions whose order is drawn. -/
def runD (P : Program) (np : Nat) (Q : Ex → St → Prop) (pre : List (List Nat)) (rs : List PR) (log : List Lg) (is : List Item) (e : Env) (ob : Obs) : Prop := wpD P rs log ⟨e, ob⟩ fun log s => apartB pre log = true ∧ run P np Q is s
def dstp (P : Program) (np : Nat) (Q : Ex → St → Prop) (pre : List (List Nat)) (d : Option Nat) (g : Option (Nat × Bool)) (u : Nat) (x : PX) (rs : List PR) (log : List Lg) (is : List Item) (e : Env) (ob : Obs) (y : Option Bool) : Prop :=
  ∃ c : Ans, (x.out P ⟨d, g, u, x⟩ ⟨e, ob⟩ c y).ok ∧ wpD P rs (log ++ [(x.out P ⟨d, g, u, x⟩ ⟨e, ob⟩ c y).lg]) (x.out P ⟨d, g, u, x⟩ ⟨e, ob⟩ c y).st fun log s => apartB pre log = true ∧ run P np Q is s
def dfin (P : Program) (np : Nat) (Q : Ex → St → Prop) (pre : List (List Nat)) (r : PR) (b : Bool) (rs : List PR) (log : List Lg) (is : List Item) (e : Env) (ob : Obs) (R : Rs) : Prop :=
  R.ok ∧ runD P np Q pre rs (log ++ [r.lg R.rd []]) is (putO r.d (gdv r.g b R.v) e) ob
def dafin (P : Program) (np : Nat) (Q : Ex → St → Prop) (pre : List (List Nat)) (r : PR) (rs : List PR) (log : List Lg) (is : List Item) (e : Env) (R : Rs) : Prop :=
  R.ok ∧ runD P np Q pre rs (log ++ [r.lg R.rd R.wr]) is (putO r.d R.v e) R.ob
/-- An act or a call under a guard. -/
def dactB (P : Program) (np : Nat) (Q : Ex → St → Prop) (pre : List (List Nat)) (d : Option Nat) (g : Option (Nat × Bool)) (u : Nat) (x : PX) (rs : List PR) (log : List Lg) (is : List Item) (e : Env) (ob : Obs) (b : Bool) : Prop :=
  Shut ((b = true → dstp P np Q pre d g u x rs log is e ob (some true)) ∧ (b = false → dstp P np Q pre d g u x rs log is e ob (some false)))
def dcA (P : Program) (np : Nat) (Q : Ex → St → Prop) (pre : List (List Nat)) (r : PR) (f : FuncId) (p : Prop) (rs : List PR) (log : List Lg) (is : List Item) (e : Env) (ob : Obs) (a : Option (List AV × List Nat)) : Prop :=
  ∃ c : Ans, (callO P r ⟨e, ob⟩ f p c a).ok ∧ wpD P rs (log ++ [(callO P r ⟨e, ob⟩ f p c a).lg]) (callO P r ⟨e, ob⟩ f p c a).st fun log s => apartB pre log = true ∧ run P np Q is s
/-- A call of a function value. -/
def dcX (P : Program) (np : Nat) (Q : Ex → St → Prop) (pre : List (List Nat)) (r : PR) (p : Prop) (rs : List PR) (log : List Lg) (is : List Item) (e : Env) (ob : Obs) (vs : List AV) (y : AV) : Prop :=
  ∃ c : Ans, (callV P r ⟨e, ob⟩ p c vs y).ok ∧ wpD P rs (log ++ [(callV P r ⟨e, ob⟩ p c vs y).lg]) (callV P r ⟨e, ob⟩ p c vs y).st fun log s => apartB pre log = true ∧ run P np Q is s
def dcB (P : Program) (np : Nat) (Q : Ex → St → Prop) (pre : List (List Nat)) (r : PR) (f : FuncId) (p : Prop) (rs : List PR) (log : List Lg) (is : List Item) (e : Env) (ob : Obs) (as : List AV) (l : List Nat) (ids : List Nat) : Prop :=
  ∃ c : Ans, (callO3 P r ⟨e, ob⟩ f p c as l l.isEmpty ids (takeL (fwd ob ids) ob ids)).ok ∧ wpD P rs (log ++ [(callO3 P r ⟨e, ob⟩ f p c as l l.isEmpty ids (takeL (fwd ob ids) ob ids)).lg]) (callO3 P r ⟨e, ob⟩ f p c as l l.isEmpty ids (takeL (fwd ob ids) ob ids)).st fun log s => apartB pre log = true ∧ run P np Q is s
def aftD (P : Program) (np : Nat) (Q : Ex → St → Prop) (pre : List (List Nat)) (r : PR) (rs : List PR) (log : List Lg) (is : List Item) (e : Env) (ob : Obs) (l : List Nat) (ids : List Nat) (res : AV) (ro : List Ob) : Prop :=
  runD P np Q pre rs (log ++ [r.lg (l ++ (ids ++ names r.u ids ro.length)) (names r.u ids ro.length)]) is (putO r.d (imV (back ob r.u ids ro.length) res) e) (putL ob r.u ids (back ob r.u ids ro.length) 0 ro)
def dcP (P : Program) (np : Nat) (Q : Ex → St → Prop) (pre : List (List Nat)) (r : PR) (f : FuncId) (rs : List PR) (log : List Lg) (is : List Item) (e : Env) (ob : Obs) (as : List AV) (l : List Nat) (ids : List Nat) (po : List Ob) : Prop :=
  ∃ (res : AV) (ro : List Ob), Triple P f as po res ro ∧ okC r.u ids ro.length l l.isEmpty = true ∧ sameLen po ro ∧ (l.isEmpty = false → Flat res ∧ ∀ o ∈ ro, FlatO o) ∧ aftD P np Q pre r rs log is e ob l ids res ro
def dcC (P : Program) (np : Nat) (Q : Ex → St → Prop) (pre : List (List Nat)) (r : PR) (f : FuncId) (p : Prop) (rs : List PR) (log : List Lg) (is : List Item) (e : Env) (ob : Obs) (as : List AV) (l : List Nat) (ids : List Nat) : Option (List Ob) → Prop
  | some po => p ∧ dcP P np Q pre r f rs log is e ob as l ids po
  | none => False
section
variable (P : Program) (np : Nat) (Q : Ex → St → Prop) (pre : List (List Nat)) (log : List Lg) (is : List Item) (e : Env) (ob : Obs) (rs : List PR)
theorem run_drw (ops : List PR) : run P np Q (.c (.drw ops pre) :: is) ⟨e, ob⟩ = runD P np Q pre ops [] is e ob := by rw [run]; rfl
theorem runD_nil : runD P np Q pre [] log is e ob = (apartB pre log = true ∧ run P np Q is ⟨e, ob⟩) := (rfl)
theorem runD_cons (d : Option Nat) (g : Option (Nat × Bool)) (u : Nat) (x : PX) : runD P np Q pre (⟨d, g, u, x⟩ :: rs) log is e ob = dstp P np Q pre d g u x rs log is e ob (yes e g) := (rfl)
theorem dstp_see (d : Option Nat) (g : Option (Nat × Bool)) (u : Nat) (o : PO) (b : Bool) : dstp P np Q pre d g u (.see o) rs log is e ob (some b) = dfin P np Q pre ⟨d, g, u, .see o⟩ b rs log is e ob (o.see b e ob) := propext ⟨fun ⟨_, h⟩ => h, fun h => ⟨(.undef, []), h⟩⟩
theorem dfin_mk (r : PR) (b : Bool) (p : Prop) (v : AV) (ob' : Obs) (rd wr : List Nat) : dfin P np Q pre r b rs log is e ob ⟨p, v, ob', rd, wr⟩ = (p ∧ runD P np Q pre rs (log ++ [r.lg rd []]) is (putO r.d (gdv r.g b v) e) ob) := (rfl)
theorem dstp_act (d : Option Nat) (g : Option (Nat × Bool)) (u : Nat) (o : PO) : dstp P np Q pre d g u (.act o) rs log is e ob (some true) = dafin P np Q pre ⟨d, g, u, .act o⟩ rs log is e (o.act (d.getD 0) e ob) := propext ⟨fun ⟨_, h⟩ => h, fun h => ⟨(.undef, []), h⟩⟩
theorem dafin_mk (r : PR) (p : Prop) (v : AV) (ob' : Obs) (rd wr : List Nat) : dafin P np Q pre r rs log is e ⟨p, v, ob', rd, wr⟩ = (p ∧ runD P np Q pre rs (log ++ [r.lg rd wr]) is (putO r.d v e) ob') := (rfl)
theorem dstp_act_no (d : Option Nat) (g : Option (Nat × Bool)) (u : Nat) (o : PO) : dstp P np Q pre d g u (.act o) rs log is e ob (some false) = runD P np Q pre rs (log ++ [PR.lg ⟨d, g, u, .act o⟩ [] []]) is (putO d .undef e) ob := propext ⟨fun ⟨_, _, h⟩ => h, fun h => ⟨(.undef, []), trivial, h⟩⟩
theorem dstp_call_no (d : Option Nat) (g : Option (Nat × Bool)) (u : Nat) (f : FuncId) (xs : List Opd) : dstp P np Q pre d g u (.call f xs) rs log is e ob (some false) = runD P np Q pre rs (log ++ [PR.lg ⟨d, g, u, .call f xs⟩ [] []]) is (putO d .undef e) ob := propext ⟨fun ⟨_, _, h⟩ => h, fun h => ⟨(.undef, []), trivial, h⟩⟩
theorem dstp_call (d : Option Nat) (g : Option (Nat × Bool)) (u : Nat) (f : FuncId) (xs : List Opd) : dstp P np Q pre d g u (.call f xs) rs log is e ob (some true) = dcA P np Q pre ⟨d, g, u, .call f xs⟩ f (mayl true e xs) rs log is e ob (argL ob (barel e xs)) := (rfl)
theorem dstp_callv (d : Option Nat) (g : Option (Nat × Bool)) (u : Nat) (x : Opd) (xs : List Opd) : dstp P np Q pre d g u (.callv x xs) rs log is e ob (some true) = dcX P np Q pre ⟨d, g, u, .callv x xs⟩ ((x.ev e).may true ∧ mayl true e xs) rs log is e ob (barel e xs) (x.ev e).bare := (rfl)
theorem dcX_fn (r : PR) (p : Prop) (vs : List AV) (f : FuncId) (cap : List AV) (k : Nat) : dcX P np Q pre r p rs log is e ob vs (.fn (.func f) cap k) = dcA P np Q pre r f (p ∧ isFn P f = true) rs log is e ob (argL ob (cap.take k ++ (vs ++ cap.drop k))) := (rfl)
theorem dstp_callv_no (d : Option Nat) (g : Option (Nat × Bool)) (u : Nat) (x : Opd) (xs : List Opd) : dstp P np Q pre d g u (.callv x xs) rs log is e ob (some false) = runD P np Q pre rs (log ++ [PR.lg ⟨d, g, u, .callv x xs⟩ [] []]) is (putO d .undef e) ob := propext ⟨fun ⟨_, _, h⟩ => h, fun h => ⟨(.undef, []), trivial, h⟩⟩
theorem dstp_b (d : Option Nat) (g : Option (Nat × Bool)) (u : Nat) (x : PX) (b : Bool) (h : dactB P np Q pre d g u x rs log is e ob b) : dstp P np Q pre d g u x rs log is e ob (some b) := by
  cases b
  · exact h.out.2 rfl
  · exact h.out.1 rfl
theorem dcA_some (r : PR) (f : FuncId) (p : Prop) (as : List AV) (l : List Nat) : dcA P np Q pre r f p rs log is e ob (some (as, l)) = dcB P np Q pre r f p rs log is e ob as l (reach ob 64 (hidL as) []) := (rfl)
theorem dcB_eq (r : PR) (f : FuncId) (p : Prop) (as : List AV) (l : List Nat) (ids : List Nat) : dcB P np Q pre r f p rs log is e ob as l ids = dcC P np Q pre r f p rs log is e ob (imL (fwd ob ids) as) l ids (takeL (fwd ob ids) ob ids) := by
  unfold dcB
  generalize takeL (fwd ob ids) ob ids = po
  cases po with
  | none => exact propext ⟨fun ⟨_, h, _⟩ => h.elim, fun h => h.elim⟩
  | some po => exact propext ⟨fun ⟨c, ⟨h0, h1, h2, h3, h4⟩, h5⟩ => ⟨h0, c.1, c.2, h1, h2, h3, h4, h5⟩, fun ⟨h0, r, o, h1, h2, h3, h4, h5⟩ => ⟨(r, o), ⟨h0, h1, h2, h3, h4⟩, h5⟩⟩
theorem dcC_some (r : PR) (f : FuncId) (p : Prop) (as : List AV) (l : List Nat) (ids : List Nat) (po : List Ob) : dcC P np Q pre r f p rs log is e ob as l ids (some po) = (p ∧ dcP P np Q pre r f rs log is e ob as l ids po) := (rfl)
theorem aftD_eq (r : PR) (l ids : List Nat) (res : AV) (ro : List Ob) : aftD P np Q pre r rs log is e ob l ids res ro = runD P np Q pre rs (log ++ [r.lg (l ++ (ids ++ names r.u ids ro.length)) (names r.u ids ro.length)]) is (putO r.d (imV (back ob r.u ids ro.length) res) e) (putL ob r.u ids (back ob r.u ids ro.length) 0 ro) := (rfl)
end
/-- An operation under a guard that is not known: both ways. -/
theorem dstp_split {P : Program} {np : Nat} {Q : Ex → St → Prop} {pre : List (List Nat)} {d : Option Nat} {g : Option (Nat × Bool)} {u : Nat} {x : PX} {rs : List PR} {log : List Lg} {is : List Item} {e : Env} {ob : Obs} {b : Bool}
    (h1 : b = true → dstp P np Q pre d g u x rs log is e ob (some true)) (h0 : b = false → dstp P np Q pre d g u x rs log is e ob (some false)) : dstp P np Q pre d g u x rs log is e ob (some b) := by
  cases b
  · exact h0 rfl
  · exact h1 rfl
theorem stp_split {P : Program} {np : Nat} {Q : Ex → St → Prop} {d : Option Nat} {g : Option (Nat × Bool)} {u : Nat} {x : PX} {rs : List PR} {is : List Item} {e : Env} {ob : Obs} {b : Bool}
    (h1 : b = true → stp P np Q d g u x rs is e ob (some true)) (h0 : b = false → stp P np Q d g u x rs is e ob (some false)) : stp P np Q d g u x rs is e ob (some b) := by
  cases b
  · exact h0 rfl
  · exact h1 rfl
theorem dcall_mk {P : Program} {np : Nat} {Q : Ex → St → Prop} {pre : List (List Nat)} {r : PR} {f : FuncId} {rs : List PR} {log : List Lg} {is : List Item} {e : Env} {ob : Obs} {as : List AV} {ids : List Nat} {po : List Ob} {res : AV} {ro : List Ob}
    (h : Triple P f as po res ro) (h1 : okC r.u ids ro.length [] true = true) (h2 : sameLen po ro) (h3 : aftD P np Q pre r rs log is e ob [] ids res ro) : dcP P np Q pre r f rs log is e ob as [] ids po :=
  ⟨res, ro, h, h1, h2, (fun h => by cases h), h3⟩
theorem dcall_as {P : Program} {np : Nat} {Q : Ex → St → Prop} {pre : List (List Nat)} {r : PR} {f : FuncId} {rs : List PR} {log : List Lg} {is : List Item} {e : Env} {ob : Obs} {as as' : List AV} {l ids : List Nat} {po : List Ob} (has : as = as') (h : dcP P np Q pre r f rs log is e ob as' l ids po) : dcP P np Q pre r f rs log is e ob as l ids po := has ▸ h
theorem dcall_lend {P : Program} {np : Nat} {Q : Ex → St → Prop} {pre : List (List Nat)} {r : PR} {f : FuncId} {rs : List PR} {log : List Lg} {is : List Item} {e : Env} {ob : Obs} {as : List AV} {i : Nat} {l ids : List Nat} {po : List Ob} {res : AV} {ro : List Ob}
    (h : Triple P f as po res ro) (h1 : okC r.u ids ro.length (i :: l) false = true) (h2 : sameLen po ro) (h4 : Flat res) (h5 : ∀ o ∈ ro, FlatO o) (h3 : aftD P np Q pre r rs log is e ob (i :: l) ids res ro) : dcP P np Q pre r f rs log is e ob as (i :: l) ids po :=
  ⟨res, ro, h, h1, h2, fun _ => ⟨h4, h5⟩, h3⟩

/-! Reading. -/
theorem put_ap (d : Nat) (x : AV) (e : Env) (n : Nat) : put d x e n = if n = d then x else e n := (rfl)
theorem upd_ap (i : Nat) (x : Nat × Ob) (ob : Obs) (n : Nat) : upd i x ob n = if n = i then some x else ob n := (rfl)
theorem putO_some (d : Nat) (x : AV) (e : Env) : putO (some d) x e = put d x e := (rfl)
theorem putO_none (x : AV) (e : Env) : putO none x e = e := (rfl)
theorem Opd_t (e : Env) (n : Nat) : (Opd.t n).ev e = e n := (rfl)
theorem Opd_c (e : Env) (x : AV) : (Opd.c x).ev e = x := (rfl)
theorem gdv_n (b : Bool) (x : AV) : gdv none b x = x := (rfl)
theorem gdv_s (g : Nat × Bool) (b : Bool) (x : AV) : gdv (some g) b x = .gd b x := (rfl)
theorem gd_t (x : AV) : (AV.gd true x).bare = x := (rfl)
section
variable (np : Nat) (live : List (Nat × Bool)) (e : Env) (ob : Obs)
theorem atHead_eq (D : List AV → List Ob → List Ob → Prop) : atHead np live ⟨e, ob⟩ D = nrmD D (nrm 64 np 2000000 (preL e live ob).1 (preL e live ob).2) := (rfl)
theorem nrmD_some (D : List AV → List Ob → List Ob → Prop) (vs : List AV) (pos los : List Ob) : nrmD D (some (vs, pos, los)) = D vs pos los := (rfl)
def nrm1 (np lb : Nat) (vs : List AV) (ob : Obs) (ids : List Nat) : Option (List AV × List Ob × List Ob) := match grab (nfwd np lb ob ids) ob (params np np), grab (nfwd np lb ob ids) ob ids with
  | some pos, some los => some (imL (nfwd np lb ob ids) vs, pos, los)
  | _, _ => none
theorem nrm_eq (fuel lb : Nat) (vs : List AV) : nrm fuel np lb vs ob = nrm1 np lb vs ob (locals np (reach ob fuel (hidL vs ++ params np np) [])) := (rfl)
theorem stAt_eq (vs : List AV) (pos los : List Ob) : stAt live vs pos los = ⟨keep live vs, obsO 1000000 pos (obsO 2000000 los fun _ => none)⟩ := (rfl)
theorem expo_eq (rs : List (Nat × Bool)) (D : AV → List Ob → Prop) : expo np rs ⟨e, ob⟩ D = expo2 np (preL e rs ob).2 D (outL (preL e rs ob).2 (preL e rs ob).1) := (rfl)
def expo3 (D : AV → List Ob → Prop) : Option (List AV × List Ob × List Ob) → Prop
  | some (vs, pos, los) => D (resOf vs) (pos ++ los)
  | none => False
theorem expo2_some (D : AV → List Ob → Prop) (vs : List AV) (l : List Nat) : expo2 np ob D (some (vs, l)) = expo3 D (nrm 64 np (1000000 + np) vs (freeze ob l)) := by
  show nrmD _ _ = _
  generalize nrm 64 np (1000000 + np) vs (freeze ob l) = y
  rcases y with _ | ⟨_, _, _⟩ <;> rfl
theorem expo3_some (D : AV → List Ob → Prop) (vs : List AV) (pos los : List Ob) : expo3 D (some (vs, pos, los)) = D (resOf vs) (pos ++ los) := (rfl)
end
theorem bif_true {α : Type} (a b : α) : (bif true then a else b) = a := (rfl)
theorem bif_false {α : Type} (a b : α) : (bif false then a else b) = b := (rfl)
end Go.Ev

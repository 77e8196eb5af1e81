import Derived.Test.YtjpejkfhkbaakaaEvNorm
namespace Go.Ev
open Go
set_option linter.unnecessarySimpa false
set_option linter.unusedSimpArgs false
set_option linter.unusedVariables false

inductive PX where
  | see (o : PO)
  | act (o : PO)
  | call (f : FuncId) (args : List Opd)
  | callv (x : Opd) (args : List Opd)
structure PR where
  d : Option Nat
  g : Option (Nat × Bool)
  u : Nat
  x : PX
inductive PC where
  | skip
  | reg (ops : List PR)
  | seq (a b : PC)
  | cond (x : Opd) (a b : PC)
  | block (id : Nat) (c : PC)
  | loop (c : PC)
  | exit (id : Nat)
  | ret
  | drw (ops : List PR) (pre : List (List Nat))
inductive Ex where
  | nor
  | ex (id : Nat)
  | rt
def putO (d : Option Nat) (x : AV) (e : Env) : Env := match d with
  | some d => put d x e
  | none => e
def yes1 (b : Bool) : AV → Option Bool
  | .r (.v (.bool x)) => some (bif b then x else !x)
  | .gd h (.r (.v (.bool x))) => some (h && (bif b then x else !x))
  | _ => none
def yes (e : Env) : Option (Nat × Bool) → Option Bool
  | none => some true
  | some (t, b) => yes1 b (e t)
def gdv (g : Option (Nat × Bool)) (b : Bool) (x : AV) : AV := match g with
  | none => x
  | some _ => .gd b x
def okC (u : Nat) (ids : List Nat) (m : Nat) (l : List Nat) (fz : Bool) : Bool :=
  decide (ids.length ≤ m) && decide (((List.range m).map (bname u ids)).Nodup) && decide (100000 + 1000 * u + m ≤ 1000000) && (fz || l.all fun i => !ids.contains i)
/-- A box stays as large as it was. -/
def sameLen : List Ob → List Ob → Prop
  | .box a :: xs, .box b :: ys => b.length = a.length ∧ sameLen xs ys
  | .abs T :: xs, .abs T' :: ys => T'.size = T.size ∧ sameLen xs ys
  | .box _ :: _, _ :: _ => False
  | .abs _ :: _, _ :: _ => False
  | _ :: xs, _ :: ys => sameLen xs ys
  | _, _ => True
def CallR (P : Program) (f : FuncId) (u : Nat) (ob : Obs) (ids : List Nat) (as : List AV) (l : List Nat) (fz : Bool) (K : AV → Obs → Prop) : Option (List Ob) → Prop
  | none => False
  | some po => ∃ res ro, Triple P f as po res ro ∧ okC u ids ro.length l fz = true ∧ sameLen po ro ∧ (fz = false → Flat res ∧ ∀ o ∈ ro, FlatO o) ∧ K (imV (back ob u ids ro.length) res) (putL ob u ids (back ob u ids ro.length) 0 ro)
def CallQ (P : Program) (f : FuncId) (u : Nat) (ob : Obs) (as : List AV) (l : List Nat) (fz : Bool) (K : AV → Obs → Prop) : Prop :=
  CallR P f u ob (reach ob 64 (hidL as) []) (imL (fwd ob (reach ob 64 (hidL as) [])) as) l fz K (takeL (fwd ob (reach ob 64 (hidL as) [])) ob (reach ob 64 (hidL as) []))
def CallW (P : Program) (f : FuncId) (u : Nat) (ob : Obs) (K : AV → Obs → Prop) : Option (List AV × List Nat) → Prop
  | none => False
  | some (as, []) => CallQ P f u ob as [] true K
  | some (as, i :: l) => CallQ P f u (freeze ob (i :: l)) as (i :: l) true K ∨ CallQ P f u ob as (i :: l) false K
/-- A function with a body. -/
def isFn (P : Program) (f : FuncId) : Bool := match P.funcs[f]? with
  | some fn => fn.body.isSome && !(fn.name == "runtime.NumGoroutine")
  | none => false
def CallV (P : Program) (u : Nat) (ob : Obs) (vs : List AV) (K : AV → Obs → Prop) : AV → Prop
  | .fn (.func f) cap k => isFn P f = true ∧ CallW P f u ob K (argL ob (cap.take k ++ (vs ++ cap.drop k)))
  | _ => False
/-- One operation: what must hold, and the state behind it. -/
def PX.wp (P : Program) (r : PR) (s : St) (K : St → Prop) (b : Bool) : PX → Prop
  | .see o => (o.see b s.e s.ob).ok ∧ K ⟨putO r.d (gdv r.g b (o.see b s.e s.ob).v) s.e, s.ob⟩
  | .act o => (b = true → (o.act (r.d.getD 0) s.e s.ob).ok ∧ K ⟨putO r.d (o.act (r.d.getD 0) s.e s.ob).v s.e, (o.act (r.d.getD 0) s.e s.ob).ob⟩) ∧ (b = false → K ⟨putO r.d .undef s.e, s.ob⟩)
  | .call f args => (b = true → mayl true s.e args ∧ CallW P f r.u s.ob (fun v ob => K ⟨putO r.d v s.e, ob⟩) (argL s.ob (barel s.e args))) ∧ (b = false → K ⟨putO r.d .undef s.e, s.ob⟩)
  | .callv x args => (b = true → (x.ev s.e).may true ∧ mayl true s.e args ∧ CallV P r.u s.ob (barel s.e args) (fun v ob => K ⟨putO r.d v s.e, ob⟩) (x.ev s.e).bare) ∧ (b = false → K ⟨putO r.d .undef s.e, s.ob⟩)
def PR.wp (P : Program) (r : PR) (s : St) (K : St → Prop) : Option Bool → Prop
  | some b => r.x.wp P r s K b
  | none => False
def wpR (P : Program) : List PR → (St → Prop) → St → Prop
  | [], K, s => K s
  | r :: rs, K, s => r.wp P s (wpR P rs K) (yes s.e r.g)

/-! The program's code is the one that is said. -/
def chkPX (P : Program) (o : Oper) : PX → Bool
  | .see po => chkSee P o po
  | .act po => chkAct P o po
  | .call f args => match o.op with
    | .call c => match c.callee with
      | .value (.func f') => f == f' && all2 opd c.args.toList args && isFn P f
      | _ => false
    | _ => false
  | .callv x args => match o.op with
    | .call c => match c.callee with
      | .value x' => opd x' x && all2 opd c.args.toList args
      | _ => false
    | _ => false
def chkG (ops : Array Oper) : Option (Nat × Bool) → Option (Nat × Bool) → Bool
  | none, none => true
  | some (j, b), some (t, b') => b == b' && ((ops[j]?).bind (·.dst)) == some t
  | _, _ => false
def isSee : PX → Bool
  | .see _ => true
  | _ => false
def isActD : PX → Bool
  | .act (.st _ _ _) => false
  | .act _ => true
  | _ => false
def chkPR (P : Program) (n : Nat) (ops : Array Oper) (o : Oper) (r : PR) : Bool :=
  o.dst == r.d && (match r.d with | some d => decide (d < n) | none => !isSee r.x && !isActD r.x) && chkG ops o.guard r.g && chkPX P o r.x
/-- What must come ahead of an operation, in any order that is drawn. -/
def chkPre (ops : Array Oper) (pre : List (List Nat)) : Bool :=
  pre.length == ops.size && (List.range ops.size).all fun j => match ops[j]?, pre[j]? with
    | some o, some p => o.after.all (fun e => !Region.binds .any e || decide (e.on < j)) &&
        p.all (fun k => decide (k < j) && o.after.any fun e => Region.binds .any e && (e.on == k || (pre.getD e.on []).contains k))
    | _, _ => false
def chkC (P : Program) (n : Nat) : Code → PC → Bool
  | .skip, .skip => true
  | .region _ ops d, .reg rs => !d && all2 (chkPR P n ops) ops.toList rs
  | .region _ ops d, .drw rs pre => d && P.follows .mixedOrders && all2 (chkPR P n ops) ops.toList rs && chkPre ops pre
  | .seq a b, .seq a' b' => chkC P n a a' && chkC P n b b'
  | .cond x a b, .cond x' a' b' => opd x x' && chkC P n a a' && chkC P n b b'
  | .block i c, .block j c' => i == j && chkC P n c c'
  | .loop c, .loop c' => chkC P n c c'
  | .exit i, .exit j => i == j
  | .ret, .ret => true
  | _, _ => false

section
variable {P : Program} {X : Cx} [GlC P X] {w w' : World} {s : St} {ρ ρ' : Pl → Option Nat} {a : Act} {o : Oper} {ob ob' : Obs} {R R' : Nat → Prop}
/-- A row, read as a value by who may read its block. -/
theorem row_rv (hG : Gam X s ρ a w) {id ver lo len sz : Nat} {z : RV} {app wr : Bool} {xs : List RV} {c : Value} (hid : s.ob id = some (ver, .row sz z app wr xs)) (h : RA X s ρ w (.own id ver lo len) c) (hR : ∀ b, Free X.B s.ob ρ w b → R b)
    (hb : ∀ b, ρ id = some b → b < w.heap.size → R b) : RelV w R (.sl sz ((xs.drop lo).take len)) c := by
  cases h
  rename_i h
  obtain ⟨A, cap, rfl, e2, e3, e4, e5⟩ := h.live hid
  have hlen : ((xs.drop lo).take len).length = len := by simp; omega
  have key := RelV.sl (w := w) (R := R) sz ((xs.drop lo).take len) A cap (by omega) e3
  rw [hlen] at key
  have hget : ∀ (i : Nat) (x : RV), ((xs.drop lo).take len)[i]? = some x → xs[lo + i]? = some x := fun i x hi => by
    rw [List.getElem?_take] at hi
    split at hi
    · rwa [List.getElem?_drop] at hi
    · cases hi
  rcases hG.obj id ver _ hid with ⟨h1, h2⟩ | ⟨b, cs, e, fr, h1, h2, h3, h4, h5, h6⟩
  · subst h1
    have : len = 0 := by have : lo + len ≤ 0 := e4; omega
    subst this
    exact key 0 0 (fun _ _ => undef) (by simp) (by simp) (by simp) (by simp)
  · refine key b (lo * sz) (fun i j => (cs[(lo + i) * sz + j]?).getD undef) (fun h0 => ?_) (fun i x hi => (h6 _ x (hget i x hi)).1) (fun i x j y hi hj => ?_) (fun i x j y hi hj => ?_)
    · obtain ⟨b', cs', e', fr', f1, f2, f3, f4⟩ := e5 (by omega)
      rw [h1] at f1
      cases f1
      exact ⟨f2, hb b h1 (Array.getElem?_eq_some_iff.1 h2).1⟩
    · obtain ⟨c, g1, g2, g3⟩ := (h6 _ x (hget i x hi)).2 j y hj
      rw [g1]
      refine ⟨?_, g2⟩
      simp only [World.cell?, h2, Option.isSome_none, Bool.false_eq_true, if_false, Option.getD_some]
      rw [← g1, Nat.add_mul]
    · obtain ⟨c, g1, g2, g3⟩ := (h6 _ x (hget i x hi)).2 j y hj
      rw [g1]
      exact g3.mono fun b hb' => ⟨hR b hb', rfl⟩
theorem rv_row (hG : Gam X s ρ a w) {x : AV} {y : RV} {l : List Nat} {c : Value} (h : x.rv s.ob = some (y, l)) (hx : RA X s ρ w x c) (hR : ∀ b, Free X.B s.ob ρ w b → R b) (hb : ∀ i, i ∈ l → ∀ b, ρ i = some b → b < w.heap.size → R b) : RelV w R y c := by
  unfold AV.rv at h
  split at h
  · cases h; cases hx; rename_i h; exact h.mono fun b hb' => ⟨hR b hb', rfl⟩
  · cases h; cases hx
    exact .sl _ [] none 0 (by simp) (by simp) 0 0 (fun _ _ => undef) (by simp) (by simp) (by simp) (by simp)
  · split at h
    · rename_i hr
      cases h
      exact row_rv hG (rowAt_some hr) hx hR (hb _ (by simp))
    · cases h
  · cases h
theorem rvs_row (hG : Gam X s ρ a w) (hR : ∀ b, Free X.B s.ob ρ w b → R b) : ∀ {xs : List AV} {ys : List RV} {l : List Nat}, rvs s.ob xs = some (ys, l) → (∀ i, i ∈ l → ∀ b, ρ i = some b → b < w.heap.size → R b) →
    ∀ (i : Nat) (x : AV) (y : RV) (c : Value), xs[i]? = some x → ys[i]? = some y → RA X s ρ w x c → RelV w R y c
  | [], ys, l, h, hs, i, x, y, c, hx, hy, hr => by simp at hx
  | z :: xs, ys, l, h, hs, i, x, y, c, hx, hy, hr => by
    simp only [rvs] at h
    split at h
    · rename_i y' k zs j h1 h2
      cases h
      cases i with
      | zero =>
        simp at hx hy
        subst hx; subst hy
        exact rv_row hG h1 hr hR (fun p hp => hs p (by simp [hp]))
      | succ i =>
        simp at hx hy
        exact rvs_row hG hR h2 (fun p hp => hs p (by simp [hp])) i x y c hx hy hr
    · cases h
theorem argV_rel (hG : Gam X s ρ a w) (hR : ∀ b, Free X.B s.ob ρ w b → R b) {x y : AV} {l : List Nat} {c : Value} (h : argV s.ob x = some (y, l)) (hb : ∀ i, i ∈ l → ∀ b, ρ i = some b → b < w.heap.size → R b) (hx : RA X s ρ w x c) : RelA w R s.ob ρ y c := by
  have keep : ∀ z : AV, RA X s ρ w z c → RelA w R s.ob ρ z c := fun z hz => hz.stays ⟨fun b hb' => ⟨hR b hb', rfl⟩, fun id v o h => ⟨v, o, h, Nat.le_refl _, fun _ => ⟨rfl, Keep.refl o, fun b cs e fr _ h => ⟨cs, e, fr, h, rfl⟩⟩⟩⟩
  unfold argV at h
  split at h
  · split at h
    · rename_i hr
      cases h
      exact .r (rv_row hG hr hx hR hb)
    · cases h
  · cases h; cases hx
    exact .r (.sl _ [] none 0 (by simp) (by simp) 0 0 (fun _ _ => undef) (by simp) (by simp) (by simp) (by simp))
  · rename_i xs
    split at h
    · rename_i ys l' hrv
      cases h
      cases hx
      rename_i cs hl hrel
      refine .r (.agg _ _ (by rw [rvs_len hrv]; exact hl) fun i y c hy hc => ?_)
      have hlt : i < xs.length := by have := (List.getElem?_eq_some_iff.1 hy).1; have := rvs_len hrv; omega
      have hxi : xs[i]? = some xs[i] := by simp [hlt]
      exact rvs_row hG hR hrv hb i _ y c hxi hy (hrel i _ c hxi hc)
    · cases h
  · cases h
  · cases h
  · cases h
    exact keep _ hx
theorem argL_rel (hG : Gam X s ρ a w) (hR : ∀ b, Free X.B s.ob ρ w b → R b) : ∀ {xs ys : List AV} {l : List Nat}, argL s.ob xs = some (ys, l) → (∀ i, i ∈ l → ∀ b, ρ i = some b → b < w.heap.size → R b) →
    ys.length = xs.length ∧ ∀ (i : Nat) (x y : AV) (c : Value), xs[i]? = some x → ys[i]? = some y → RA X s ρ w x c → RelA w R s.ob ρ y c
  | [], ys, l, h, hs => by simp [argL] at h; obtain ⟨rfl, rfl⟩ := h; simp
  | z :: xs, ys, l, h, hs => by
    simp only [argL] at h
    split at h
    · rename_i y' k zs j h1 h2
      cases h
      obtain ⟨g1, g2⟩ := argL_rel hG hR h2 (fun p hp => hs p (by simp [hp]))
      refine ⟨by simp [g1], fun i x y c hx hy hr => ?_⟩
      cases i with
      | zero =>
        simp at hx hy
        subst hx; subst hy
        exact argV_rel hG hR h1 (fun p hp => hs p (by simp [hp])) hr
      | succ i =>
        simp at hx hy
        exact g2 i x y c hx hy hr
    · cases h

theorem rv_ids {x : AV} {y : RV} {l : List Nat} (h : x.rv ob = some (y, l)) : ∀ i, i ∈ l → ∃ q, ob i = some q := by
  unfold AV.rv at h
  split at h
  · cases h; simp
  · cases h; simp
  · split at h
    · rename_i hr
      cases h
      intro i hi
      simp at hi
      subst hi
      exact ⟨_, rowAt_some hr⟩
    · cases h
  · cases h
theorem rvs_ids : ∀ {xs : List AV} {ys : List RV} {l : List Nat}, rvs ob xs = some (ys, l) → ∀ i, i ∈ l → ∃ q, ob i = some q
  | [], ys, l, h => by simp [rvs] at h; simp [h.2]
  | z :: xs, ys, l, h => by
    simp only [rvs] at h
    split at h
    · rename_i y' k zs j h1 h2
      cases h
      intro i hi
      rcases List.mem_append.1 hi with hi | hi
      · exact rv_ids h1 i hi
      · exact rvs_ids h2 i hi
    · cases h
theorem argL_ids : ∀ {xs ys : List AV} {l : List Nat}, argL ob xs = some (ys, l) → ∀ i, i ∈ l → ∃ q, ob i = some q
  | [], ys, l, h => by simp [argL] at h; simp [h.2]
  | z :: xs, ys, l, h => by
    simp only [argL] at h
    split at h
    · rename_i y' k zs j h1 h2
      cases h
      intro i hi
      rcases List.mem_append.1 hi with hi | hi
      · unfold argV at h1
        split at h1
        · split at h1
          · rename_i hr
            cases h1
            exact rv_ids hr i hi
          · cases h1
        · cases h1; simp at hi
        · split at h1
          · rename_i hr
            cases h1
            exact rvs_ids hr i hi
          · cases h1
        · cases h1
        · cases h1
        · cases h1; simp at hi
      · exact argL_ids h2 i hi
    · cases h
theorem frz_rel (i : Nat) {x : AV} {c : Value} (h : RelA w (Free X.B ob ρ w) ob ρ x c) : RelA w (Free X.B (frz ob i (ob i)) ρ w) (frz ob i (ob i)) ρ x c := by
  rcases hi : ob i with _ | ⟨v, cells | ⟨sz, z, app, wr, xs⟩ | T⟩
  · exact h
  · exact h
  · exact h.stays (Stays.freeze1 (X := X) (s := ⟨fun _ => .undef, ob⟩) hi)
  · exact h
theorem freeze_rel : ∀ (l : List Nat) {ob : Obs} {x : AV} {c : Value}, RelA w (Free X.B ob ρ w) ob ρ x c → RelA w (Free X.B (freeze ob l) ρ w) (freeze ob l) ρ x c
  | [], _, _, _, h => h
  | i :: is, _, _, _, h => freeze_rel is (frz_rel i h)
theorem argV_frz (hG : Gam X s ρ a w) {ob : Obs} {lall : List Nat} (hob : s.ob = Ev.freeze ob lall) {x y : AV} {l : List Nat} {c : Value} (h : argV ob x = some (y, l)) (hsub : ∀ i, i ∈ l → i ∈ lall) (hx : RA X s ρ w x c) : RA X s ρ w y c := by
  unfold argV at h
  split at h
  · split at h
    · rename_i hr
      cases h
      exact .r (rv_rel hG hr hsub hob hx)
    · cases h
  · cases h; cases hx
    exact .r (.sl _ [] none 0 (by simp) (by simp) 0 0 (fun _ _ => undef) (by simp) (by simp) (by simp) (by simp))
  · rename_i xs
    split at h
    · rename_i ys l' hrv
      cases h
      cases hx
      rename_i cs hl hrel
      refine .r (.agg _ _ (by rw [rvs_len hrv]; exact hl) fun i y c hy hc => ?_)
      have hlt : i < xs.length := by have := (List.getElem?_eq_some_iff.1 hy).1; have := rvs_len hrv; omega
      have hxi : xs[i]? = some xs[i] := by simp [hlt]
      exact rvs_rel hG hob hrv hsub i _ y c hxi hy (hrel i _ c hxi hc)
    · cases h
  · cases h
  · cases h
  · cases h; exact hx
theorem argL_frz (hG : Gam X s ρ a w) {ob : Obs} {lall : List Nat} (hob : s.ob = Ev.freeze ob lall) : ∀ {xs ys : List AV} {l : List Nat}, argL ob xs = some (ys, l) → (∀ i, i ∈ l → i ∈ lall) →
    ys.length = xs.length ∧ ∀ (i : Nat) (x y : AV) (c : Value), xs[i]? = some x → ys[i]? = some y → RA X s ρ w x c → RA X s ρ w y c
  | [], ys, l, h, hs => by simp [argL] at h; obtain ⟨rfl, rfl⟩ := h; simp
  | z :: xs, ys, l, h, hs => by
    simp only [argL] at h
    split at h
    · rename_i y' k zs j h1 h2
      cases h
      obtain ⟨g1, g2⟩ := argL_frz hG hob h2 (fun p hp => hs p (by simp [hp]))
      refine ⟨by simp [g1], fun i x y c hx hy hr => ?_⟩
      cases i with
      | zero =>
        simp at hx hy
        subst hx; subst hy
        exact argV_frz hG hob h1 (fun p hp => hs p (by simp [hp])) hr
      | succ i =>
        simp at hx hy
        exact g2 i x y c hx hy hr
    · cases h
theorem okC_spec {u m : Nat} {ids l : List Nat} {fz : Bool} (h : okC u ids m l fz = true) : ids.length ≤ m ∧ (∀ i j, i < m → j < m → bname u ids i = bname u ids j → i = j) ∧ 100000 + 1000 * u + m ≤ 1000000 ∧ (fz = false → ∀ i, i ∈ l → i ∉ ids) := by
  simp only [okC, Bool.and_eq_true, decide_eq_true_eq, Bool.or_eq_true] at h
  obtain ⟨⟨⟨h1, h2⟩, h3⟩, h4⟩ := h
  refine ⟨h1, fun i j hi hj e => ?_, h3, fun hf i hi hm => ?_⟩
  · have g1 : ((List.range m).map (bname u ids))[i]? = some (bname u ids i) := by simp [hi]
    have g2 : ((List.range m).map (bname u ids))[j]? = some (bname u ids i) := by simp [hj, e]
    exact nodup_get h2 g1 g2
  · rw [hf] at h4
    simp at h4
    exact h4 i hi hm
theorem sameLen_at : ∀ {xs ys : List Ob}, sameLen xs ys → ∀ (k : Nat) (o o' : Ob), xs[k]? = some o → ys[k]? = some o' → SamePin o o'
  | [], _, _, k, c, c', h, _ => by simp at h
  | _ :: _, [], _, k, c, c', _, h => by simp at h
  | x :: xs, y :: ys, hs, 0, c, c', h, h' => by
    simp at h h'
    subst h; subst h'
    cases x <;> cases y <;> first | exact hs.1 | exact hs.elim | trivial
  | x :: xs, y :: ys, hs, k + 1, c, c', h, h' => by
    simp at h h'
    have : sameLen xs ys := by cases x <;> cases y <;> first | exact hs.2 | exact hs.elim | exact hs
    exact sameLen_at this k c c' h h'

/-- A call by a contract. -/
theorem call_sound {f : FuncId} {u : Nat} {K : AV → Obs → Prop} {vs : List AV} {cargs : Array Value} (hG : Gam X s ρ a w) (h : CallW P f u s.ob K (argL s.ob vs)) (hl : cargs.size = vs.length) (hr : ∀ (i : Nat) (x : AV) (c : Value), vs[i]? = some x → cargs[i]? = some c → RA X s ρ w x c) :
    Calls P f cargs w fun e w' => ∃ c v ob' ρ', e = .returned c ∧ K v ob' ∧ Gam X ⟨s.e, ob'⟩ ρ' a w' ∧ RA X ⟨s.e, ob'⟩ ρ' w' v c := by
  have frozen : ∀ (as : List AV) (l : List Nat), argL s.ob vs = some (as, l) → CallQ P f u (freeze s.ob l) as l true K → Calls P f cargs w fun e w' => ∃ c v ob' ρ', e = .returned c ∧ K v ob' ∧ Gam X ⟨s.e, ob'⟩ ρ' a w' ∧ RA X ⟨s.e, ob'⟩ ρ' w' v c := by
    intro as l ha hq
    have hG' := Gam.freeze (s := s) l (ob := s.ob) hG
    unfold CallQ at hq
    generalize hids : reach (freeze s.ob l) 64 (hidL as) [] = ids at hq
    unfold CallR at hq
    split at hq
    · cases hq
    · rename_i po hpo
      obtain ⟨res, ro, hT, hok, hsl, hfl, hK⟩ := hq
      obtain ⟨k1, k2, k3, k4⟩ := okC_spec hok
      have hRf : ∀ b, Free X.B (freeze s.ob l) ρ w b → ∀ i, i ∈ ids → ¬ Foot (freeze s.ob l) ρ i b := fun b hb i hi hib => by
        obtain ⟨hpl, hpa⟩ := takeL_at hpo
        obtain ⟨k, hk⟩ := List.mem_iff_getElem?.1 hi
        have hlt := (List.getElem?_eq_some_iff.1 hk).1
        obtain ⟨v, x, g1, g2, g3⟩ := hpa k i (po[k]'(by omega)) hk (by simp [show k < po.length by omega])
        obtain ⟨y, q1, q2⟩ := hib
        rw [g1] at q1
        cases q1
        exact hb.2.1 ⟨i, v, x, g1, g2, q2⟩
      obtain ⟨g1, g2⟩ := argL_frz (s := ⟨s.e, freeze s.ob l⟩) hG' rfl ha (fun _ h => h)
      refine (Gam.call (s := ⟨s.e, freeze s.ob l⟩) (Bc := fun b => Free X.B (freeze s.ob l) ρ w b ∨ (∃ i, i ∈ ids ∧ Foot (freeze s.ob l) ρ i b) ∨ w.heap.size ≤ b) (Ra := Free X.B (freeze s.ob l) ρ w) hG' hpo hT k1 k2 k3 (by rw [g1, hl]) (fun i x c hx hc => ?_)
        (fun b hb => ⟨hb.1, .inl hb, hRf b hb⟩) (fun _ h => .inl h) (fun _ h => .inr h) (sameLen_at hsl) (.inr fun _ h => h)).mono ?_
      · have hlt := (List.getElem?_eq_some_iff.1 hx).1
        have hv : vs[i]? = some (vs[i]'(by omega)) := by simp [show i < vs.length by omega]
        exact g2 i _ x c hv hx (freeze_rel l (hr i _ c hv hc))
      · rintro e w' ⟨c, ρ', rfl, h1, h2⟩
        exact ⟨c, _, _, ρ', rfl, hK, h1, h2⟩
  have lent : ∀ (as : List AV) (l : List Nat), argL s.ob vs = some (as, l) → CallQ P f u s.ob as l false K → Calls P f cargs w fun e w' => ∃ c v ob' ρ', e = .returned c ∧ K v ob' ∧ Gam X ⟨s.e, ob'⟩ ρ' a w' ∧ RA X ⟨s.e, ob'⟩ ρ' w' v c := by
    intro as l ha hq
    unfold CallQ at hq
    generalize hids : reach s.ob 64 (hidL as) [] = ids at hq
    unfold CallR at hq
    split at hq
    · cases hq
    · rename_i po hpo
      obtain ⟨res, ro, hT, hok, hsl, hfl, hK⟩ := hq
      obtain ⟨k1, k2, k3, k4⟩ := okC_spec hok
      have hRf : ∀ b, Free X.B s.ob ρ w b → b < w.heap.size ∧ ∀ i, i ∈ ids → ¬ Foot s.ob ρ i b := fun b hb => ⟨hb.1, fun i hi hib => by
        obtain ⟨hpl, hpa⟩ := takeL_at hpo
        obtain ⟨k, hk⟩ := List.mem_iff_getElem?.1 hi
        have hlt := (List.getElem?_eq_some_iff.1 hk).1
        obtain ⟨v, x, g1, g2, g3⟩ := hpa k i (po[k]'(by omega)) hk (by simp [show k < po.length by omega])
        obtain ⟨y, q1, q2⟩ := hib
        rw [g1] at q1
        cases q1
        exact hb.2.1 ⟨i, v, x, g1, g2, q2⟩⟩
      have hdis : ∀ i, i ∈ l → ∀ b, ρ i = some b → b < w.heap.size → b < w.heap.size ∧ ∀ j, j ∈ ids → ¬ Foot s.ob ρ j b := fun i hi b hb hlt => ⟨hlt, fun j hj hjb => by
        obtain ⟨q, hq⟩ := argL_ids ha i hi
        obtain ⟨hpl, hpa⟩ := takeL_at hpo
        obtain ⟨k, hk⟩ := List.mem_iff_getElem?.1 hj
        have hlt := (List.getElem?_eq_some_iff.1 hk).1
        obtain ⟨v, x, g1, g2, g3⟩ := hpa k j (po[k]'(by omega)) hk (by simp [show k < po.length by omega])
        obtain ⟨y, q1, q2⟩ := hjb
        have := hG.inj i j _ _ b hq q1 (.inl hb) q2
        subst this
        exact k4 rfl i hi hj⟩
      obtain ⟨g1, g2⟩ := argL_rel hG (R := fun b => b < w.heap.size ∧ ∀ i, i ∈ ids → ¬ Foot s.ob ρ i b) hRf ha hdis
      refine (Gam.call (Bc := fun _ => True) (Ra := fun b => b < w.heap.size ∧ ∀ i, i ∈ ids → ¬ Foot s.ob ρ i b) hG hpo hT k1 k2 k3 (by rw [g1, hl]) (fun i x c hx hc => ?_) (fun b hb => ⟨hb.1, trivial, hb.2⟩) (fun _ _ => trivial) (fun _ _ => trivial) (sameLen_at hsl) (.inl (hfl rfl))).mono ?_
      · have hlt := (List.getElem?_eq_some_iff.1 hx).1
        have hv : vs[i]? = some (vs[i]'(by omega)) := by simp [show i < vs.length by omega]
        exact g2 i _ x c hv hx (hr i _ c hv hc)
      · rintro e w' ⟨c, ρ', rfl, h1, h2⟩
        exact ⟨c, _, _, ρ', rfl, hK, h1, h2⟩
  rcases ha : argL s.ob vs with _ | ⟨as, _ | ⟨i, l⟩⟩
  · rw [ha] at h; exact h.elim
  · rw [ha] at h; exact frozen as [] ha h
  · rw [ha] at h
    rcases h with h | h
    · exact frozen as _ ha h
    · exact lent as _ ha h
end
end Go.Ev

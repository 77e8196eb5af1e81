import Derived.Test.YtjpejkfhkbaakaaEvChk
namespace Go.Ev
open Go
set_option linter.unnecessarySimpa false
set_option linter.unusedSimpArgs false
set_option linter.unusedVariables false
abbrev RA (X : Cx) (s : St) (ρ : Pl → Option Nat) (w : World) : AV → Value → Prop := RelA w (Free X.B s.ob ρ w) s.ob ρ
def Sees (P : Program) (X : Cx) (a : Act) (w : World) (s : St) (ρ : Pl → Option Nat) (o : Oper) (v : AV) : Prop :=
  ∃ c, (execOp a.eval o).run P w = .ok (.value c) w ∧ RA X s ρ w v c

section
variable {P : Program} {X : Cx} {w : World} {s : St} {ρ : Pl → Option Nat} {a : Act} {o : Oper}

/-- An operand that may be read under the guard. -/
theorem get_op {g : Bool} (hG : Gam X s ρ a w) (hg : g = true) {x : Operand} {y : Opd} (h : opd x y = true) (hm : (y.ev s.e).may g) : RA X s ρ w (y.ev s.e).bare (a.eval x) :=
  (opd_rel hG.env h).bare hg hm

theorem inv_int {k : IntKind} {m : Int} {c : Value} (h : RA X s ρ w (int k m) c) : c = .int k m := by cases h; rename_i h; cases h; rfl
theorem inv_bool {b : Bool} {c : Value} (h : RA X s ρ w (bl b) c) : c = .bool b := by cases h; rename_i h; cases h; rfl
theorem inv_v {x c : Value} (h : RA X s ρ w (.r (.v x)) c) : c = x := by cases h; rename_i h; cases h; rfl
theorem mk_v (x : Value) : RA X s ρ w (.r (.v x)) x := .r (.v x)

theorem see_bin {g : Bool} (hg : g = true) {op : BinOp} {t ty : TypeId} {x y : Operand} {u v : AV} (ho : o.op = .binOp op t x y ty) (hu : RA X s ρ w u (a.eval x)) (hv : RA X s ρ w v (a.eval y))
    (hok : (bin2 g op u v).1) : Sees P X a w s ρ o (bin2 g op u v).2 := by
  unfold bin2 at hok ⊢
  split at hok
  · rename_i k m k' m'
    have h1 := inv_int hu
    have h2 := inv_int hv
    simp only [Sees, execOp, ho, h1, h2]
    cases op <;> simp only [binI] at hok ⊢
    all_goals first
      | (subst hok; refine ⟨_, ?_, mk_v _⟩; simp [eqGuard, binOp, Op.intArith, Op.intBits, Op.intCmp]; done)
      | (obtain ⟨rfl, hok⟩ := hok; refine ⟨_, ?_, mk_v _⟩; simp [eqGuard, binOp, Op.intDiv, hok hg]; done)
      | (refine ⟨_, ?_, mk_v _⟩; have hb := hok hg; simp [eqGuard, binOp, Op.shift, show ¬ m' < 0 by omega]; done)
  · rename_i b b'
    have h1 := inv_v hu
    have h2 := inv_v hv
    simp only [Sees, execOp, ho, h1, h2]
    cases op <;> simp only [binS, bad] at hok ⊢
    · refine ⟨_, ?_, mk_v _⟩
      have hb := hok hg
      have hm : ¬ (((b.size + b'.size : Nat) : Int) > IntKind.i64.max) := by
        rw [show IntKind.i64.max = 9223372036854775807 from rfl]; omega
      simp only [eqGuard, binOp, Op.stringOp, Sem.run_bind, Sem.run_ite, Sem.run_pure, if_neg hm]
      simp
    all_goals first
      | first | exact (hok hg).elim | exact (hok.2 hg).elim
      | (refine ⟨_, ?_, mk_v _⟩; simp [eqGuard, binOp, Op.stringOp]; done)
  · first | exact (hok hg).elim | exact (hok.2 hg).elim

theorem see_pick {g : Bool} (hg : g = true) {x y z : Operand} {u v t : AV} (ho : o.op = .pick x y z) (hu : RA X s ρ w u (a.eval x)) (hv : RA X s ρ w v (a.eval y)) (ht : RA X s ρ w t (a.eval z))
    (hok : (pick3 g u v t).1) : Sees P X a w s ρ o (pick3 g u v t).2 := by
  unfold pick3 at hok ⊢
  split at hok
  · have h1 := inv_v hu
    have h2 := inv_v hv
    have h3 := inv_v ht
    simp only [Sees, execOp, ho, h1, h2, h3]
    rename_i c d e
    refine ⟨_, ?_, mk_v _⟩
    cases c <;> simp [asBool]
  · have h1 := inv_v hu
    have h3 := inv_v ht
    rename_i c h d e
    simp only [Sees, execOp, ho, h1, h3]
    refine ⟨_, ?_, mk_v _⟩
    cases c
    · simp [asBool]
    · cases hv with
      | gd _ hv1 hv2 =>
        have h2 := inv_v (hv1 (hok hg rfl))
        simp [asBool, h2]
  · have h1 := inv_v hu
    have h2 := inv_v hv
    rename_i c d h e
    simp only [Sees, execOp, ho, h1, h2]
    refine ⟨_, ?_, mk_v _⟩
    cases c
    · cases ht with
      | gd _ ht1 ht2 =>
        have h3 := inv_v (ht1 (hok hg rfl))
        simp [asBool, h3]
    · simp [asBool]
  · have h1 := inv_v hu
    have h2 := inv_v hv
    simp only [Sees, execOp, ho, h1, h2]
    refine ⟨_, ?_, mk_v _⟩
    simp [asBool, hok hg]
  · have h1 := inv_v hu
    have h3 := inv_v ht
    simp only [Sees, execOp, ho, h1, h3]
    refine ⟨_, ?_, mk_v _⟩
    simp [asBool, hok hg]
  · have h1 := inv_v hu
    have h3 := inv_v ht
    simp only [Sees, execOp, ho, h1, h3]
    refine ⟨_, ?_, mk_v _⟩
    simp [asBool, hok hg]
  · have h1 := inv_v hu
    have h2 := inv_v hv
    simp only [Sees, execOp, ho, h1, h2]
    refine ⟨_, ?_, mk_v _⟩
    simp [asBool, hok hg]
  · first | exact (hok hg).elim | exact (hok.2 hg).elim

theorem see_beq {g : Bool} (hg : g = true) {neg : Bool} {op : BinOp} {t ty : TypeId} {x y : Operand} {u v : AV} (ho : o.op = .binOp op t x y ty) (hop : op = if neg then .neq else .eql) (ht : P.underlying t = some .bool)
    (hu : RA X s ρ w u (a.eval x)) (hv : RA X s ρ w v (a.eval y)) (hok : (beq2 g neg u v).1) : Sees P X a w s ρ o (beq2 g neg u v).2 := by
  unfold beq2 at hok ⊢
  split at hok
  · have h1 := inv_v hu
    have h2 := inv_v hv
    simp only [Sees, execOp, ho, h1, h2]
    refine ⟨_, ?_, mk_v _⟩
    subst hop
    cases neg <;> simp [eqGuard, binOp, run_equal_bool w t _ _ ht]
  · first | exact (hok hg).elim | exact (hok.2 hg).elim

theorem isA_cells {x : AV} {c : Value} (h : RA X s ρ w x c) (ha : x.isA = true) : ∃ cs, c = .agg cs ∧ ∀ (i : Nat) (y : AV), x.cells[i]? = some y → ∃ v, cs[i]? = some v ∧ RA X s ρ w y v := by
  cases h with
  | agg xs cs hl hr =>
    refine ⟨cs, rfl, fun i y hy => ?_⟩
    simp only [AV.cells] at hy
    have hlt := (List.getElem?_eq_some_iff.1 hy).1
    have hc : cs[i]? = some (cs[i]'(by omega)) := by simp [show i < cs.size by omega]
    exact ⟨_, hc, hr i y _ hy hc⟩
  | r h0 =>
    cases h0 with
    | agg xs cs hl hr =>
      refine ⟨cs, rfl, fun i y hy => ?_⟩
      simp only [AV.cells, List.getElem?_map, Option.map_eq_some_iff] at hy
      obtain ⟨z, hz, rfl⟩ := hy
      have hlt := (List.getElem?_eq_some_iff.1 hz).1
      have hc : cs[i]? = some (cs[i]'(by omega)) := by simp [show i < cs.size by omega]
      exact ⟨_, hc, .r (hr i z _ hz hc)⟩
    | _ => cases ha
  | _ => cases ha
theorem run_part_scalar {t : TypeId} {k : Nat} (ht : isDesc P t (kindIs k) = true) {xs : Array Value} {off : Nat} {v : Value} (hx : xs[off]? = some v) : (part t xs off).run P w = .ok v w := by
  unfold isDesc at ht
  split at ht
  · rename_i d hu
    cases d <;> first | (cases k <;> simp [kindIs] at ht; done) | simp [part, isAgg, run_underlying hu, hx]
  · cases ht
theorem run_eq2 {t : TypeId} {k d : Nat} (ht : isDesc P t (kindIs k) = true) {u v : AV} {b : Bool} {c c' : Value} (h : eq2 k u v = some b) (hu : RA X s ρ w u c) (hv : RA X s ρ w v c') : (Op.equalIn (d + 1) t c c').run P w = .ok b w := by
  unfold isDesc at ht
  split at ht
  · rename_i ds hd
    unfold eq2 at h
    split at h
    · split at h
      · rename_i hk
        subst hk
        cases h
        rw [inv_v hu, inv_v hv]
        cases ds <;> first | (simp [kindIs] at ht; done) | exact run_equalIn_int w d t _ _ _ _ hd
      · cases h
    · cases h
      rw [inv_v hu, inv_v hv]
      cases ds <;> first | (simp [kindIs] at ht; done) | exact run_equalIn_bool' w d t _ _ hd
    · cases h
      rw [inv_v hu, inv_v hv]
      cases ds <;> first | (simp [kindIs] at ht; done) | exact run_equalIn_string w d t _ _ hd
    · cases h
  · cases ht
theorem run_eql {d : Nat} {xs ys : Array Value} : ∀ {fs : List Go.Field} {ks : List Nat} {us vs : List AV} {k : Nat} {b : Bool}, flatF P fs ks k = true → eql ks us vs = some b →
    (∀ i u, us[i]? = some u → ∃ c, xs[k + i]? = some c ∧ RA X s ρ w u c) → (∀ i u, vs[i]? = some u → ∃ c, ys[k + i]? = some c ∧ RA X s ρ w u c) → (Op.eqFields (d + 1) xs ys fs).run P w = .ok b w
  | [], [], [], [], k, b, hf, h, hx, hy => by simp [eql] at h; subst h; simp [Op.eqFields]
  | f :: fs, k' :: ks, u :: us, v :: vs, k, b, hf, h, hx, hy => by
    simp only [flatF, Bool.and_eq_true, bne_iff_ne, ne_eq, beq_iff_eq] at hf
    obtain ⟨⟨⟨h1, h2⟩, h3⟩, h4⟩ := hf
    simp only [eql] at h
    split at h
    · rename_i p q hp hq
      cases h
      obtain ⟨c, hc, hrc⟩ := hx 0 u rfl
      obtain ⟨c', hc', hrc'⟩ := hy 0 v rfl
      have ih := run_eql (d := d) (k := k + 1) h4 hq (fun i u hu => by have := hx (i + 1) u (by simpa using hu); rwa [show k + (i + 1) = k + 1 + i by omega] at this) (fun i u hu => by have := hy (i + 1) u (by simpa using hu); rwa [show k + (i + 1) = k + 1 + i by omega] at this)
      simp only [Op.eqFields, if_pos h1, Sem.run_bind]
      rw [Nat.add_zero] at hc hc'
      rw [h2, run_part_scalar h3 hc, Result.andThen_ok, run_part_scalar h3 hc', Result.andThen_ok, run_eq2 h3 hp hrc hrc', Result.andThen_ok]
      cases p
      · simp
      · simpa using ih
    · cases h
  | [], _ :: _, us, vs, k, b, hf, h, _, _ => by cases hf
  | _ :: _, [], us, vs, k, b, hf, h, _, _ => by cases hf
  | [], [], _ :: _, vs, k, b, hf, h, _, _ => by cases h
  | [], [], [], _ :: _, k, b, hf, h, _, _ => by cases h
  | _ :: _, _ :: _, [], _, k, b, hf, h, _, _ => by cases h
  | _ :: _, _ :: _, _ :: _, [], k, b, hf, h, _, _ => by cases h
theorem see_eqa {g : Bool} (hg : g = true) {neg : Bool} {ks : List Nat} {op : BinOp} {t ty : TypeId} {x y : Operand} {u v : AV} (ho : o.op = .binOp op t x y ty) (hop : op = if neg then .neq else .eql) (ht : eqTy P t ks = true)
    (hu : RA X s ρ w u (a.eval x)) (hv : RA X s ρ w v (a.eval y)) (ha : u.isA = true) (hb : v.isA = true) (hok : (eqa1 g neg (eql ks u.cells v.cells)).1) : Sees P X a w s ρ o (eqa1 g neg (eql ks u.cells v.cells)).2 := by
  rcases he : eql ks u.cells v.cells with _ | b
  · rw [he] at hok; first | exact (hok hg).elim | exact (hok.2 hg).elim
  · simp only [eqTy, Bool.and_eq_true, Bool.not_eq_true'] at ht
    obtain ⟨⟨h1, h2⟩, h3⟩ := ht
    split at h1
    · rename_i fs hfs
      obtain ⟨cs, hc, hcs⟩ := isA_cells hu ha
      obtain ⟨cs', hc', hcs'⟩ := isA_cells hv hb
      have hfo : P.fieldsOf t = fs := by simp [Program.fieldsOf, hfs]
      have key : (Op.equal t (.agg cs) (.agg cs')).run P w = .ok b w := by
        have := run_equalIn_struct w 9999 t cs cs' (by rw [hfo]; exact hfs) h2
        rw [hfo, run_eql (d := 9998) h1 he (fun i u hu => by simpa using hcs i u hu) (fun i u hu => by simpa using hcs' i u hu)] at this
        exact this
      simp only [Sees, execOp, ho, hc, hc']
      refine ⟨_, ?_, mk_v _⟩
      subst hop
      cases neg <;> simp [binOp, key, run_eqGuard_agg w _ t x y cs cs' h3]
    · cases h1

theorem see_un {g : Bool} (hg : g = true) {op : UnOp} {t : TypeId} {x : Operand} {u : AV} (ho : o.op = .unOp op t x) (hu : RA X s ρ w u (a.eval x)) (hok : (un1 g op u).1) : Sees P X a w s ρ o (un1 g op u).2 := by
  unfold un1 at hok ⊢
  split at hok
  · have h1 := inv_v hu
    simp only [Sees, execOp, ho, h1]
    cases op <;> simp only [bad, hg, true_implies, forall_const] at hok ⊢
    all_goals first
      | first | exact (hok hg).elim | exact (hok.2 hg).elim
      | (refine ⟨_, ?_, mk_v _⟩; simp [Op.unary, Op.intArith, Op.intBits]; done)
  · have h1 := inv_v hu
    simp only [Sees, execOp, ho, h1]
    cases op <;> simp only [bad, hg, true_implies, forall_const] at hok ⊢
    all_goals first
      | first | exact (hok hg).elim | exact (hok.2 hg).elim
      | (refine ⟨_, ?_, mk_v _⟩; simp [Op.unary]; done)
  · first | exact (hok hg).elim | exact (hok.2 hg).elim

theorem see_conv {g : Bool} (hg : g = true) {k : IntKind} {t t' : TypeId} {d : TypeDesc} {x : Operand} {u : AV} (ho : o.op = .convert t t' x) (h1 : P.underlying t = some d) (h2 : P.underlying t' = some (.int k)) (hu : RA X s ρ w u (a.eval x))
    (hok : (conv1 g k u).1) : Sees P X a w s ρ o (conv1 g k u).2 := by
  unfold conv1 at hok ⊢
  split at hok
  · have h3 := inv_v hu
    simp only [Sees, execOp, ho, h3]
    refine ⟨_, ?_, mk_v _⟩
    simp [convert, run_underlying h1, run_underlying h2, Conv.intToInt]
  · first | exact (hok hg).elim | exact (hok.2 hg).elim

theorem rowAt_some {ob : Obs} {id ver : Nat} {r : Nat × RV × Bool × Bool × List RV} (h : rowAt ob id ver = some r) : ob id = some (ver, .row r.1 r.2.1 r.2.2.1 r.2.2.2.1 r.2.2.2.2) := by
  unfold rowAt at h
  split at h
  · split at h
    · rename_i h1 h2
      cases h
      rw [h1, h2]
    · cases h
  · cases h
theorem boxAt_some {ob : Obs} {id ver : Nat} {r : List AV} (h : boxAt ob id ver = some r) : ob id = some (ver, .box r) := by
  unfold boxAt at h
  split at h
  · split at h
    · rename_i h1 h2
      cases h
      rw [h1, h2]
    · cases h
  · cases h
theorem ptrAt_some {ob : Obs} {id ver : Nat} {r : Unit} (h : ptrAt ob id ver = some r) : ∃ o, ob id = some (ver, o) := by
  unfold ptrAt at h
  split at h
  · split at h
    · rename_i h1 h2
      exact ⟨_, by rw [h1, h2]⟩
    · cases h
  · split at h
    · rename_i h1 h2
      exact ⟨_, by rw [h1, h2]⟩
    · cases h
  · cases h
theorem At.live {ob : Obs} {id ver : Nat} {X : Ob → Prop} {o : Ob} (h : At ob id ver X) (ho : ob id = some (ver, o)) : X o := by
  obtain ⟨v, o', h1, h2, h3⟩ := h
  rw [h1] at ho
  cases ho
  exact h3 rfl
/-- A handle of a live row. -/
theorem inv_own {id ver lo len : Nat} {c : Value} {r : Nat × RV × Bool × Bool × List RV} (h : RA X s ρ w (.own id ver lo len) c) (hr : rowAt s.ob id ver = some r) :
    OwnRel w ρ id lo len c (.row r.1 r.2.1 r.2.2.1 r.2.2.2.1 r.2.2.2.2) := by
  cases h
  rename_i h
  exact h.live (rowAt_some hr)
theorem see_len {g : Bool} (hg : g = true) {str : Bool} {x : Operand} {u : AV} {t : TypeId} {d : TypeDesc} {c : Call} (ho : o.op = .call c) (hc : c.callee = .builtin .len) (hx : c.args = #[x]) (ht : c.argTypes = #[t]) (hd : P.underlying t = some d)
    (hs : lenOk str d = true) (hu : RA X s ρ w u (a.eval x))
    (hok : (len1 g str u s.ob).ok) : Sees P X a w s ρ o (len1 g str u s.ob).v := by
  have key : ∀ (m : Nat) (v : Value), a.eval x = v → (∀ e, d = .slice e → ∃ A k, v = .slice A m k) → (d = .string → ∃ b, v = .string b ∧ b.size = m) → Sees P X a w s ρ o (int .i64 m) := by
    intro m v hv h1 h2
    simp only [Sees, execOp, ho]
    refine ⟨_, ?_, mk_v _⟩
    unfold lenOk at hs
    split at hs
    · rename_i hd
      obtain ⟨b, rfl, rfl⟩ := h2 rfl
      simp [resolve, hc, hx, ht, hv, invoke, builtin, Builtin.len_, run_underlying hd, goInt]
    · rename_i hd
      obtain ⟨A, k, rfl⟩ := h1 _ rfl
      simp [resolve, hc, hx, ht, hv, invoke, builtin, Builtin.len_, run_underlying hd, goInt]
    · cases hs
  unfold len1 at hok ⊢
  split at hok
  · cases hu
    rename_i hu
    generalize hv : a.eval x = v at hu
    cases hu
    rename_i A cap hm b o g hc hA hr hz hg
    refine key _ _ hv (fun e he => ⟨A, cap, rfl⟩) (fun he => ?_)
    subst he
    simp only [lenOk] at hs
    have := hok.1
    rw [hs] at this
    cases this
  · have h1 := inv_v hu
    refine key _ _ h1 (fun e he => ?_) (fun he => ⟨_, rfl, rfl⟩)
    subst he
    have := hok.1
    simp only [lenOk] at hs
    rw [this] at hs
    cases hs
  · generalize hv : a.eval x = v at hu
    cases hu
    refine key 0 _ hv (fun e he => ⟨_, _, rfl⟩) (fun he => ?_)
    subst he
    simp only [lenOk] at hs
    have := hok.1
    rw [hs] at this
    cases this
  · split at hok
    · rename_i r hr
      obtain ⟨A, cap, e1, e2, e3, e4, e5⟩ := inv_own hu hr
      simp only [hr]
      refine key _ _ e1 (fun e he => ⟨_, _, rfl⟩) (fun he => ?_)
      subst he
      simp only [lenOk] at hs
      have : str = false := hok
      rw [hs] at this
      cases this
    · first | exact (hok hg).elim | exact (hok.2 hg).elim | exact hok.2.elim
  · first | exact (hok hg).elim | exact (hok.2 hg).elim | exact hok.2.elim

theorem addr_add (b o k : Nat) : (⟨b, o, none⟩ : Addr).add k = ⟨b, o + k, none⟩ := by
  unfold Addr.add; split <;> simp_all
theorem see_ia {g : Bool} (hg : g = true) {t e : TypeId} {i : TypeInfo} {sz : Nat} {z : RV} {x y : Operand} {u v : AV} (ho : o.op = .indexAddr t x y) (ht : P.underlying t = some (.slice e)) (hi : P.info? e = some i)
    (hz : i.size = sz) (hu : RA X s ρ w u (a.eval x)) (hv : RA X s ρ w v (a.eval y))
    (hok : (ia2 g sz z u v s.ob).ok) : Sees P X a w s ρ o (ia2 g sz z u v s.ob).v := by
  unfold ia2 at hok ⊢
  subst hz
  split at hok
  · rename_i sz xs k m
    have h2 := inv_v hv
    obtain ⟨rfl, h3⟩ := hok
    obtain ⟨h3, h4⟩ := h3 hg
    cases hu
    rename_i hu
    generalize hc : a.eval x = c at hu
    cases hu
    rename_i A cap hm b o' gg hcap hA hr hzz hgg
    obtain ⟨rfl, hR⟩ := hA (by omega)
    obtain ⟨mm, rfl⟩ : ∃ mm : Nat, m = (mm : Int) := ⟨m.toNat, by omega⟩
    have hlt : mm < xs.length := by omega
    simp only [Sees, execOp, ho]
    refine ⟨.pointer (some ⟨b, o' + mm * i.size, none⟩), ?_, ?_⟩
    · simp [Instr.indexAt, asIntOf, h2, hc, run_underlying ht, sizeOf, typeInfo, hi, hlt, addr_add]
    · simp only [Vs.q, Int.toNat_natCast]
      have hx : xs[mm]? = some (xs.getD mm z) := by simp [hlt]
      exact .rp _ b _ (fun j => gg mm j) hR fun j y hj => ⟨(hgg mm _ j y hx hj).1, (hgg mm _ j y hx hj).2, hr mm _ j y hx hj⟩
  · rename_i id ver lo m k q
    split at hok
    · rename_i sz' r hr
      have h2 := inv_v hv
      obtain ⟨hsz, h3⟩ := hok
      obtain ⟨h3, h4⟩ := h3 hg
      obtain ⟨A, cap, e1, e2, e3, e4, e5⟩ := inv_own hu hr
      obtain ⟨b, cs, ee, fr, f1, f2, f3, f4⟩ := e5 (by omega)
      obtain ⟨mm, rfl⟩ : ∃ mm : Nat, q = (mm : Int) := ⟨q.toNat, by omega⟩
      simp only [hr]
      simp only [Sees, execOp, ho]
      refine ⟨.pointer (some ⟨b, (lo + mm) * sz' + 0, none⟩), ?_, ?_⟩
      · have hlt : mm < m := by omega
        simp [Instr.indexAt, asIntOf, h2, e1, f2, run_underlying ht, sizeOf, typeInfo, hi, hlt, addr_add, hsz, Nat.add_mul]
      · refine .oel id ver _ 0 _ rfl ⟨ver, _, rowAt_some hr, Nat.le_refl _, fun _ => ?_⟩
        exact ⟨by rw [Int.toNat_natCast]; simp only at e4 ⊢; omega, Nat.zero_le _, b, f1, by rw [Int.toNat_natCast]⟩
    · first | exact (hok hg).elim | exact (hok.2 hg).elim | exact hok.2.elim
  · first | exact (hok hg).elim | exact (hok.2 hg).elim | exact hok.2.elim

theorem run_mm {g : Bool} (hg : g = true) {mx : Bool} : ∀ {vs : List AV} {cs : List Value} {u : AV} {c : Value}, (mmL g mx u vs).1 → RA X s ρ w u c → vs.length = cs.length → (∀ (i : Nat) (x : AV) (y : Value), vs[i]? = some x → cs[i]? = some y → RA X s ρ w x y) →
    ∃ r, (cs.foldlM (bif mx then Builtin.max2 else Builtin.min2) c).run P w = .ok r w ∧ RA X s ρ w (mmL g mx u vs).2 r
  | [], [], u, c, hok, hu, hl, h => by
    have hm : mmL g mx u [] = (True, u) := by unfold mmL; rfl
    exact ⟨c, by simp, by rw [hm]; exact hu⟩
  | v :: vs, d :: cs, u, c, hok, hu, hl, h => by
    have hv := h 0 v d rfl rfl
    unfold mmL at hok
    split at hok
    · rename_i heq
      cases heq
    · rename_i k a k' b ys heq
      cases heq
      have h1 := inv_v hu
      have h2 := inv_v hv
      subst h1; subst h2
      obtain ⟨r, g1, g2⟩   := run_mm hg (cs := cs) hok (mk_v (.int k (bif mx then max a b else min a b))) (by simpa using hl) (fun i x y hx hy => h (i + 1) x y (by simpa using hx) (by simpa using hy))
      refine ⟨r, ?_, ?_⟩
      · rw [List.foldlM_cons, Sem.run_bind]
        have : ((bif mx then Builtin.max2 else Builtin.min2) (.int k a) (.int k' b)).run P w = .ok (.int k (bif mx then max a b else min a b)) w := by
          cases mx
          · simp only [cond_false, Builtin.min2, Sem.run_pure]
            congr 2
            rw [Int.min_def]
            split <;> split <;> omega
          · simp only [cond_true, Builtin.max2, Sem.run_pure]
            congr 2
            rw [Int.max_def]
            split <;> split <;> omega
        rw [this, Result.andThen_ok]
        exact g1
      · rw [mmL]; exact g2
    · first | exact (hok hg).elim | exact (hok.2 hg).elim
  | [], _ :: _, _, _, _, _, hl, _ => by cases hl
  | _ :: _, [], _, _, _, _, hl, _ => by cases hl
theorem see_mm {g : Bool} (hg : g = true) {mx : Bool} {c : Call} {x : Operand} {ys : List Operand} {u : AV} {vs : List AV} (ho : o.op = .call c) (hc : c.callee = .builtin (if mx then .max else .min)) (hx : c.args.toList = x :: ys) (hu : RA X s ρ w u (a.eval x))
    (hl : vs.length = ys.length) (hv : ∀ (i : Nat) (v : AV) (y : Operand), vs[i]? = some v → ys[i]? = some y → RA X s ρ w v (a.eval y)) (hok : (mmL g mx u vs).1) : Sees P X a w s ρ o (mmL g mx u vs).2 := by
  obtain ⟨r, h1, h2⟩   := run_mm hg (P := P) (cs := ys.map a.eval) hok hu (by simp [hl]) (fun i x y hx hy => by
    rw [List.getElem?_map, Option.map_eq_some_iff] at hy
    obtain ⟨z, hz, rfl⟩ := hy
    exact hv i x z hx hz)
  have hargs : c.args = (x :: ys).toArray := by rw [← hx]
  refine ⟨r, ?_, h2⟩
  cases mx
  · simp only [if_false, cond_false, Bool.false_eq_true] at h1 hc
    simp [execOp, ho, resolve, hc, hargs, invoke, builtin, Builtin.min_, h1]
  · simp only [if_true, cond_true] at h1 hc
    simp [execOp, ho, resolve, hc, hargs, invoke, builtin, Builtin.max_, h1]
theorem see_iaa {g : Bool} (hg : g = true) {t e : TypeId} {i : TypeInfo} {n sz : Nat} {x y : Operand} {u v : AV} (ho : o.op = .indexAddr t x y) (ht : P.underlying t = some (.array n e)) (hi : P.info? e = some i)
    (hz : i.size = sz) (hu : RA X s ρ w u (a.eval x)) (hv : RA X s ρ w v (a.eval y)) (hok : (iaa2 g n sz u v s.ob).ok) : Sees P X a w s ρ o (iaa2 g n sz u v s.ob).v := by
  subst hz
  have key : ∀ b o' k (m : Int), a.eval x = .pointer (some ⟨b, o', none⟩) → a.eval y = .int k m → 0 ≤ m → m < n → (execOp a.eval o).run P w = .ok (.value (.pointer (some ⟨b, o' + m.toNat * i.size, none⟩))) w := by
    intro b o' k m hx hy h0 h1
    simp [execOp, ho, hx, hy, Instr.indexAt, asIntOf, run_underlying ht, Instr.sureAddr, sizeOf, typeInfo, hi, addr_add, h0, h1]
  unfold iaa2 at hok ⊢
  split at hok
  · rename_i id ver o' k m
    split at hok
    · rename_i r hr
      have hb := boxAt_some hr
      have h2 := inv_v hv
      cases hu
      rename_i h
      obtain ⟨b, hρ, hc⟩ := h.live hb
      simp only [hr]
      exact ⟨_, key b _ k m hc h2 (hok hg).1 (hok hg).2, .ptr _ _ _ _ rfl ⟨_, _, hb, Nat.le_refl _, fun _ => ⟨b, hρ, rfl⟩⟩⟩
    · first | exact (hok hg).elim | exact (hok.2 hg).elim | exact hok.2.elim
  · rename_i id ver idx o' k m
    split at hok
    · rename_i sz' r hr
      have hb := rowAt_some hr
      have h2 := inv_v hv
      cases hu
      rename_i h
      obtain ⟨hidx, hoff, b, hρ, hc⟩ := h.live hb
      simp only [hr]
      obtain ⟨h3, h4, h5⟩ := hok hg
      refine ⟨_, key b _ k m hc h2 h3 h4, .oel _ _ _ _ _ rfl ⟨_, _, hb, Nat.le_refl _, fun _ => ⟨hidx, ?_, b, hρ, ?_⟩⟩⟩
      · have : m.toNat * i.size ≤ n * i.size := Nat.mul_le_mul_right _ (by omega)
        simp only
        omega
      · rw [Nat.add_assoc]
    · first | exact (hok hg).elim | exact (hok.2 hg).elim | exact hok.2.elim
  · rename_i ys k m
    have h2 := inv_v hv
    generalize hc : a.eval x = c at hu
    cases hu
    rename_i b o' f hR hf
    obtain ⟨_, h3⟩ := hok
    refine ⟨_, key b o' k m hc h2 (h3 hg).1 (h3 hg).2, .rp _ b _ (fun j => f (m.toNat * i.size + j)) hR fun j y hj => ?_⟩
    rw [List.getElem?_drop] at hj
    have := hf (m.toNat * i.size + j) y hj
    rw [← Nat.add_assoc] at this
    exact this
  · first | exact (hok hg).elim | exact (hok.2 hg).elim | exact hok.2.elim

def sub64Entry : Array Value → Sem Value := fun args => do
  let (x, y, b) ← Extern.MathBitsCarry.three "Sub64" args
  pure (Extern.MathBitsCarry.pair ((x + Extern.MathBitsCarry.m64 - y - b) % Extern.MathBitsCarry.m64) (if x < y + b then 1 else 0))
theorem run_sub64 (x y b : Nat) (hb : b ≤ 1) (w : World) :
    (sub64Entry #[.int .u64 x, .int .u64 y, .int .u64 b]).run P w =
      .ok (.tuple #[.int .u64 (((x + 18446744073709551616 - y - b) % 18446744073709551616 : Nat) : Int), .int .u64 ((if x < y + b then 1 else 0 : Nat) : Int)]) w := by
  have : b = 0 ∨ b = 1 := by omega
  rcases this with rfl | rfl <;> rfl
theorem carry_find {sub : Bool} {fn : Func} (hn : fn.name = if sub then "math/bits.Sub64" else "math/bits.Add64") (ho : fn.origin = "" ∨ fn.origin = fn.name) :
    Extern.findNext fn = none ∧ Extern.find fn = some (if sub then sub64Entry else add64Entry) ∧ (fn.name == "runtime.NumGoroutine") = false := by
  have hr : fn.origin = "" ∨ fn.origin = if sub then "math/bits.Sub64" else "math/bits.Add64" := by rw [← hn]; exact ho
  unfold Extern.findNext Extern.find
  rw [hn]
  cases sub <;> simp only [if_true, if_false, Bool.false_eq_true] at hr ⊢
  · have h1 : Extern.allGenericRows.lookup "math/bits.Add64" = none := by kernel_rfl
    have h2 : Extern.allTypedRows.lookup "math/bits.Add64" = none := by kernel_rfl
    have h3 : Extern.allRows.lookup "math/bits.Add64" = some add64Entry := by kernel_rfl
    have h4 : Extern.allNextRows.lookup "math/bits.Add64" = none := by kernel_rfl
    have h5 : Extern.allNextRows.lookup "" = none := by kernel_rfl
    refine ⟨?_, ?_, by decide⟩
    · rcases hr with hr | hr <;> simp [hr, h4, h5]
    · simp [h1, h2, h3]
  · have h1 : Extern.allGenericRows.lookup "math/bits.Sub64" = none := by kernel_rfl
    have h2 : Extern.allTypedRows.lookup "math/bits.Sub64" = none := by kernel_rfl
    have h3 : Extern.allRows.lookup "math/bits.Sub64" = some sub64Entry := by kernel_rfl
    have h4 : Extern.allNextRows.lookup "math/bits.Sub64" = none := by kernel_rfl
    have h5 : Extern.allNextRows.lookup "" = none := by kernel_rfl
    refine ⟨?_, ?_, by decide⟩
    · rcases hr with hr | hr <;> simp [hr, h4, h5]
    · simp [h1, h2, h3]
theorem see_carry {g : Bool} (hg : g = true) {sub : Bool} {c : Call} {f : FuncId} {x y z : Operand} {u v t : AV} (ho : o.op = .call c) (hc : c.callee = .value (.func f)) (hf : isCarry P sub f = true) (hx : c.args.toList = [x, y, z])
    (hu : RA X s ρ w u (a.eval x)) (hv : RA X s ρ w v (a.eval y)) (ht : RA X s ρ w t (a.eval z)) (hok : (carry3 g sub u v t).1) : Sees P X a w s ρ o (carry3 g sub u v t).2 := by
  unfold carry3 at hok ⊢
  split at hok
  · rename_i p q r
    have h1 := inv_v hu
    have h2 := inv_v hv
    have h3 := inv_v ht
    obtain ⟨k1, k2, k3, k4, k5, k6⟩ := hok hg
    have hargs : c.args = #[x, y, z] := by rw [show c.args = c.args.toList.toArray by simp, hx]
    unfold isCarry at hf
    split at hf
    · rename_i fn hfn
      simp only [Bool.and_eq_true, Bool.or_eq_true, beq_iff_eq] at hf
      obtain ⟨⟨f1, f2⟩, f3⟩ := hf
      obtain ⟨e1, e2, e3⟩ := carry_find f2 f3
      have hcall := fun args w => run_callFunc_extern (P := P) hfn e3 f1 e1 e2 args w
      have hrun : (execOp a.eval o).run P w = (((if sub then sub64Entry else add64Entry) #[.int .u64 p, .int .u64 q, .int .u64 r]).run P w).andThen (fun v w' => Result.ok (Next.value v) w') := by
        have hmap : c.args.map a.eval = #[.int .u64 p, .int .u64 q, .int .u64 r] := by rw [hargs, ← h1, ← h2, ← h3]; simp
        rw [← hcall, ← hmap]
        simp [execOp, ho, resolve, hc, Act.eval, Deferred.ofValue, invoke]
        try rfl
      cases sub
      · simp only [if_false, Bool.false_eq_true] at hrun
        rw [run_add64 p q r k1 k2 k3 k4, Result.andThen_ok] at hrun
        refine ⟨_, hrun, .tup _ _ rfl fun i x c hx hc => ?_⟩
        rcases i with _ | _ | i
        · simp at hx hc; subst hx; subst hc; exact mk_v _
        · simp at hx hc; subst hx; subst hc; exact mk_v _
        · simp at hx
      · simp only [if_true] at hrun
        obtain ⟨p, rfl⟩ := Int.eq_ofNat_of_zero_le k1
        obtain ⟨q, rfl⟩ := Int.eq_ofNat_of_zero_le k2
        obtain ⟨r, rfl⟩ := Int.eq_ofNat_of_zero_le k3
        have hrun2 := hrun
        rw [run_sub64 p q r (by omega), Result.andThen_ok] at hrun2
        refine ⟨_, hrun2, .tup _ _ rfl fun i x c hx hc => ?_⟩
        rcases i with _ | _ | i
        · simp only [List.getElem?_toArray, List.getElem?_cons_zero, Option.some.injEq] at hx hc
          subst hx; subst hc
          have : (((p + 18446744073709551616 - q - r) % 18446744073709551616 : Nat) : Int) = ((p : Int) + 18446744073709551616 - q - r) % 18446744073709551616 := by omega
          rw [this]
          exact mk_v _
        · simp only [List.getElem?_toArray, List.getElem?_cons_zero, List.getElem?_cons_succ, Option.some.injEq] at hx hc
          subst hx; subst hc
          have : ((if p < q + r then 1 else 0 : Nat) : Int) = if (p : Int) < q + r then 1 else 0 := by split <;> split <;> omega
          rw [← this]
          exact mk_v _
        · simp at hx
    · cases hf
  · first | exact (hok hg).elim | exact (hok.2 hg).elim

theorem see_ixs {g : Bool} (hg : g = true) {t : TypeId} {x y : Operand} {u v : AV} (ho : o.op = .index t x y) (ht : P.underlying t = some .string)
    (hu : RA X s ρ w u (a.eval x)) (hv : RA X s ρ w v (a.eval y)) (hok : (ixs2 g u v).1) : Sees P X a w s ρ o (ixs2 g u v).2 := by
  unfold ixs2 at hok ⊢
  split at hok
  · rename_i b k m
    have h1 := inv_v hu
    have h2 := inv_v hv
    obtain ⟨h3, h4⟩ := hok hg
    obtain ⟨mm, rfl⟩ : ∃ mm : Nat, m = (mm : Int) := ⟨m.toNat, by omega⟩
    have hlt : mm < b.size := by omega
    simp only [Sees, execOp, ho]
    refine ⟨_, ?_, mk_v _⟩
    have hb : b[mm]? = some (b.data.toList.getD mm 0) := by
      have h5 : mm < b.data.size := hlt
      have h6 : b[mm]? = some (b[mm]'hlt) := getElem?_pos b mm hlt
      rw [h6]
      simp only [List.getD_eq_getElem?_getD, Array.getElem?_toList]
      rw [Array.getElem?_eq_getElem h5]
      rfl
    simp [Instr.index, asIntOf, h1, h2, run_underlying ht, hb]
  · first | exact (hok hg).elim | exact (hok.2 hg).elim

theorem see_nck {g : Bool} (hg : g = true) {x : Operand} {u : AV} (ho : o.op = .nilCheck x) (hu : RA X s ρ w u (a.eval x)) (hok : (nck1 g u s.ob).ok) : Sees P X a w s ρ o (nck1 g u s.ob).v := by
  unfold nck1 at hok ⊢
  split at hok
  · split at hok
    · rename_i r hr
      have hu' := hu
      cases hu
      rename_i h
      obtain ⟨o', ho'⟩ := ptrAt_some hr
      obtain ⟨b, _, hc⟩ := h.live ho'
      simp only [Sees, execOp, ho, hc, hr]
      exact ⟨_, rfl, by rw [← hc]; exact hu'⟩
    · first | exact (hok hg).elim | exact (hok.2 hg).elim | exact hok.2.elim
  · split at hok
    · rename_i r hr
      have hu' := hu
      cases hu
      rename_i h
      obtain ⟨_, _, b, _, hc⟩ := h.live (rowAt_some hr)
      simp only [Sees, execOp, ho, hc, hr]
      exact ⟨_, rfl, by rw [← hc]; exact hu'⟩
    · first | exact (hok hg).elim | exact (hok.2 hg).elim | exact hok.2.elim
  · have hu' := hu
    generalize hc : a.eval x = c at hu hu'
    cases hu
    simp only [Sees, execOp, ho, hc]
    exact ⟨_, rfl, hu'⟩
  · have hu' := hu
    generalize hc : a.eval x = c at hu hu'
    cases hu
    simp only [Sees, execOp, ho, hc]
    exact ⟨_, rfl, hu'⟩
  · first | exact (hok hg).elim | exact (hok.2 hg).elim | exact hok.2.elim

/-- Cells that stand in a row are loaded. -/
theorem run_cells (b o : Nat) (cs : List Value) (h : ∀ j v, cs[j]? = some v → w.cell? ⟨b, o + j, none⟩ = some v) : (loadCells ⟨b, o, none⟩ cs.length).run P w = .ok cs.toArray w :=
  run_loadCells_list w ⟨b, o, none⟩ cs fun j v hv => by rw [addr_add]; exact h j v hv
/-- A load of whole cells: the value of a scalar, or of a struct. -/
theorem run_ld {t : TypeId} {m : Option Nat} (ht : aggN P t m = true) (b o : Nat) (cs : List Value) (hn : cs.length = m.getD 1) (h : ∀ j v, cs[j]? = some v → w.cell? ⟨b, o + j, none⟩ = some v) :
    (Instr.loadAt t (.pointer (some ⟨b, o, none⟩))).run P w = .ok (match m with | none => cs.getD 0 undef | some _ => .agg cs.toArray) w := by
  unfold aggN at ht
  split at ht
  · rename_i fs i hu hi
    have : m = some i.size := by simpa using ht
    subst this
    have hl := run_cells (P := P) b o cs h
    simp only [Option.getD_some] at hn
    rw [hn] at hl
    simp [Instr.loadAt, Instr.sureAddr, loadVar, isAgg, run_underlying hu, sizeOf, typeInfo, hi, hl]
  · rename_i k e i hu hi
    have : m = some i.size := by simpa using ht
    subst this
    have hl := run_cells (P := P) b o cs h
    simp only [Option.getD_some] at hn
    rw [hn] at hl
    simp [Instr.loadAt, Instr.sureAddr, loadVar, isAgg, run_underlying hu, sizeOf, typeInfo, hi, hl]
  · rename_i d i h1 h2 hu hi
    have : m = none := by simpa using ht
    subst this
    simp only [Option.getD_none] at hn
    obtain ⟨c, rfl⟩ := List.length_eq_one_iff.1 hn
    have hc := h 0 c rfl
    simp only [Nat.add_zero] at hc
    have hag : (isAgg t).run P w = .ok false w := by
      simp only [isAgg, Sem.run_bind, run_underlying hu, Result.andThen_ok]
      rfl
    simp [Instr.loadAt, Instr.sureAddr, loadVar, hag, hc]
  · cases ht
theorem see_ext {g : Bool} (hg : g = true) {i : Nat} {x : Operand} {u : AV} (ho : o.op = .extract x i) (hu : RA X s ρ w u (a.eval x)) (hok : (ext1 g i u).1) : Sees P X a w s ρ o (ext1 g i u).2 := by
  unfold ext1 at hok ⊢
  split at hok
  · rename_i xs
    generalize hc : a.eval x = c at hu
    cases hu
    rename_i cs hl h
    have hlt : i < cs.size := by omega
    simp only [Sees, execOp, ho, hc]
    refine ⟨cs[i], ?_, h i _ _ ?_ (by simp [hlt])⟩
    · simp [Instr.extract, hlt]
    · have hh : i < xs.length := hok
      simp [hh]
  · first | exact (hok hg).elim | exact (hok.2 hg).elim

/-- Cells of values that stand, as a list. -/
theorem cells_of {ys : List RV} {b o : Nat} {g : Nat → Value} (hg : ∀ (j : Nat) (y : RV), ys[j]? = some y → w.cell? ⟨b, o + j, none⟩ = some (g j)) :
    ((List.range ys.length).map g).length = ys.length ∧ ∀ j v, ((List.range ys.length).map g)[j]? = some v → w.cell? ⟨b, o + j, none⟩ = some v := by
  refine ⟨by simp, fun j v hj => ?_⟩
  rw [List.getElem?_map, Option.map_eq_some_iff] at hj
  obtain ⟨k, hk, rfl⟩ := hj
  obtain ⟨hk1, hk2⟩ := List.getElem?_eq_some_iff.1 hk
  rw [List.getElem_range] at hk2
  subst hk2
  rw [List.length_range] at hk1
  exact hg j ys[j] (by simp [hk1])

theorem see_rp {m : Option Nat} {t : TypeId} {x : Operand} {ys : List RV} {b o' : Nat} {f : Nat → Value} {R : Nat → Prop} (ho : o.op = .load t x) (ht : aggN P t m = true) (hx : a.eval x = .pointer (some ⟨b, o', none⟩))
    (hg : ∀ (j : Nat) (y : RV), ys[j]? = some y → w.cell? ⟨b, o' + j, none⟩ = some (f j) ∧ (f j).oneCell' = true ∧ RelV w R y (f j)) (hm : m.getD 1 ≤ ys.length) :
    ∃ c, (execOp a.eval o).run P w = .ok (.value c) w ∧ RelV w R (match m with | none => ys.getD 0 (.v (.bool false)) | some k => .agg (ys.take k)) c := by
  obtain ⟨h1, h2⟩ := cells_of (ys := ys.take (m.getD 1)) (w := w) (b := b) (o := o') (g := f) fun j y hj => by
    rw [List.getElem?_take] at hj
    split at hj
    · exact (hg j y hj).1
    · cases hj
  rw [List.length_take, Nat.min_eq_left hm] at h1 h2
  have hr := run_ld ht b o' _ h1 h2
  simp only [execOp, ho, hx]
  refine ⟨_, by simp only [Sem.run_bind, hr, Result.andThen_ok]; rfl, ?_⟩
  cases m with
  | none =>
    simp only [Option.getD_none] at hm ⊢
    have : ys[0]? = some (ys.getD 0 (.v (.bool false))) := by simp [show 0 < ys.length by omega]
    have := (hg 0 _ this).2.2
    simpa using this
  | some k =>
    simp only [Option.getD_some] at hm ⊢
    refine .agg _ _ (by simp; omega) fun i x c hx hc => ?_
    rw [List.getElem?_take] at hx
    split at hx
    · rename_i hik
      have hc' : c = f i := by
        simp [hik] at hc
        exact hc.symm
      subst hc'
      exact (hg i x hx).2.2
    · cases hx

theorem ob_of (hG : Gam X s ρ a w) {id ver : Nat} {ob : Ob} (h : s.ob id = some (ver, ob)) : ObRel w (Free X.B s.ob ρ w) s.ob ρ id ob := hG.obj id ver ob h

theorem see_ld {g : Bool} (hg : g = true) {m : Option Nat} {t : TypeId} {x : Operand} {u : AV} (hG : Gam X s ρ a w) (ho : o.op = .load t x) (ht : aggN P t m = true) (hu : RA X s ρ w u (a.eval x))
    (hok : (ld1 g m u s.ob).ok) : Sees P X a w s ρ o (ld1 g m u s.ob).v := by
  unfold ld1 at hok ⊢
  split at hok
  · rename_i id ver off
    unfold ldb at hok ⊢
    split at hok
    · rename_i cells hr
      have hb := boxAt_some hr
      cases hu
      rename_i h
      obtain ⟨b, hρ, hc⟩ := h.live hb
      obtain ⟨b', cs, e, hρ', hh, hsz, hrel⟩ := ob_of hG hb
      rw [hρ] at hρ'
      cases hρ'
      have hcell : ∀ j, w.cell? ⟨b, j, none⟩ = cs[j]? := fun j => by simp [World.cell?, hh]
      cases m with
      | none =>
        have hlt : off < cells.length := hok hg
        have hx : cs[off]? = some cs[off] := by simp [show off < cs.size by omega]
        have hr2 := run_ld (P := P) (w := w) ht b off [cs[off]] rfl fun j v hj => by
          cases j with
          | zero => simp at hj; subst hj; rw [hcell]; simpa using hx
          | succ j => simp at hj
        simp only [Sees, execOp, ho, hc]
        refine ⟨_, by simp only [Sem.run_bind, hr2, Result.andThen_ok]; rfl, ?_⟩
        simp only [List.getD_cons_zero]
        exact hrel off _ _ (by simp [hlt]) hx
      | some k =>
        have hlt : off + k ≤ cells.length := hok hg
        have hr2 := run_ld (P := P) (w := w) ht b off ((cs.toList.drop off).take k) (by simp; omega) fun j v hj => by
          rw [List.getElem?_take] at hj
          split at hj
          · rw [List.getElem?_drop] at hj
            rw [hcell]
            simpa using hj
          · cases hj
        simp only [Sees, execOp, ho, hc]
        refine ⟨_, by simp only [Sem.run_bind, hr2, Result.andThen_ok]; rfl, ?_⟩
        refine .agg _ _ (by simp; omega) fun i x c hx hc2 => ?_
        rw [List.getElem?_take] at hx
        split at hx
        · rename_i hik
          rw [List.getElem?_drop] at hx
          refine hrel (off + i) x c hx ?_
          simp only [List.getElem?_toArray, List.getElem?_take, hik, if_true, List.getElem?_drop] at hc2
          simpa using hc2
        · cases hx
    · first | exact (hok hg).elim | exact (hok.2 hg).elim | exact hok.2.elim
  · rename_i id ver idx off
    unfold ldr at hok ⊢
    split at hok
    · rename_i sz z app wr xs hr
      have hb := rowAt_some hr
      cases hu
      rename_i h
      obtain ⟨hidx, hoff, b, hρ, hc⟩ := h.live hb
      simp only at hidx hoff
      have hoR := ob_of hG hb
      simp only [ObRel] at hoR
      rcases hoR with ⟨hnil, _⟩ | ⟨b', cs, e, fr, hρ', hh, hfr, happ, hsz, hel⟩
      · rw [hnil] at hidx; simp at hidx
      · rw [hρ] at hρ'
        cases hρ'
        have hx : xs[idx]? = some (xs.getD idx z) := by simp [hidx]
        obtain ⟨hl, hcl⟩ := hel idx _ hx
        generalize xs.getD idx z = y at hl hcl ⊢
        have hcell : ∀ j, w.cell? ⟨b, j, none⟩ = cs[j]? := fun j => by simp [World.cell?, hh]
        have hkey : ∃ f : Nat → Value, ∀ (j : Nat) (q : RV), (y.cells.drop off)[j]? = some q → w.cell? ⟨b, idx * sz + off + j, none⟩ = some (f j) ∧ (f j).oneCell' = true ∧ RelV w (Free X.B s.ob ρ w) q (f j) := by
          refine ⟨fun j => (cs[idx * sz + (off + j)]?).getD undef, fun j q hj => ?_⟩
          rw [List.getElem?_drop] at hj
          obtain ⟨c, h1, h2, h3⟩ := hcl _ q hj
          simp only [h1, Option.getD_some]
          refine ⟨?_, h2, h3⟩
          rw [hcell, Nat.add_assoc, h1]
        obtain ⟨f, hf⟩ := hkey
        have hm : m.getD 1 ≤ (y.cells.drop off).length := by
          rw [List.length_drop, hl]
          cases m with
          | none => have : off < sz := hok hg; simp only [Option.getD_none]; omega
          | some k => have : off + k ≤ sz := hok hg; simp only [Option.getD_some]; omega
        obtain ⟨c, h1, h2⟩ := see_rp (P := P) (a := a) ho ht hc hf hm
        refine ⟨c, h1, ?_⟩
        cases m with
        | none =>
          refine .r ?_
          simpa using h2
        | some k => exact .r h2
    · first | exact (hok hg).elim | exact (hok.2 hg).elim | exact hok.2.elim
  · rename_i ys
    generalize hc : a.eval x = c at hu
    cases hu
    rename_i b o' f hR hf
    have hm : m.getD 1 ≤ ys.length := by
      cases m with
      | none => have : 0 < ys.length := hok.2 hg; simp only [Option.getD_none]; omega
      | some k => have : k ≤ ys.length := hok.2 hg; simpa using this
    obtain ⟨c, h1, h2⟩ := see_rp (P := P) (a := a) ho ht hc hf hm
    refine ⟨c, h1, ?_⟩
    cases m with
    | none => exact .r h2
    | some k => exact .r h2
  · cases m <;> first | exact (hok hg).elim | exact (hok.2 hg).elim | exact hok.2.elim

theorem see_fa {g : Bool} (hg : g = true) {t : TypeId} {k off : Nat} {x : Operand} {u : AV} {fs : Array Go.Field} {fd : Go.Field} {i : TypeInfo} (ho : o.op = .fieldAddr t x k) (h1 : P.underlying t = some (.struct fs)) (h2 : fs[k]? = some fd)
    (h3 : P.info? fd.type = some i) (h4 : fd.offset = off) (h5 : i.size ≠ 0) (hu : RA X s ρ w u (a.eval x)) (hok : (fa1 g off u s.ob).ok) : Sees P X a w s ρ o (fa1 g off u s.ob).v := by
  have key : ∀ b o', a.eval x = .pointer (some ⟨b, o', none⟩) → (execOp a.eval o).run P w = .ok (.value (.pointer (some ⟨b, o' + off, none⟩))) w := by
    intro b o' hx
    simp [execOp, ho, hx, Instr.fieldAt, run_underlying h1, h2, Instr.sureAddr, fieldPlace, sizeOf, typeInfo, h3, h5, addr_add, h4]
  unfold fa1 at hok ⊢
  split at hok
  · split at hok
    · rename_i r hr
      have hb := boxAt_some hr
      cases hu
      rename_i h
      obtain ⟨b, hρ, hc⟩ := h.live hb
      simp only [hr]
      exact ⟨_, key b _ hc, .ptr _ _ _ _ rfl ⟨_, _, hb, Nat.le_refl _, fun _ => ⟨b, hρ, rfl⟩⟩⟩
    · first | exact (hok hg).elim | exact (hok.2 hg).elim | exact hok.2.elim
  · split at hok
    · rename_i sz r hr
      have hb := rowAt_some hr
      cases hu
      rename_i h
      obtain ⟨hidx, hoff, b, hρ, hc⟩ := h.live hb
      simp only [hr]
      refine ⟨_, key b _ hc, .oel _ _ _ _ _ rfl ⟨_, _, hb, Nat.le_refl _, fun _ => ⟨hidx, hok hg, b, hρ, ?_⟩⟩⟩
      rw [Nat.add_assoc]
    · first | exact (hok hg).elim | exact (hok.2 hg).elim | exact hok.2.elim
  · generalize hc : a.eval x = c at hu
    cases hu
    rename_i b o' f hR hf
    refine ⟨_, key b o' hc, .rp _ b _ (fun j => f (off + j)) hR fun j y hj => ?_⟩
    rw [List.getElem?_drop] at hj
    have := hf (off + j) y hj
    rw [← Nat.add_assoc] at this
    exact this
  · first | exact (hok hg).elim | exact (hok.2 hg).elim | exact hok.2.elim

def ldv (cs : Array Value) (off : Nat) : Option Nat → Value
  | none => cs.getD off undef
  | some k => .agg (cs.extract off (off + k))
theorem run_part {t : TypeId} {m : Option Nat} (ht : aggN P t m = true) (cs : Array Value) (off : Nat) (hlen : off + m.getD 1 ≤ cs.size) :
    (part t cs off).run P w = .ok (ldv cs off m) w := by
  unfold aggN at ht
  split at ht
  · rename_i fs i hu hi
    have : m = some i.size := by simpa using ht
    subst this
    simp [part, isAgg, run_underlying hu, sizeOf, typeInfo, hi, ldv]
  · rename_i k e i hu hi
    have : m = some i.size := by simpa using ht
    subst this
    simp [part, isAgg, run_underlying hu, sizeOf, typeInfo, hi, ldv]
  · rename_i d i h1 h2 hu hi
    have : m = none := by simpa using ht
    subst this
    simp only [Option.getD_none] at hlen
    have hag : (isAgg t).run P w = .ok false w := by
      simp only [isAgg, Sem.run_bind, run_underlying hu, Result.andThen_ok]
      rfl
    simp [part, hag, show off < cs.size by omega, ldv]
  · cases ht

theorem see_fld {g : Bool} (hg : g = true) {t : TypeId} {k off : Nat} {m : Option Nat} {x : Operand} {u : AV} {fs : Array Go.Field} {fd : Go.Field} (ho : o.op = .field t x k) (h1 : P.underlying t = some (.struct fs)) (h2 : fs[k]? = some fd)
    (h4 : fd.offset = off) (h5 : aggN P fd.type m = true) (hu : RA X s ρ w u (a.eval x)) (hok : (fld1 g off m u).1) : Sees P X a w s ρ o (fld1 g off m u).2 := by
  subst h4
  unfold fld1 at hok ⊢
  split at hok
  · rename_i xs
    generalize hc : a.eval x = c at hu
    cases hu
    rename_i cs hl h
    have hlen : fd.offset + m.getD 1 ≤ cs.size := by
      cases m with
      | none => have : fd.offset < xs.length := hok hg; simp only [Option.getD_none]; omega
      | some q => have : fd.offset + q ≤ xs.length := hok hg; simp only [Option.getD_some]; omega
    have hr := run_part (P := P) (w := w) h5 cs fd.offset hlen
    have hrun : (execOp a.eval o).run P w = .ok (.value (ldv cs fd.offset m)) w := by
      simp only [execOp, ho, hc, Instr.field, Sem.run_bind, run_underlying h1, Result.andThen_ok, h2, asAgg, Sem.run_pure, hr]
    refine ⟨_, hrun, ?_⟩
    cases m with
    | none =>
      simp only [Option.getD_none] at hlen
      simp only
      exact h fd.offset _ _ (by simp [show fd.offset < xs.length by omega]) (by simp [show fd.offset < cs.size by omega, ldv])
    | some q =>
      simp only [Option.getD_some] at hlen
      simp only
      refine .agg _ _ (by simp; omega) fun i y c hy hc2 => ?_
      rw [List.getElem?_take] at hy
      split at hy
      · rename_i hik
        rw [List.getElem?_drop] at hy
        refine h (fd.offset + i) y c hy ?_
        rw [Array.getElem?_extract] at hc2
        split at hc2
        · exact hc2
        · cases hc2
      · cases hy
  · rename_i xs
    generalize hc : a.eval x = c at hu
    cases hu
    rename_i hu
    cases hu
    rename_i cs hl h
    have hlen : fd.offset + m.getD 1 ≤ cs.size := by
      cases m with
      | none => have : fd.offset < xs.length := hok hg; simp only [Option.getD_none]; omega
      | some q => have : fd.offset + q ≤ xs.length := hok hg; simp only [Option.getD_some]; omega
    have hr := run_part (P := P) (w := w) h5 cs fd.offset hlen
    have hrun : (execOp a.eval o).run P w = .ok (.value (ldv cs fd.offset m)) w := by
      simp only [execOp, ho, hc, Instr.field, Sem.run_bind, run_underlying h1, Result.andThen_ok, h2, asAgg, Sem.run_pure, hr]
    refine ⟨_, hrun, ?_⟩
    cases m with
    | none =>
      simp only [Option.getD_none] at hlen
      simp only
      exact .r (h fd.offset _ _ (by simp [show fd.offset < xs.length by omega]) (by simp [show fd.offset < cs.size by omega, ldv]))
    | some q =>
      simp only [Option.getD_some] at hlen
      simp only
      refine .r (.agg _ _ (by simp; omega) fun i y c hy hc2 => ?_)
      rw [List.getElem?_take] at hy
      split at hy
      · rename_i hik
        rw [List.getElem?_drop] at hy
        refine h (fd.offset + i) y c hy ?_
        rw [Array.getElem?_extract] at hc2
        split at hc2
        · exact hc2
        · cases hc2
      · cases hy
  · first | exact (hok hg).elim | exact (hok.2 hg).elim

def RAO (X : Cx) (s : St) (ρ : Pl → Option Nat) (w : World) (a : Act) : Option Operand → Option AV → Prop
  | none, none => True
  | some x, some v => RA X s ρ w v (a.eval x)
  | _, _ => False
theorem inv_bnd {d i : Int} {x : Option Operand} {v : Option AV} (h : bnd d v = some i) (hx : RAO X s ρ w a x v) :
    (x = none ∧ v = none ∧ i = d) ∨ ∃ x' k, x = some x' ∧ a.eval x' = .int k i := by
  unfold bnd at h
  split at h
  · cases x with
    | none => exact .inl ⟨rfl, rfl, by cases h; rfl⟩
    | some x => exact hx.elim
  · cases x with
    | none => exact hx.elim
    | some x => cases h; exact .inr ⟨x, _, rfl, inv_v hx⟩
  · cases h

theorem see_sls {g : Bool} (hg : g = true) {t : TypeId} {x : Operand} {lo hi : Option Operand} {u : AV} {l h : Option AV} (ho : o.op = .slice t x lo hi none) (ht : P.underlying t = some .string) (hu : RA X s ρ w u (a.eval x))
    (hl : RAO X s ρ w a lo l) (hh : RAO X s ρ w a hi h)
    (hok : (sls3 g u l h).1) : Sees P X a w s ρ o (sls3 g u l h).2 := by
  unfold sls3 at hok ⊢
  split at hok
  · rename_i b
    have h1 := inv_v hu
    split at hok
    · rename_i i j hi1 hj1
      obtain ⟨e1, e2, e3⟩ := hok hg
      simp only [Sees, execOp, ho]
      refine ⟨_, ?_, mk_v _⟩
      have hb1 := inv_bnd hi1 hl
      have hb2 := inv_bnd hj1 hh
      obtain ⟨ii, rfl⟩ : ∃ ii : Nat, i = (ii : Int) := ⟨i.toNat, by omega⟩
      obtain ⟨jj, rfl⟩ : ∃ jj : Nat, j = (jj : Int) := ⟨j.toNat, by omega⟩
      have e2' : ii ≤ jj := by omega
      have e3' : jj ≤ b.size := by omega
      rcases hb1 with ⟨rfl, rfl, hi0⟩ | ⟨x1, k1, rfl, hx1⟩ <;> rcases hb2 with ⟨rfl, rfl, hj0⟩ | ⟨x2, k2, rfl, hx2⟩
      · have : ii = 0 := by omega
        have : jj = b.size := by omega
        subst this; subst ii
        simp [Instr.sliceAt, run_underlying ht, Instr.slice, h1, Instr.sliceBounds]
      · have : ii = 0 := by omega
        subst ii
        simp [Instr.sliceAt, run_underlying ht, Instr.slice, h1, Instr.sliceBounds, Instr.sliceBound, hx2, asIntOf, e3']
      · have : jj = b.size := by omega
        subst this
        simp [Instr.sliceAt, run_underlying ht, Instr.slice, h1, Instr.sliceBounds, Instr.sliceBound, hx1, asIntOf, e2']
      · simp [Instr.sliceAt, run_underlying ht, Instr.slice, h1, Instr.sliceBounds, Instr.sliceBound, hx1, hx2, asIntOf, e2', e3']
    · first | exact (hok hg).elim | exact (hok.2 hg).elim
  · first | exact (hok hg).elim | exact (hok.2 hg).elim

/-- A slice of a slice value, its bounds within its length. -/
theorem run_sll {t e : TypeId} {inf : TypeInfo} {x : Operand} {lo hi mx : Option Operand} {l h m : Option AV} {i j q : Int} {A : Option Addr} {len cap : Nat} (ho : o.op = .slice t x lo hi mx) (ht : P.underlying t = some (.slice e)) (hi' : P.info? e = some inf)
    (hx : a.eval x = .slice A len cap) (hlc : len ≤ cap) (hi1 : bnd 0 l = some i) (hj1 : bnd len h = some j) (hq1 : bnd len m = some q)
    (hl : RAO X s ρ w a lo l) (hh : RAO X s ρ w a hi h)
    (hm : RAO X s ρ w a mx m) (hmh : mx ≠ none → hi ≠ none) (hb : 0 ≤ i ∧ i ≤ j ∧ j ≤ q ∧ q ≤ len) :
    ∃ A' cap', (execOp a.eval o).run P w = .ok (.value (.slice A' (j - i).toNat cap')) w ∧ cap' ≤ cap - i.toNat ∧ (j - i).toNat ≤ cap' ∧ (0 < cap' → A' = A.map (·.add (i.toNat * inf.size))) := by
  obtain ⟨e1, e2, e3, e4⟩ := hb
  obtain ⟨ii, rfl⟩ : ∃ ii : Nat, i = (ii : Int) := ⟨i.toNat, by omega⟩
  obtain ⟨jj, rfl⟩ : ∃ jj : Nat, j = (jj : Int) := ⟨j.toNat, by omega⟩
  obtain ⟨qq, rfl⟩ : ∃ qq : Nat, q = (qq : Int) := ⟨q.toNat, by omega⟩
  have e2' : ii ≤ jj := by omega
  have e3' : jj ≤ qq := by omega
  have e4' : qq ≤ len := by omega
  have hnd : (Instr.sliceBounds true len cap (lo.map a.eval) (hi.map a.eval) (mx.map a.eval)).run P w = .ok (ii, jj, if mx.isNone then cap else qq) w := by
    rcases inv_bnd hi1 hl with ⟨rfl, rfl, hi0⟩ | ⟨x1, k1, rfl, hx1⟩ <;> rcases inv_bnd hj1 hh with ⟨rfl, rfl, hj0⟩ | ⟨x2, k2, rfl, hx2⟩ <;> rcases inv_bnd hq1 hm with ⟨rfl, rfl, hq0⟩ | ⟨x3, k3, rfl, hx3⟩
    · have : ii = 0 := by omega
      have : jj = len := by omega
      subst this; subst ii
      simp [Instr.sliceBounds]
    · exact absurd rfl (hmh (by simp))
    · have : ii = 0 := by omega
      subst ii
      simp [Instr.sliceBounds, Instr.sliceBound, hx2, asIntOf, show jj ≤ cap by omega]
    · have : ii = 0 := by omega
      subst ii
      simp [Instr.sliceBounds, Instr.sliceBound, hx2, hx3, asIntOf, show qq ≤ cap by omega, e3']
    · have : jj = len := by omega
      subst this
      simp [Instr.sliceBounds, Instr.sliceBound, hx1, asIntOf, e2']
    · exact absurd rfl (hmh (by simp))
    · simp [Instr.sliceBounds, Instr.sliceBound, hx1, hx2, asIntOf, show jj ≤ cap by omega, e2']
    · simp [Instr.sliceBounds, Instr.sliceBound, hx1, hx2, hx3, asIntOf, show qq ≤ cap by omega, e2', e3']
  generalize hM : (if mx.isNone then cap else qq) = M at hnd
  have hM1 : M ≤ cap := by rw [← hM]; split <;> omega
  have hM2 : jj ≤ M := by rw [← hM]; split <;> omega
  refine ⟨if M = ii then A else A.map (·.add (ii * inf.size)), M - ii, ?_, by simp only [Int.toNat_natCast]; omega, by omega, fun h0 => ?_⟩
  · simp only [execOp, ho, Instr.sliceAt, Sem.run_bind, run_underlying ht, Result.andThen_ok, Instr.slice, hx, hnd, sizeOf, typeInfo, run_program, hi', Sem.run_pure]
    simp [show ((jj : Int) - ii).toNat = jj - ii by omega]
  · rw [if_neg (by omega), Int.toNat_natCast]

theorem see_sll {g : Bool} (hg : g = true) {t e : TypeId} {inf : TypeInfo} {sz : Nat} {x : Operand} {lo hi mx : Option Operand} {u : AV} {l h m : Option AV} (ho : o.op = .slice t x lo hi mx) (ht : P.underlying t = some (.slice e)) (hi' : P.info? e = some inf)
    (hsz : inf.size = sz) (hu : RA X s ρ w u (a.eval x)) (hl : RAO X s ρ w a lo l)
    (hh : RAO X s ρ w a hi h) (hm : RAO X s ρ w a mx m) (hmh : mx ≠ none → hi ≠ none)
    (hok : (sll4 g sz u l h m s.ob).ok) : Sees P X a w s ρ o (sll4 g sz u l h m s.ob).v := by
  unfold sll4 at hok ⊢
  split at hok
  · rename_i sz' xs
    split at hok
    · rename_i i j q h1 h2 h3
      obtain ⟨rfl, hb⟩ := hok
      have hb := hb hg
      cases hu
      rename_i hu
      generalize hc : a.eval x = c at hu
      cases hu
      rename_i A cap hmx b o' gg hcap hA hr hzz hgg
      obtain ⟨A', cap', hrun, hcap1, hcap2, hA'⟩ := run_sll (P := P) (w := w) (s := s) (ρ := ρ) ho ht hi' hc hcap h1 h2 h3 hl hh hm hmh hb
      have hlen : (j - i).toNat = ((xs.take j.toNat).drop i.toNat).length := by simp; omega
      rw [hlen] at hrun hcap2
      refine ⟨_, hrun, .r ?_⟩
      subst hsz
      refine .sl _ _ _ _ hcap2 (by omega) b (o' + i.toNat * inf.size) (fun p => gg (i.toNat + p)) (fun h0 => ?_) (fun p y hp => ?_) (fun p y k z hp hk => ?_) (fun p y k z hp hk => ?_)
      · obtain ⟨hA1, hR⟩ := hA (by rw [List.length_drop, List.length_take] at h0; omega)
        refine ⟨?_, hR⟩
        rw [hA' (by omega), hA1]
        simp [addr_add]
      all_goals
        have hp' : xs[i.toNat + p]? = some y := by
          rw [List.getElem?_drop, List.getElem?_take] at hp
          split at hp
          · exact hp
          · cases hp
      · exact hzz _ y hp'
      · have := hgg _ y k z hp' hk
        rw [show o' + i.toNat * inf.size + p * inf.size + k = o' + (i.toNat + p) * inf.size + k by rw [Nat.add_mul]; omega]
        exact this
      · exact hr _ y k z hp' hk
    · first | exact (hok hg).elim | exact (hok.2 hg).elim | exact hok.2.elim
  · rename_i id ver lo0 n0
    split at hok
    · rename_i i j q h1 h2 h3
      split at hok
      · rename_i sz' r hr
        obtain ⟨rfl, hb⟩ := hok
        have hb := hb hg
        have e6 : i.toNat + (j - i).toNat ≤ n0 := by omega
        obtain ⟨A, cap, e1, e2, e3, e4, e5⟩ := inv_own hu hr
        obtain ⟨A', cap', hrun, hcap1, hcap2, hA'⟩ := run_sll (P := P) (w := w) (s := s) (ρ := ρ) ho ht hi' e1 e2 h1 h2 h3 hl hh hm hmh hb
        subst hsz
        refine ⟨_, hrun, .own _ _ _ _ _ rfl ⟨_, _, rowAt_some hr, Nat.le_refl _, fun _ => ?_⟩⟩
        refine ⟨A', cap', rfl, hcap2, Nat.le_trans (Nat.le_trans hcap1 (Nat.sub_le _ _)) e3, ?_, fun h0 => ?_⟩
        · clear e5
          simp only at e4 ⊢
          omega
        · have e7 : lo0 + i.toNat + cap' ≤ lo0 + cap := by clear e5 e4; omega
          obtain ⟨b, cs, ee, fr, f1, f2, f3, f4⟩ := e5 (by clear e4 e5; omega)
          refine ⟨b, cs, ee, fr, f1, ?_, f3, Nat.le_trans (Nat.mul_le_mul_right _ e7) f4⟩
          rw [hA' h0, f2]
          simp [addr_add, Nat.add_mul]
      · first | exact (hok hg).elim | exact (hok.2 hg).elim | exact hok.2.elim
    · first | exact (hok hg).elim | exact (hok.2 hg).elim | exact hok.2.elim
  · first | exact (hok hg).elim | exact (hok.2 hg).elim | exact hok.2.elim
end
end Go.Ev

import Derived.Test.YtjpejkfhkbaakaaEvRen
namespace Go.Ev
open Go
set_option linter.unnecessarySimpa false
set_option linter.unusedSimpArgs false
set_option linter.unusedVariables false

mutual
def FlatR : RV → Prop
  | .v _ => True
  | .agg xs => FlatRs xs
  | .sl _ _ => False
def FlatRs : List RV → Prop
  | [] => True
  | x :: xs => FlatR x ∧ FlatRs xs
end
mutual
def Flat : AV → Prop
  | .r x => FlatR x
  | .agg xs => Flats xs
  | .tup xs => Flats xs
  | .rp _ => False
  | .fn _ xs _ => Flats xs
  | .gd _ x => Flat x
  | _ => True
def Flats : List AV → Prop
  | [] => True
  | x :: xs => Flat x ∧ Flats xs
end
def FlatO : Ob → Prop
  | .box cells => Flats cells
  | .row _ _ _ _ xs => ∀ x, x ∈ xs → FlatR x
  | .abs _ => True
theorem FlatRs.at_ : ∀ {xs : List RV}, FlatRs xs → ∀ {i : Nat} {x : RV}, xs[i]? = some x → FlatR x
  | [], _, i, x, hx => by simp at hx
  | y :: ys, h, 0, x, hx => by simp at hx; subst hx; exact h.1
  | y :: ys, h, i + 1, x, hx => by simp at hx; exact FlatRs.at_ h.2 hx
theorem Flats.at_ : ∀ {xs : List AV}, Flats xs → ∀ {i : Nat} {x : AV}, xs[i]? = some x → Flat x
  | [], _, i, x, hx => by simp at hx
  | y :: ys, h, 0, x, hx => by simp at hx; subst hx; exact h.1
  | y :: ys, h, i + 1, x, hx => by simp at hx; exact Flats.at_ h.2 hx

section
variable {P : Program} {X : Cx} [GlC P X] {w w' : World} {s : St} {ρ ρ' : Pl → Option Nat} {a : Act} {ob ob' : Obs} {R R' : Nat → Prop}
theorem RelV.flat {x : RV} {c : Value} (h : RelV w R x c) (hf : FlatR x) : RelV w R' x c := by
  induction h with
  | v x => exact .v x
  | agg xs cs hl _ ih => exact .agg xs cs hl fun i x c hx hc => ih i x c hx hc (FlatRs.at_ (by simpa [FlatR] using hf) hx)
  | sl sz xs A cap hc hm b o g hA hz hg hr ih => simp [FlatR] at hf
theorem RelA.flat {x : AV} {c : Value} (h : RelA w R ob ρ x c) (hf : Flat x) : RelA w R' ob ρ x c := by
  induction h with
  | r h0 => exact .r (h0.flat (by simpa [Flat] using hf))
  | agg xs cs hl _ ih => exact .agg xs cs hl fun i x c hx hc => ih i x c hx hc (Flats.at_ (by simpa [Flat] using hf) hx)
  | tup xs cs hl _ ih => exact .tup xs cs hl fun i x c hx hc => ih i x c hx hc (Flats.at_ (by simpa [Flat] using hf) hx)
  | nils sz z => exact .nils sz z
  | own id ver lo len c hc ha => exact .own id ver lo len c hc ha
  | ptr id ver off c hc ha => exact .ptr id ver off c hc ha
  | oel id ver i off c hc ha => exact .oel id ver i off c hc ha
  | rp ys b o g hR hg => simp [Flat] at hf
  | fn f xs k fs cs hk hl _ ih => exact .fn f xs k fs cs hk hl fun i x c hx hc => ih i x c hx hc (Flats.at_ (by simpa [Flat] using hf) hx)
  | gd b _ hf' ih => exact .gd b (fun hb => ih hb (by simpa [Flat] using hf)) hf'
  | undef c => exact .undef c
theorem FlatRs.cells {x : RV} (h : FlatR x) {j : Nat} {y : RV} (hj : x.cells[j]? = some y) : FlatR y := by
  cases x with
  | v v => cases j <;> simp [RV.cells] at hj; subst hj; trivial
  | agg xs => simp only [RV.cells] at hj; exact FlatRs.at_ (by simpa [FlatR] using h) hj
  | sl k xs => simp [FlatR] at h
theorem ObRel.flat {id : Nat} {x : Ob} (h : ObRel w R ob ρ id x) (hf : FlatO x) : ObRel w R' ob ρ id x := by
  cases x with
  | abs T => exact h
  | box cells =>
    obtain ⟨b, cs, e, h1, h2, h3, h4⟩ := h
    exact ⟨b, cs, e, h1, h2, h3, fun i x c hx hc => (h4 i x c hx hc).flat (Flats.at_ hf hx)⟩
  | row sz z app wr xs =>
    rcases h with h | ⟨b, cs, e, fr, h1, h2, h3, h4, h5, h6⟩
    · exact .inl h
    · refine .inr ⟨b, cs, e, fr, h1, h2, h3, h4, h5, fun i x hi => ⟨(h6 i x hi).1, fun j y hj => ?_⟩⟩
      obtain ⟨c, g1, g2, g3⟩ := (h6 i x hi).2 j y hj
      exact ⟨c, g1, g2, g3.flat (FlatRs.cells (hf x (List.mem_of_getElem? hi)) hj)⟩

/-- The arguments, as they are handed on; the rows that are lent. -/
def argV (ob : Obs) : AV → Option (AV × List Nat)
  | .own id ver lo len => match AV.rv ob (.own id ver lo len) with
    | some (y, fz) => some (.r y, fz)
    | none => none
  | .nils sz _ => some (.r (.sl sz []), [])
  | .agg xs => match rvs ob xs with
    | some (ys, fz) => some (.r (.agg ys), fz)
    | none => none
  | .gd _ _ => none
  | .oel _ _ _ _ => none
  | x => some (x, [])
def argL (ob : Obs) : List AV → Option (List AV × List Nat)
  | [] => some ([], [])
  | x :: xs => match argV ob x, argL ob xs with
    | some (y, i), some (ys, j) => some (y :: ys, i ++ j)
    | _, _ => none
mutual
def hids : AV → List Nat
  | .own id _ _ _ => [id]
  | .ptr id _ _ => [id]
  | .oel id _ _ _ => [id]
  | .agg xs => hidL xs
  | .tup xs => hidL xs
  | .fn _ xs _ => hidL xs
  | .gd _ x => hids x
  | _ => []
def hidL : List AV → List Nat
  | [] => []
  | x :: xs => hids x ++ hidL xs
end
def kids : Option (Nat × Ob) → List Nat
  | some (_, .box cells) => hidL cells
  | _ => []
/-- The objects that are reached. -/
def reach (ob : Obs) : Nat → List Nat → List Nat → List Nat
  | 0, _, acc => acc
  | _ + 1, [], acc => acc
  | n + 1, i :: todo, acc => if acc.contains i then reach ob n todo acc else reach ob n (kids (ob i) ++ todo) (acc ++ [i])
def fwd1 (ver k : Nat) : Option (Nat × Ob) → Option (Nat × Nat)
  | some (v, _) => if ver = v then some (1000000 + k, 0) else none
  | none => none
def fwd (ob : Obs) (ids : List Nat) : Ren := fun id ver => match idx id ids with
  | some k => fwd1 ver k (ob id)
  | none => none
/-- The objects, renamed; none: one is not there, or is written no more. -/
def takeO (F : Ren) : Option (Nat × Ob) → Option Ob
  | some (_, o) => if o.own then some (imO F o) else none
  | none => none
def takeL (F : Ren) (ob : Obs) : List Nat → Option (List Ob)
  | [] => some []
  | i :: is => match takeO F (ob i), takeL F ob is with
    | some o, some os => some (o :: os)
    | _, _ => none
theorem takeL_at {F : Ren} {ob : Obs} : ∀ {ids : List Nat} {po : List Ob}, takeL F ob ids = some po → po.length = ids.length ∧ ∀ (k i : Nat) (o : Ob), ids[k]? = some i → po[k]? = some o → ∃ v x, ob i = some (v, x) ∧ x.own = true ∧ o = imO F x
  | [], po, h => by simp [takeL] at h; subst h; simp
  | j :: ids, po, h => by
    simp only [takeL] at h
    split at h
    · rename_i o os h1 h2
      cases h
      obtain ⟨g1, g2⟩ := takeL_at h2
      refine ⟨by simp [g1], fun k i q hk ho => ?_⟩
      cases k with
      | zero =>
        simp at hk ho
        subst hk; subst ho
        unfold takeO at h1
        split at h1
        · rename_i v x hx
          split at h1
          · rename_i hown
            cases h1
            exact ⟨v, x, hx, hown, rfl⟩
          · cases h1
        · cases h1
      | succ k => simp at hk ho; exact g2 k i q hk ho
    · cases h

/-- The names that the objects of an answer get. -/
def bname (u : Nat) (ids : List Nat) (k : Nat) : Nat := match ids[k]? with
  | some i => i
  | none => 100000 + 1000 * u + k
def bver1 (ob : Obs) (i : Nat) : Option (Nat × Ob) → Nat
  | some (v, .box _) => v
  | some (v, .row _ _ _ _ _) => v + 1
  | some (v, .abs _) => v
  | none => 0
def bver (ob : Obs) (u : Nat) (ids : List Nat) (k : Nat) : Nat := match ids[k]? with
  | some i => bver1 ob i (ob i)
  | none => nv ob (100000 + 1000 * u + k)
def back (ob : Obs) (u : Nat) (ids : List Nat) (m : Nat) : Ren := fun id ver =>
  if ver = 0 ∧ 1000000 ≤ id ∧ id - 1000000 < m then some (bname u ids (id - 1000000), bver ob u ids (id - 1000000)) else none
def putL (ob : Obs) (u : Nat) (ids : List Nat) (F : Ren) : Nat → List Ob → Obs
  | _, [] => ob
  | k, o :: os => upd (bname u ids k) (bver ob u ids k, imO F o) (putL ob u ids F (k + 1) os)
theorem putL_other {u : Nat} {ids : List Nat} {F : Ren} {i : Nat} : ∀ {os : List Ob} {k : Nat}, (∀ j, k ≤ j → j < k + os.length → bname u ids j ≠ i) → putL ob u ids F k os i = ob i
  | [], k, h => rfl
  | o :: os, k, h => by
    unfold putL upd
    rw [if_neg (fun e => h k (Nat.le_refl _) (by simp) e.symm)]
    exact putL_other fun j h1 h2 => h j (by omega) (by simp; omega)
theorem putL_at {u : Nat} {ids : List Nat} {F : Ren} {m : Nat} (hinj : ∀ i j, i < m → j < m → bname u ids i = bname u ids j → i = j) : ∀ {os : List Ob} {k j : Nat} {o : Ob}, k + os.length ≤ m → os[j]? = some o → putL ob u ids F k os (bname u ids (k + j)) = some (bver ob u ids (k + j), imO F o)
  | [], k, j, o, h, hj => by simp at hj
  | q :: os, k, 0, o, h, hj => by simp at hj; subst hj; simp [putL, upd]
  | q :: os, k, j + 1, o, h, hj => by
    simp at hj h
    have hjl := (List.getElem?_eq_some_iff.1 hj).1
    unfold putL upd
    rw [if_neg (fun e => by have := hinj _ _ (by omega) (by omega) e; omega), show k + (j + 1) = k + 1 + j by omega]
    exact putL_at hinj (by omega) hj

theorem ob0_get {po : List Ob} {k : Nat} {o : Ob} (h : po[k]? = some o) : ob0 po (1000000 + k) = some (0, o) := by
  rw [ob0, obs_at (by omega), show 1000000 + k - 1000000 = k by omega, h]
  rfl

/-- What is held by a pointer stays of its kind and size. -/
def SamePin : Ob → Ob → Prop
  | .row _ _ _ _ _, _ => True
  | .box cells, .box cells' => cells'.length = cells.length
  | .abs T, .abs T' => T'.size = T.size
  | _, _ => False
set_option maxHeartbeats 1000000 in
theorem Gam.call {f : FuncId} {as : List AV} {ids : List Nat} {po ro : List Ob} {res : AV} {u : Nat} {cargs : Array Value} {Bc Ra : Nat → Prop} (hG : Gam X s ρ a w) (hpo : takeL (fwd s.ob ids) s.ob ids = some po)
    (hT : Triple P f (imL (fwd s.ob ids) as) po res ro) (hlen : ids.length ≤ ro.length) (hinj : ∀ i j, i < ro.length → j < ro.length → bname u ids i = bname u ids j → i = j) (hsm : 100000 + 1000 * u + ro.length ≤ 1000000)
    (hcs : cargs.size = as.length) (hargs : ∀ (i : Nat) (x : AV) (c : Value), as[i]? = some x → cargs[i]? = some c → RelA w Ra s.ob ρ x c)
    (hRa : ∀ b, Ra b → b < w.heap.size ∧ Bc b ∧ ∀ (i : Nat), i ∈ ids → ¬ Foot s.ob ρ i b) (hB1 : ∀ b, Free X.B s.ob ρ w b → Bc b) (hB2 : ∀ b, (∃ i, i ∈ ids ∧ Foot s.ob ρ i b) ∨ w.heap.size ≤ b → Bc b)
    (hbox : ∀ (k : Nat) (o o' : Ob), po[k]? = some o → ro[k]? = some o' → SamePin o o')
    (hfin : (Flat res ∧ ∀ o ∈ ro, FlatO o) ∨ ∀ b, Bc b → Free X.B s.ob ρ w b ∨ (∃ i, i ∈ ids ∧ Foot s.ob ρ i b) ∨ w.heap.size ≤ b) :
    Calls P f cargs w fun e w' => ∃ c ρ', e = .returned c ∧ Gam X ⟨s.e, putL s.ob u ids (back s.ob u ids ro.length) 0 ro⟩ ρ' a w' ∧ RA X ⟨s.e, putL s.ob u ids (back s.ob u ids ro.length) 0 ro⟩ ρ' w' (imV (back s.ob u ids ro.length) res) c := by
  obtain ⟨hpl, hpa⟩ := takeL_at hpo
  -- the callee's places
  let ρc : Pl → Option Nat := fun p => match p with
    | .o i => if 1000000 ≤ i then (ids[i - 1000000]?).bind fun i => ρ (.o i) else none
    | .s i j => if 1000000 ≤ i then (ids[i - 1000000]?).bind fun i => ρ (.s i j) else none
  have hρc : ∀ (k i : Nat), ids[k]? = some i → SameP ρ ρc i (1000000 + k) := fun k i hk => by
    simp [SameP, ρc, hk]
  have hidl : ∀ (k i : Nat), ids[k]? = some i → ∃ v x o, s.ob i = some (v, x) ∧ x.own = true ∧ po[k]? = some o ∧ o = imO (fwd s.ob ids) x := fun k i hk => by
    have hlt := (List.getElem?_eq_some_iff.1 hk).1
    have hp : po[k]? = some po[k] := by simp [show k < po.length by omega]
    obtain ⟨v, x, h1, h2, h3⟩ := hpa k i _ hk hp
    exact ⟨v, x, _, h1, h2, hp, h3⟩
  have hoc : ∀ (id : Nat) (x : Nat × Ob), ob0 po id = some x → ∃ k i, id = 1000000 + k ∧ ids[k]? = some i ∧ po[k]? = some x.2 ∧ x.1 = 0 ∧ SameP ρ ρc i id := fun id x hx => by
    obtain ⟨h1, h2, h3⟩ := ob0_some hx
    have hlt := (List.getElem?_eq_some_iff.1 h2).1
    have hi : ids[id - 1000000]? = some (ids[id - 1000000]'(by omega)) := by simp [show id - 1000000 < ids.length by omega]
    refine ⟨id - 1000000, _, by omega, hi, h2, h3, ?_⟩
    have := hρc _ _ hi
    rw [show 1000000 + (id - 1000000) = id by omega] at this
    exact this
  have hnd : ∀ (k l i : Nat), ids[k]? = some i → ids[l]? = some i → k = l := fun k l i hk hl => by
    have h1 := (List.getElem?_eq_some_iff.1 hk).1
    have h2 := (List.getElem?_eq_some_iff.1 hl).1
    exact hinj k l (by omega) (by omega) (by simp [bname, hk, hl])
  have hheld : ∀ b, Held (ob0 po) ρc b ↔ ∃ i, i ∈ ids ∧ Foot s.ob ρ i b := fun b => by
    constructor
    · rintro ⟨id, x, h1, h2⟩
      obtain ⟨k, i, rfl, hk, hp0, _, hρ⟩ := hoc id x h1
      obtain ⟨v, y, o, g1, _, hp, ho⟩ := hidl k i hk
      rw [hp0] at hp
      refine ⟨i, List.mem_of_getElem? hk, _, g1, (hρ.foot ?_).1 h2⟩
      rw [Option.some.inj hp, ho, isAbs_im]
    · rintro ⟨i, hi, ⟨y, g1, hb⟩⟩
      obtain ⟨k, hk⟩ := List.mem_iff_getElem?.1 hi
      obtain ⟨v, x, o, g2, _, hp, ho⟩ := hidl k i hk
      rw [g1] at g2
      refine ⟨1000000 + k, (0, o), ob0_get hp, ((hρc k i hk).foot ?_).2 hb⟩
      rw [ho, isAbs_im, Option.some.inj g2]
  have hownc : ∀ b, Own (ob0 po) ρc b → ∃ i, i ∈ ids ∧ Foot s.ob ρ i b := fun b ⟨id, v, o, h1, h2, h3⟩ => (hheld b).1 ⟨id, _, h1, h3⟩
  have hidown : ∀ i, i ∈ ids → ∀ b, Foot s.ob ρ i b → Own s.ob ρ b := fun i hi b ⟨y, g1, hb⟩ => by
    obtain ⟨k, hk⟩ := List.mem_iff_getElem?.1 hi
    obtain ⟨v, x, o, h1, h2, _, _⟩ := hidl k i hk
    rw [g1] at h1
    cases h1
    exact ⟨i, v, x, g1, h2, hb⟩
  have hfits : Fits s.ob (ob0 po) ρ ρc (fwd s.ob ids) := fun id ver i v hF => by
    unfold fwd at hF
    split at hF
    · rename_i k hk
      have hik := idx_some hk
      obtain ⟨v0, x, o, h1, h2, h3, h4⟩ := hidl k id hik
      rw [h1] at hF
      simp only [fwd1] at hF
      split at hF
      · rename_i hv
        cases hF
        subst hv
        exact ⟨x, o, h1, ob0_get h3, (hρc k id hik).1, by rw [h4]; exact Keep.im _ x⟩
      · cases hF
    · cases hF
  have hRc : ∀ b, Free X.B s.ob ρ w b → Free Bc (ob0 po) ρc w b := fun b hb => ⟨hb.1, fun ho => by
      obtain ⟨i, hi, hb'⟩ := hownc b ho
      exact hb.2.1 (hidown i hi b hb'), hB1 b hb⟩
  have hmem : Mem ⟨0, Held (ob0 po) ρc, fun _ => none, Bc, w⟩ (ob0 po) ρc w := by
    refine ⟨fun id v o h => ?_, fun id id' x x' b h1 h2 h3 h4 => ?_, Keeps.refl _ _, fun id v o b h1 h2 => .inl ⟨id, _, h1, h2⟩, fun id b h => by cases h⟩
    · obtain ⟨k, i, rfl, hk, hp, _, hρ⟩ := hoc id _ h
      obtain ⟨v0, x, o', h1, h2, h3, h4⟩ := hidl k i hk
      simp only at hp
      rw [hp] at h3
      cases h3
      rw [h4]
      exact (hG.obj i v0 x h1).im hRc hfits hρ.1 hρ.2
    · obtain ⟨k, i, rfl, hk, hp0, _, hρ⟩ := hoc id _ h1
      obtain ⟨k', i', rfl, hk', hp0', _, hρ'⟩ := hoc id' _ h2
      obtain ⟨v0, y, o', g1, _, hp, ho⟩ := hidl k i hk
      obtain ⟨v1, y', o'', g1', _, hp', ho'⟩ := hidl k' i' hk'
      rw [hp0] at hp
      rw [hp0'] at hp'
      have := hG.inj i i' _ _ b g1 g1' ((hρ.foot (by rw [Option.some.inj hp, ho, isAbs_im])).1 h3) ((hρ'.foot (by rw [Option.some.inj hp', ho', isAbs_im])).1 h4)
      subst this
      rw [hnd k k' i hk hk']
  have hgl : Gl P w (Held (ob0 po) ρc) := (GlC.gl (P := P) (X := X)).keep fun g h1 h2 => ⟨hG.keeps.block g h1 h2, fun hh => by
    obtain ⟨i, hi, ⟨⟨v, x⟩, g1, hb⟩⟩ := (hheld g).1 hh
    rcases hG.own i v x g g1 hb with h | h
    · exact h2 h
    · omega⟩
  refine (hT w cargs ρc Bc hgl (fun b hb => hB2 b (hb.imp_left (hheld b).1)) hmem (by rw [imL_length, hcs]) (fun i x c hx hc => ?_)).mono ?_
  · rw [imL_get, Option.map_eq_some_iff] at hx
    obtain ⟨y, hy, rfl⟩ := hx
    exact (hargs i y c hy hc).im (fun b hb => ⟨(hRa b hb).1, fun ho => by
      obtain ⟨j, hj, hbj⟩ := hownc b ho
      exact (hRa b hb).2.2 j hj hbj, (hRa b hb).2.1⟩) hfits
  rintro e w' ⟨c, ρ', rfl, hM, hres⟩
  generalize hFb : back s.ob u ids ro.length = Fb
  generalize hOb : putL s.ob u ids Fb 0 ro = ob2
  let ρ2 : Pl → Option Nat := fun p => match p with
    | .o i => open Classical in if h : ∃ k, k < ro.length ∧ bname u ids k = i then ρ' (1000000 + h.choose : Nat) else ρ i
    | .s i j => open Classical in if h : ∃ k, k < ro.length ∧ bname u ids k = i then ρ' (.s (1000000 + h.choose) j) else ρ (.s i j)
  have A : ∀ k, k < ro.length → SameP ρ' ρ2 (1000000 + k) (bname u ids k) := fun k hk => by
    have hex : ∃ l, l < ro.length ∧ bname u ids l = bname u ids k := ⟨k, hk, rfl⟩
    have := hinj _ _ hex.choose_spec.1 hk hex.choose_spec.2
    refine ⟨?_, fun j => ?_⟩
    · simp only [ρ2, dif_pos hex, this]
    · simp only [ρ2, dif_pos hex, this]
  have hN : ∀ i, (¬ ∃ k, k < ro.length ∧ bname u ids k = i) → SameP ρ ρ2 i i ∧ ob2 i = s.ob i := fun i hi => by
    refine ⟨⟨by simp only [ρ2, dif_neg hi], fun j => by simp only [ρ2, dif_neg hi]⟩, ?_⟩
    rw [← hOb]
    exact putL_other fun j _ h2 e => hi ⟨j, by omega, e⟩
  have hC : ∀ k o, ro[k]? = some o → ob2 (bname u ids k) = some (bver s.ob u ids k, imO Fb o) := fun k o hk => by
    have := putL_at (ob := s.ob) (F := Fb) hinj (os := ro) (k := 0) (j := k) (o := o) (by omega) hk
    rw [Nat.zero_add] at this
    rw [← hOb]
    exact this
  have hname : ∀ i x, ob2 i = some x → (∃ k o, ro[k]? = some o ∧ i = bname u ids k ∧ x = (bver s.ob u ids k, imO Fb o)) ∨ ((¬ ∃ k, k < ro.length ∧ bname u ids k = i) ∧ s.ob i = some x) := fun i x hx => by
    by_cases hi : ∃ k, k < ro.length ∧ bname u ids k = i
    · obtain ⟨k, hk, rfl⟩ := hi
      have hr : ro[k]? = some ro[k] := by simp [hk]
      rw [hC k _ hr] at hx
      exact .inl ⟨k, _, hr, rfl, (Option.some.inj hx).symm⟩
    · rw [(hN i hi).2] at hx
      exact .inr ⟨hi, hx⟩
  have hidn : ∀ i, i ∈ ids → ∃ k, k < ro.length ∧ bname u ids k = i := fun i hi => by
    obtain ⟨k, hk⟩ := List.mem_iff_getElem?.1 hi
    have := (List.getElem?_eq_some_iff.1 hk).1
    exact ⟨k, by omega, by simp [bname, hk]⟩
  have hlt : ∀ i x b, s.ob i = some x → foot ρ i x.2 b → b < w.heap.size := fun i x b hi hb => hG.foot_lt hi hb
  have hrb : ∀ k o b, ro[k]? = some o → foot ρ' (1000000 + k) o b → (∃ i, i ∈ ids ∧ Foot s.ob ρ i b) ∨ w.heap.size ≤ b := fun k o b hk hb => (hM.own _ _ _ b (ob0_get hk) hb).imp_left (hheld b).1
  have hown2 : ∀ b, Own ob2 ρ2 b → Own (ob0 ro) ρ' b ∨ ∃ i v x, (¬ ∃ k, k < ro.length ∧ bname u ids k = i) ∧ s.ob i = some (v, x) ∧ x.own = true ∧ foot ρ i x b := fun b ⟨i, v, x, h1, h2, h3⟩ => by
    rcases hname i _ h1 with ⟨k, o, hk, rfl, hx⟩ | ⟨hi, hx⟩
    · cases hx
      have := (List.getElem?_eq_some_iff.1 hk).1
      rw [(A k this).foot (isAbs_im Fb o)] at h3
      exact .inl ⟨_, 0, o, ob0_get hk, by rw [← own_im Fb]; exact h2, h3⟩
    · rw [(hN i hi).1.foot rfl] at h3
      exact .inr ⟨i, v, x, hi, hx, h2, h3⟩
  have hfitb : Fits (ob0 ro) ob2 ρ' ρ2 Fb := fun id ver i v hF => by
    rw [← hFb] at hF
    unfold back at hF
    split at hF
    · rename_i hc
      obtain ⟨rfl, h1, h2⟩ := hc
      cases hF
      have hr : ro[id - 1000000]? = some ro[id - 1000000] := by simp [h2]
      have hg := ob0_get hr
      rw [show 1000000 + (id - 1000000) = id by omega] at hg
      refine ⟨_, _, hg, hC _ _ hr, ?_, Keep.im Fb _⟩
      rw [(A _ h2).1, show 1000000 + (id - 1000000) = id by omega]
    · cases hF
  have hheldfree : ∀ b, Free X.B s.ob ρ w b → ¬ ∃ i, i ∈ ids ∧ Foot s.ob ρ i b := fun b hb ⟨i, hi, hib⟩ => hb.2.1 (hidown i hi b hib)
  have hsame : ∀ b, b < w.heap.size → (¬ ∃ i, i ∈ ids ∧ Foot s.ob ρ i b) → w'.heap[b]? = w.heap[b]? := fun b h1 h2 => hM.keeps.block b h1 fun hh => h2 ((hheld b).1 hh)
  have hRR : ∀ b, Free X.B s.ob ρ w b → Free X.B ob2 ρ2 w' b := fun b hb => by
    refine ⟨Nat.lt_of_lt_of_le hb.1 hM.keeps.size, fun ho => ?_, hb.2.2⟩
    rcases hown2 b ho with ⟨id, v, o, h1, h2, h3⟩ | ⟨i, v, x, _, h1, h2, h3⟩
    · rcases hM.own id v o b h1 h3 with h | h
      · exact hheldfree b hb ((hheld b).1 h)
      · have := hb.1; simp only at h; omega
    · exact hb.2.1 ⟨i, v, x, h1, h2, h3⟩
  have hfin2 : (Flat res ∧ ∀ o ∈ ro, FlatO o) ∨ ∀ b, Free Bc (ob0 ro) ρ' w' b → Free X.B ob2 ρ2 w' b := by
    refine hfin.imp_right fun hf b hb => ⟨hb.1, fun ho => ?_, ?_⟩
    · rcases hown2 b ho with h | ⟨i, v, x, hi, h1, h2, h3⟩
      · exact hb.2.1 h
      · rcases hf b hb.2.2 with h | ⟨j, hj, hjb⟩ | h
        · exact h.2.1 ⟨i, v, x, h1, h2, h3⟩
        · obtain ⟨k, hk⟩ := List.mem_iff_getElem?.1 hj
          obtain ⟨⟨v0, y⟩, g1, hjb⟩ := hjb
          have := hG.inj i j _ _ b h1 g1 h3 hjb
          subst this
          exact hi (hidn i hj)
        · have := hlt i _ b h1 h3; omega
    · rcases hf b hb.2.2 with h | ⟨j, hj, hjb⟩ | h
      · exact h.2.2
      · obtain ⟨k, hk⟩ := List.mem_iff_getElem?.1 hj
        obtain ⟨⟨v0, y⟩, g1, hjb⟩ := hjb
        exact hG.base b (hG.own j _ _ b g1 hjb)
      · exact hG.base b (.inr (Nat.le_trans hG.keeps.size h))
  have hst : Stays w w' (Free X.B s.ob ρ w) (Free X.B ob2 ρ2 w') s.ob ob2 ρ ρ2 := by
    refine ⟨fun b hb => ⟨hRR b hb, hsame b hb.1 (hheldfree b hb)⟩, fun i v x hx => ?_⟩
    by_cases hi : ∃ k, k < ro.length ∧ bname u ids k = i
    · obtain ⟨k, hk, rfl⟩ := hi
      have hr : ro[k]? = some ro[k] := by simp [hk]
      refine ⟨_, _, hC k _ hr, ?_, ?_⟩
      · unfold bver
        rcases hki : ids[k]? with _ | j
        · have : bname u ids k = 100000 + 1000 * u + k := by simp [bname, hki]
          rw [this] at hx
          exact Nat.le_of_lt (nv_lt hx)
        · have : bname u ids k = j := by simp [bname, hki]
          rw [this] at hx
          simp only [hx]
          cases x <;> simp [bver1]
      · intro hv
        unfold bver at hv
        rcases hki : ids[k]? with _ | j
        · have : bname u ids k = 100000 + 1000 * u + k := by simp [bname, hki]
          rw [this] at hx
          simp only [hki] at hv
          have := nv_lt hx
          omega
        · have hbn : bname u ids k = j := by simp [bname, hki]
          rw [hbn] at hx ⊢
          simp only [hki, hx] at hv
          obtain ⟨v0, y, po', g1, g2, g3, g4⟩ := hidl k j hki
          rw [hx] at g1
          cases g1
          have hnr : x.pinned = true := by cases x <;> first | rfl | simp [bver1] at hv
          obtain ⟨b, hρj⟩ : ∃ b, ρ j = some b := by
            have hob := hG.obj j v _ hx
            cases x with
            | row _ _ _ _ _ => cases hnr
            | box cells => obtain ⟨b, cs, e, h, _⟩ := hob; exact ⟨b, h⟩
            | abs T => obtain ⟨b, h, _⟩ := hob; exact ⟨b, h⟩
          have hpin := hM.pin (1000000 + k) b (by
            simp only [pinOf, ob0_get g3, g4]
            rw [if_pos (by rw [pinned_im]; exact hnr), (hρc k j hki).1, hρj])
          obtain ⟨hp1, o', hp2, hp3⟩ := hpin
          rw [ob0_get hr] at hp2
          have hro : ro[k] = o' := by have := Option.some.inj hp2; exact (Prod.mk.inj this).2
          have hA := A k hk
          rw [hbn] at hA
          refine ⟨by rw [hA.1, hp1, hρj], ?_, fun b' cs' e' fr' hb' hh' => ?_⟩
          · have hkp := hbox k po' ro[k] g3 hr
            rw [g4] at hkp
            revert hkp
            generalize ro[k] = q
            intro hkp
            cases x with
            | row _ _ _ _ _ => cases hnr
            | box _ => cases q <;> first | exact hkp.elim | trivial
            | abs _ => cases q <;> first | exact hkp.elim | exact hkp
          rw [hρj] at hb'
          cases hb'
          have hkp := hbox k po' ro[k] g3 hr
          rw [g4, hro] at hkp
          have hob' := hM.obj (1000000 + k) 0 o' (by rw [ob0_get hr, hro])
          have hob := hG.obj j v _ hx
          cases x with
          | row _ _ _ _ _ => cases hnr
          | box cells =>
            cases o' with
            | row _ _ _ _ _ => exact hkp.elim
            | abs _ => exact hkp.elim
            | box cells' =>
              obtain ⟨b1, cs, e, k1, k2, k3, _⟩ := hob
              rw [hρj] at k1; cases k1
              rw [hh'] at k2; cases k2
              obtain ⟨b2, cs2, e2, f1, f2, f3, _⟩ := hob'
              rw [hp1] at f1; cases f1
              refine ⟨cs2, e2, _, f2, ?_⟩
              have hkp : cells'.length = (imL (fwd s.ob ids) cells).length := hkp
              rw [f3, k3, hkp, imL_length]
          | abs T =>
            cases o' with
            | row _ _ _ _ _ => exact hkp.elim
            | box _ => exact hkp.elim
            | abs T' =>
              obtain ⟨b1, k1, k2⟩ := hob
              rw [hρj] at k1; cases k1
              obtain ⟨cs, e, k3, k4⟩ := T.root k2
              rw [hh'] at k3; cases k3
              obtain ⟨b2, f1, f2⟩ := hob'
              rw [hp1] at f1; cases f1
              obtain ⟨cs2, e2, f3, f4⟩ := T'.root f2
              have hkp : T'.size = T.size := hkp
              exact ⟨cs2, e2, _, f3, by rw [f4, k4, hkp]⟩
    · refine ⟨v, x, by rw [(hN i hi).2, hx], Nat.le_refl _, fun _ => ⟨(hN i hi).1.1, Keep.refl x, fun b cs e fr hb hh => ⟨cs, e, fr, ?_, rfl⟩⟩⟩
      have hb : foot ρ i x b := .inl hb
      rw [hsame b (hlt i _ b hx hb), hh]
      rintro ⟨j, hj, hjb⟩
      obtain ⟨k, hk⟩ := List.mem_iff_getElem?.1 hj
      obtain ⟨⟨v0, y⟩, g1, hjb⟩ := hjb
      have := hG.inj i j _ _ b hx g1 hb hjb
      subst this
      exact hi (hidn i hj)
  have hobr : ∀ k o, ro[k]? = some o → ObRel w' (Free X.B ob2 ρ2 w') ob2 ρ2 (bname u ids k) (imO Fb o) := fun k o hk => by
    have hkl := (List.getElem?_eq_some_iff.1 hk).1
    have h0 := hM.obj _ _ _ (ob0_get hk)
    rcases hfin2 with ⟨_, hf⟩ | hf
    · exact (h0.flat (R' := Free X.B ob2 ρ2 w') (hf o (List.mem_of_getElem? hk))).im (fun _ h => h) hfitb (A k hkl).1 (A k hkl).2
    · exact h0.im hf hfitb (A k hkl).1 (A k hkl).2
  refine ⟨c, ρ2, rfl, ⟨⟨fun i v x hx => ?_, fun i j x y b hx hy hb hb' => ?_, ?_, fun i v x b hx hb => ?_, fun i b hp => ?_⟩, hG.sz, hG.df, fun t => (hG.env t).stays hst, hG.pnn, hG.small, hG.base⟩, ?_⟩
  · rcases hname i _ hx with ⟨k, o, hk, rfl, hxx⟩ | ⟨hi, hxx⟩
    · cases hxx
      exact hobr k o hk
    · refine (hG.obj i v x hxx).stays hst (hN i hi).1.1 (hN i hi).1.2 fun b hb => hsame b (hlt i _ b hxx hb) ?_
      rintro ⟨j, hj, hjb⟩
      obtain ⟨k, hk⟩ := List.mem_iff_getElem?.1 hj
      obtain ⟨⟨v0, y⟩, g1, hjb⟩ := hjb
      have := hG.inj i j _ _ b hxx g1 hb hjb
      subst this
      exact hi (hidn i hj)
  · have mixed : ∀ k o i x b, ro[k]? = some o → (¬ ∃ l, l < ro.length ∧ bname u ids l = i) → s.ob i = some x → foot ρ' (1000000 + k) o b → foot ρ i x.2 b → False := fun k o i x b hk hi hx h1 h2 => by
      rcases hrb k o b hk h1 with ⟨j, hj, hjb⟩ | h
      · obtain ⟨l, hl⟩ := List.mem_iff_getElem?.1 hj
        obtain ⟨⟨v0, y⟩, g1, hjb⟩ := hjb
        have := hG.inj i j _ _ b hx g1 h2 hjb
        subst this
        exact hi (hidn i hj)
      · have := hlt i _ b hx h2; omega
    rcases hname i _ hx with ⟨k, o, hk, rfl, rfl⟩ | ⟨hi, hxx⟩ <;> rcases hname j _ hy with ⟨l, q, hl, rfl, rfl⟩ | ⟨hj, hyy⟩
    · have h1 := (List.getElem?_eq_some_iff.1 hk).1
      have h2 := (List.getElem?_eq_some_iff.1 hl).1
      rw [(A k h1).foot (isAbs_im Fb _)] at hb
      rw [(A l h2).foot (isAbs_im Fb _)] at hb'
      have := hM.inj _ _ _ _ b (ob0_get hk) (ob0_get hl) hb hb'
      rw [show k = l by omega]
    · have h1 := (List.getElem?_eq_some_iff.1 hk).1
      rw [(A k h1).foot (isAbs_im Fb _)] at hb
      rw [(hN j hj).1.foot rfl] at hb'
      exact (mixed k o j _ b hk hj hyy hb hb').elim
    · have h2 := (List.getElem?_eq_some_iff.1 hl).1
      rw [(A l h2).foot (isAbs_im Fb _)] at hb'
      rw [(hN i hi).1.foot rfl] at hb
      exact (mixed l q i _ b hl hi hxx hb' hb).elim
    · rw [(hN i hi).1.foot rfl] at hb
      rw [(hN j hj).1.foot rfl] at hb'
      exact hG.inj i j _ _ b hxx hyy hb hb'
  · have hk := hG.keeps
    refine ⟨hM.keeps.os.trans hk.os, hM.keeps.tape.trans hk.tape, hM.keeps.output.trans hk.output, Nat.le_trans hk.size hM.keeps.size, fun b hb hI => ?_⟩
    rw [hsame b (Nat.lt_of_lt_of_le hb hk.size), hk.block b hb hI]
    rintro ⟨j, hj, hjb⟩
    obtain ⟨k, hk'⟩ := List.mem_iff_getElem?.1 hj
    obtain ⟨⟨v0, y⟩, g1, hjb⟩ := hjb
    rcases hG.own j _ _ b g1 hjb with h | h
    · exact hI h
    · omega
  · rcases hname i _ hx with ⟨k, o, hk, rfl, hxe⟩ | ⟨hi, hxx⟩
    · cases hxe
      rw [(A k (List.getElem?_eq_some_iff.1 hk).1).foot (isAbs_im Fb _)] at hb
      rcases hrb k o b hk hb with ⟨j, hj, hjb⟩ | h
      · obtain ⟨l, hl⟩ := List.mem_iff_getElem?.1 hj
        obtain ⟨⟨v0, y⟩, g1, hjb⟩ := hjb
        exact hG.own j _ _ b g1 hjb
      · exact .inr (Nat.le_trans hG.keeps.size h)
    · rw [(hN i hi).1.foot rfl] at hb
      exact hG.own i v x b hxx hb
  · show ρ2 i = some b ∧ ∃ o, ob2 i = some (0, o) ∧ o.pinned = true
    obtain ⟨h1, x, h2, hnr⟩ := hG.pin i b hp
    by_cases hi : ∃ k, k < ro.length ∧ bname u ids k = i
    · obtain ⟨k, hk, rfl⟩ := hi
      have hr : ro[k]? = some ro[k] := by simp [hk]
      rcases hki : ids[k]? with _ | j
      · have hbn : bname u ids k = 100000 + 1000 * u + k := by simp [bname, hki]
        rw [hbn, hG.pnn _ (by omega)] at hp
        cases hp
      · have hbn : bname u ids k = j := by simp [bname, hki]
        rw [hbn] at h1 h2 ⊢
        obtain ⟨v0, y, po', g1, g2, g3, g4⟩ := hidl k j hki
        rw [h2] at g1
        cases g1
        have hpin := hM.pin (1000000 + k) b (by
          simp only [pinOf, ob0_get g3, g4]
          rw [if_pos (by rw [pinned_im]; exact hnr), (hρc k j hki).1, h1])
        obtain ⟨hp1, o', hp2, hp3⟩ := hpin
        rw [ob0_get hr] at hp2
        have hro : ro[k] = o' := by have := Option.some.inj hp2; exact (Prod.mk.inj this).2
        have hA := A k hk
        have hCk := hC k _ hr
        rw [hbn] at hA hCk
        refine ⟨by rw [hA.1, hp1], imO Fb o', ?_, by rw [pinned_im]; exact hp3⟩
        rw [hCk, hro]
        cases x with
        | row _ _ _ _ _ => cases hnr
        | box cells => simp [bver, hki, h2, bver1]
        | abs T => simp [bver, hki, h2, bver1]
    · rw [(hN i hi).1.1, (hN i hi).2]
      exact ⟨h1, x, h2, hnr⟩
  · rcases hfin2 with ⟨hf, _⟩ | hf
    · exact (hres.flat (R' := Free X.B ob2 ρ2 w') hf).im (fun _ h => h) hfitb
    · exact hres.im hf hfitb
end
end Go.Ev

import Derived.Test.YtpjimnjfjopedaaTr5
import Derived.WalkKit
namespace Go.Ev
open Go
set_option linter.unnecessarySimpa false
set_option linter.unusedSimpArgs false
set_option linter.unusedVariables false
section
variable {P : Program} {w : World} {o : Oper} {a : Act} {K : Act → World → Prop} {Q : Exit → Act → World → Prop}
/-- A stretch of a block, read as a slice's elements. -/
theorem fc_block {w : World} {g off size m m' c : Nat} {cs : Array Value} {e : TypeId} {fr : Nat × Nat} {news : List Value} (hg : w.heap[g]? = some (.cells cs e fr)) (hn : news.length = m * size)
    (hj : ∀ (j : Nat) (u : Value), news[j]? = some u → cs[off + j]? = some u) : ∀ W : World, W.heap = w.heap → (Builtin.firstCells size m (.slice (some ⟨g, off, none⟩) m' c)).run P W = .ok news.toArray W := fun W hW => by
  refine run_firstCells_some W size m ⟨g, off, none⟩ m' c news hn fun j u hu => ?_
  rw [addr_add]
  simp only [World.cell?, hW, hg, Option.isSome_none, Bool.false_eq_true, if_false]
  exact hj j u hu
theorem fc_none {w : World} {size m' c : Nat} {A : Option Addr} : ∀ W : World, W.heap = w.heap → (Builtin.firstCells size 0 (.slice A m' c)).run P W = .ok #[] W := fun W hW => by
  cases A <;> simp [Builtin.firstCells, loadCells, loadCellsFrom]
theorem keeps_row {g : Nat} {old cs : Array Value} {t : TypeId} {fr : Nat × Nat} (hg : w.heap[g]? = some (.cells old t fr)) : Keeps (· = g) w (w.setRow g cs) :=
  have h := mods_setRow (cs := cs) hg
  ⟨rfl, rfl, rfl, by simp [World.setRow], fun k hk hn => setRow_other w g k cs hn⟩
theorem keeps_one {w' : World} {x : Obj} {I : Nat → Prop} (h : OneMore w w' x) : Keeps I w w' := ⟨h.os, h.tape, h.output, by rw [h.heap]; simp, fun k hk _ => by rw [h.heap]; simp [Array.getElem?_push, Nat.ne_of_lt hk]⟩
/-- append to a row in a block of its own. -/
theorem wp_app (x v : Operand) (t u : TypeId) (ho : o.op = .call { callee := .builtin .append, args := #[x, v], argTypes := #[t, u] }) {e d : TypeId} {inf : TypeInfo} {z : Value} {size bytes : Nat} (ht : P.underlying t = some (.slice e)) (hu : P.underlying u = some (.slice d))
    (hi : P.info? e = some inf) (hz : inf.zero = some z) (hzs : z.cells.size = inf.size) (hs : inf.size = size) (hby : inf.bytes = bytes) (g len cap : Nat) (hx : a.eval x = .slice (some ⟨g, 0, none⟩) len cap) (hc : 0 < cap) {cs : Array Value} {e' : TypeId} (hg : w.heap[g]? = some (.cells cs e' (0, 0)))
    (hsz : cap * size ≤ cs.size) (hlc : len ≤ cap) {A2 : Option Addr} {m c2 : Nat} (hv : a.eval v = .slice A2 m c2) (news : List Value) (hnew : ∀ W : World, W.heap = w.heap → (Builtin.firstCells size m (.slice A2 m c2)).run P W = .ok news.toArray W)
    (hn : news.length = m * size) (h1 : ∀ u ∈ news, u.oneCell' = true) (hmax : len + m ≤ maxLen) (hcap : cap ≤ maxLen) (hb : (len + m) * bytes ≤ 140737488355328)
    (h : ∀ (g' cap' : Nat) (cs' : Array Value) (e2 : TypeId) (w' : World), (g' = g ∨ g' = w.heap.size) → 0 < cap' → len + m ≤ cap' → cap' ≤ maxLen → w'.heap[g']? = some (.cells cs' e2 (0, 0)) → cap' * size ≤ cs'.size →
      (∀ j, j < (len + m) * size → cs'[j]? = (cs.toList.take (len * size) ++ news)[j]?) → Keeps (· = g) w w' → K (a.put o.dst (.slice (some ⟨g', 0, none⟩) (len + m) cap')) w') : o.wp P a w K Q := by
  subst hs; subst hby
  have hlt : len * inf.size ≤ cs.size := Nat.le_trans (Nat.mul_le_mul_right _ hlc) hsz
  have hol : (cs.toList.take (len * inf.size)).length = len * inf.size := by simp only [List.length_take, Array.length_toList]; exact Nat.min_eq_left hlt
  have hold := fc_block (P := P) (off := 0) (size := inf.size) (m := len) (m' := len) (c := cap) (news := cs.toList.take (len * inf.size)) hg hol (fun j u hu => by
    rw [List.getElem?_take] at hu
    split at hu
    · simpa using hu
    · cases hu)
  have hrun0 : ∀ r, (Builtin.append_ #[t, u] o.type #[.slice (some ⟨g, 0, none⟩) len cap, .slice A2 m c2]).run P w = r → (execOp a.eval o).run P w = r.andThen fun q w' => .ok (.value q) w' := by
    rintro r rfl
    simp [execOp, ho, resolve, invoke, builtin, hx, hv]
  unfold Oper.wp
  rcases run_app (P := P) (w := w) (ty := o.type) (A := some ⟨g, 0, none⟩) (A2 := A2) (len := len) (cap := cap) (m := m) (c2 := c2) (g := g) (cur := cs) (e' := e') (olds := cs.toList.take (len * inf.size)) (news := news) ht hu hi hz hzs hlc (fun _ => ⟨rfl, hg, hsz⟩)
      hold hol hnew hn h1 hmax hb with ⟨hroom, hr⟩ | ⟨hgrow, K', w', rest, hr, hK1, hK2, hom, hlen⟩
  · rw [hrun0 _ hr, if_pos hc]
    have hfit : len * inf.size + news.length ≤ cs.toList.length := by
      rw [hn, ← Nat.add_mul]; simp; exact Nat.le_trans (Nat.mul_le_mul_right _ hroom) hsz
    refine h g cap _ e' _ (.inl rfl) hc hroom hcap (setRow_heap w g cs _ e' _ hg) ?_ (fun j hj => ?_) (keeps_row hg)
    · simp only [List.size_toArray, splice_length hfit, Array.length_toList]; exact hsz
    · rw [List.getElem?_toArray, splice_at hfit, hn]
      rw [Nat.add_mul] at hj
      by_cases hj1 : len * inf.size ≤ j
      · rw [if_pos ⟨hj1, hj⟩, List.getElem?_append_right (by rw [hol]; exact hj1), hol]
      · rw [if_neg (fun q => hj1 q.1), List.getElem?_append_left (by rw [hol]; omega), List.getElem?_take, if_pos (by omega)]
  · rw [hrun0 _ hr]
    refine h w.heap.size K' _ e w' (.inr rfl) (by omega) hK1 hK2 hom.new ?_ (fun j hj => ?_) (keeps_one hom)
    · simp only [List.size_toArray, hlen]; exact Nat.le_refl _
    · rw [List.getElem?_toArray, List.getElem?_append_left]
      simp only [List.length_append, hol, hn, ← Nat.add_mul]
      exact hj
/-- append to what has no room. -/
theorem wp_app0 (x v : Operand) (t u : TypeId) (ho : o.op = .call { callee := .builtin .append, args := #[x, v], argTypes := #[t, u] }) {e d : TypeId} {inf : TypeInfo} {z : Value} {size bytes : Nat} (ht : P.underlying t = some (.slice e)) (hu : P.underlying u = some (.slice d))
    (hi : P.info? e = some inf) (hz : inf.zero = some z) (hzs : z.cells.size = inf.size) (hs : inf.size = size) (hby : inf.bytes = bytes) {A : Option Addr} (hx : a.eval x = .slice A 0 0)
    {A2 : Option Addr} {m c2 : Nat} (hv : a.eval v = .slice A2 m c2) (hm : 0 < m) (news : List Value) (hnew : ∀ W : World, W.heap = w.heap → (Builtin.firstCells size m (.slice A2 m c2)).run P W = .ok news.toArray W)
    (hn : news.length = m * size) (h1 : ∀ u ∈ news, u.oneCell' = true) (hmax : m ≤ maxLen) (hb : m * bytes ≤ 140737488355328)
    (h : ∀ (cap' : Nat) (cs' : Array Value) (w' : World), m ≤ cap' → cap' ≤ maxLen → w'.heap[w.heap.size]? = some (.cells cs' e (0, 0)) → cap' * size ≤ cs'.size →
      (∀ j, j < m * size → cs'[j]? = news[j]?) → (∀ I, Keeps I w w') → K (a.put o.dst (.slice (some ⟨w.heap.size, 0, none⟩) m cap')) w') : o.wp P a w K Q := by
  subst hs; subst hby
  have hrun0 : ∀ r, (Builtin.append_ #[t, u] o.type #[.slice A 0 0, .slice A2 m c2]).run P w = r → (execOp a.eval o).run P w = r.andThen fun q w' => .ok (.value q) w' := by
    rintro r rfl
    simp [execOp, ho, resolve, invoke, builtin, hx, hv]
  unfold Oper.wp
  rcases run_app (P := P) (w := w) (ty := o.type) (A := A) (A2 := A2) (len := 0) (cap := 0) (m := m) (c2 := c2) (g := 0) (cur := #[]) (e' := 0) (olds := []) (news := news) ht hu hi hz hzs (Nat.le_refl _) (by simp)
      (fun W hW => fc_none (w := W) W rfl) (by simp) hnew hn h1 (by omega) (by rw [Nat.zero_add]; exact hb) with ⟨hroom, hr⟩ | ⟨hgrow, K', w', rest, hr, hK1, hK2, hom, hlen⟩
  · omega
  · rw [hrun0 _ hr]
    simp only [Nat.zero_add] at hK1
    refine (show K (a.put o.dst (.slice (some ⟨w.heap.size, 0, none⟩) (0 + m) K')) w' from ?_)
    rw [Nat.zero_add]
    refine h K' _ w' hK1 hK2 hom.new ?_ (fun j hj => ?_) fun I => keeps_one hom
    · simp only [List.size_toArray, hlen]; exact Nat.le_refl _
    · rw [List.getElem?_toArray, List.nil_append, List.getElem?_append_left]
      rw [hn]
      exact hj
/-- copy within a block. -/
theorem wp_cpy (x v : Operand) (t u : TypeId) (ho : o.op = .call { callee := .builtin .copy, args := #[x, v], argTypes := #[t, u] }) {e : TypeId} {inf : TypeInfo} {size : Nat} (ht : P.underlying t = some (.slice e))
    (hi : P.info? e = some inf) (hs : inf.size = size) (g d s m : Nat) {cs : Array Value} {e' : TypeId} (hg : w.heap[g]? = some (.cells cs e' (0, 0))) {D S : Option Addr} {dl dc sl sc : Nat} (hx : a.eval x = .slice D dl dc) (hv : a.eval v = .slice S sl sc)
    (hm : m = Nat.min sl dl) (hpos : 0 < m → D = some ⟨g, d, none⟩ ∧ S = some ⟨g, s, none⟩) (hd : d + m * size ≤ cs.size) (hsr : s + m * size ≤ cs.size) (h1 : ∀ u ∈ (cs.toList.drop s).take (m * size), u.oneCell' = true)
    (h : ∀ w', w'.heap[g]? = some (.cells (splice cs.toList d ((cs.toList.drop s).take (m * size))).toArray e' (0, 0)) → Keeps (· = g) w w' → K (a.put o.dst (goInt m)) w') : o.wp P a w K Q := by
  subst hs
  unfold Oper.wp
  have hrun0 : ∀ r, (Builtin.copy_ #[t, u] o.type #[.slice D dl dc, .slice S sl sc]).run P w = r → (execOp a.eval o).run P w = r.andThen fun q w' => .ok (.value q) w' := by
    rintro r rfl
    simp [execOp, ho, resolve, invoke, builtin, hx, hv]
  by_cases h0 : m = 0
  · subst h0
    have hr : (Builtin.copy_ #[t, u] o.type #[.slice D dl dc, .slice S sl sc]).run P w = .ok (goInt 0) w := by
      have hl : ∀ (x : Addr), (loadCells x 0).run P w = .ok #[] w := fun x => by simpa using run_loadCells_list (P := P) w x [] (by simp)
      cases D <;> cases S <;> simp [Builtin.copy_, run_underlying ht, Builtin.lenOf, Builtin.firstCells, sizeOf, typeInfo, hi, ← hm, storeCells, hl]
    rw [hrun0 _ hr]
    refine h w ?_ (Keeps.refl _ _)
    simp [splice, hg]
  · obtain ⟨rfl, rfl⟩ := hpos (by omega)
    have hln : ((cs.toList.drop s).take (m * inf.size)).length = m * inf.size := by simp; omega
    have hf := fc_block (P := P) (w := w) (off := s) (size := inf.size) (m := m) (m' := sl) (c := sc) (news := (cs.toList.drop s).take (m * inf.size)) hg hln (fun j u hu => by
      rw [List.getElem?_take] at hu
      split at hu
      · rw [List.getElem?_drop] at hu; simpa using hu
      · cases hu) w rfl
    have hst := run_sts (P := P) g d e' (0, 0) ((cs.toList.drop s).take (m * inf.size)) 0 cs w hg (by simp) (by rw [hln]; omega) h1
    have hr : (Builtin.copy_ #[t, u] o.type #[.slice (some ⟨g, d, none⟩) dl dc, .slice (some ⟨g, s, none⟩) sl sc]).run P w = .ok (goInt m) (w.setRow g (splice cs.toList d ((cs.toList.drop s).take (m * inf.size))).toArray) := by
      simp only [Nat.add_zero] at hst
      simp [Builtin.copy_, run_underlying ht, Builtin.lenOf, sizeOf, typeInfo, hi, ← hm, hf, hst, splice]
    rw [hrun0 _ hr]
    exact h _ (setRow_heap w g cs _ e' _ hg) (keeps_row hg)
end
end Go.Ev

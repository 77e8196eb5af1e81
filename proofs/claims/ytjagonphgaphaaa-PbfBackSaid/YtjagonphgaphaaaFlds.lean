/- Fields in memory, whoever made their bytes. -/
import Derived.Test.YtjagonphgaphaaaRead
import Derived.Test.YtjagonphgaphaaaRVars
namespace Go.Proofs.Ytjagonphgaphaaa
open Go.RowKit
set_option linter.unusedVariables false

/-- The slice (A, n) reads as xs out of a block of elements of type e. -/
def RdT (w : World) (e : TypeId) (A : Option Addr) (n : Nat) (xs : List Value) : Prop :=
  xs.length = n ∧ (0 < n → ∃ ad cs fr, A = some ad ∧ w.heap[ad.block]? = some (.cells cs e fr) ∧ ∀ j u, xs[j]? = some u → w.cell? (ad.add j) = some u)

section
variable {w w' : World} {e : TypeId} {A : Option Addr} {n : Nat} {xs : List Value}
theorem RdT.nil_ : RdT w e A 0 [] := ⟨rfl, fun h => absurd h (by omega)⟩
theorem RdT.of_block (h : RdT w e A n xs) (hk : ∀ (b : Nat) (cs : Array Value) (fr : Nat × Nat), w.heap[b]? = some (Obj.cells cs e fr) → w'.heap[b]? = w.heap[b]?) : RdT w' e A n xs :=
  ⟨h.1, fun hn => by
    obtain ⟨ad, cs, fr, hA, hb, hc⟩ := h.2 hn
    have hh := hk _ _ _ hb
    exact ⟨ad, cs, fr, hA, hh.trans hb, fun j u hu => (World.cell?_of_block (w := w) (by rw [block_of_add]; exact hh)).trans (hc j u hu)⟩⟩
theorem block_lt {b : Nat} {o : Obj} (h : w.heap[b]? = some o) : b < w.heap.size := by
  rcases Nat.lt_or_ge b w.heap.size with hlt | hge
  · exact hlt
  · rw [Array.getElem?_eq_none hge] at h; cases h
theorem RdT.below (h : RdT w e A n xs) (hb : Below w.heap.size w w') : RdT w' e A n xs :=
  h.of_block fun b _ _ hh => hb.block b (block_lt hh)
theorem RdT.drew (h : RdT w e A n xs) : RdT w.drew e A n xs := h
theorem RdT.alloc (h : RdT w e A n xs) (o : Obj) : RdT (w.alloc o) e A n xs :=
  h.of_block fun b _ _ hh => Below.heap_alloc w o b (block_lt hh)
/-- Another row grew: its elements are of another type. -/
theorem RdT.grown {base e' size m : Nat} {v : Value} {ys : List Value} (h : RdT w e A n xs) (ho : w.ownsRow base e' size v m ys) (hne : e ≠ e') (hg : w.grownBy w' v.ownBlock) : RdT w' e A n xs :=
  h.of_block fun b cs fr hh => hg.block b (block_lt hh) (by
    intro he
    rcases ho.2 with ⟨rfl, _⟩ | ⟨g, cap, cur, rfl, _, hgk, _⟩
    · simp [Value.ownBlock] at he
    · have : b = g := by simpa [Value.ownBlock] using he
      subst this
      rw [hh] at hgk
      injection hgk with hgk
      injection hgk with _ ht
      exact hne ht)
theorem RdT.of_own {base c : Nat} (h : w.ownsRow base e 1 (.slice A n c) n xs) : RdT w e A n xs := by
  refine ⟨by simpa using h.1, fun hn => ?_⟩
  rcases h.2 with ⟨_, h0⟩ | ⟨g, cap, cur, hv, _, hh, _⟩
  · omega
  · have hA : A = some ⟨g, 0, none⟩ := by injection hv
    subst hA
    exact ⟨_, cur, (0, 0), rfl, hh, h.cells (g := g) rfl⟩
theorem RdT.reads (h : RdT w e A n xs) : Reads w w.heap.size 1 A n xs :=
  ⟨by simpa using h.1, fun hn => by
    obtain ⟨ad, cs, fr, hA, hb, hc⟩ := h.2 hn
    exact ⟨ad, hA, block_lt hb, hc⟩⟩
end

def DataD (w : World) (dv : Value) (d : List UInt8) : Prop := ∃ A c, dv = .slice A d.length c ∧ d.length ≤ c ∧ RdT w 5 A d.length (d.map u8v)
/-- The cells of fields, each with bytes that read as they should. -/
def FldsD (w : World) : List Fld → List Value → Prop
  | [], xs => xs = []
  | f :: fs, xs => ∃ dv rest, xs = .int .i64 (f.1 : Nat) :: .int .i64 (f.2.1 : Nat) :: .int .u64 (f.2.2.1 : Nat) :: dv :: rest ∧ DataD w dv f.2.2.2 ∧ FldsD w fs rest
theorem DataD.of_own {w : World} {B : Nat} {dv : Value} {d : List UInt8} (h : w.ownsRow B 5 1 dv d.length (d.map u8v)) : DataD w dv d := by
  obtain ⟨A, c, rfl, hc⟩ := own_form h
  exact ⟨A, c, rfl, hc, RdT.of_own h⟩
theorem FldsR.toD {w : World} {B : Nat} : ∀ {fs : List Fld} {xs : List Value}, FldsR w B fs xs → FldsD w fs xs := by
  intro fs
  induction fs with
  | nil => intro xs h; exact h
  | cons f fs ih =>
    rintro xs ⟨dv, rest, rfl, hd, hr⟩
    exact ⟨dv, rest, rfl, .of_own hd, ih hr⟩
theorem FldsD.snoc {w : World} {f : Fld} {dv : Value} (hd : DataD w dv f.2.2.2) :
    ∀ {fs : List Fld} {xs : List Value}, FldsD w fs xs → FldsD w (fs ++ [f]) (xs ++ [.int .i64 (f.1 : Nat), .int .i64 (f.2.1 : Nat), .int .u64 (f.2.2.1 : Nat), dv]) := by
  intro fs
  induction fs with
  | nil =>
    intro xs h
    have h' : xs = [] := h
    subst h'
    exact ⟨dv, [], rfl, hd, rfl⟩
  | cons g fs ih =>
    rintro xs ⟨dv', rest, rfl, hg, hr⟩
    exact ⟨dv', _, rfl, hg, ih hr⟩
theorem FldsD.kept {w w' : World} (hk : ∀ dv d, DataD w dv d → DataD w' dv d) :
    ∀ {fs : List Fld} {xs : List Value}, FldsD w fs xs → FldsD w' fs xs := by
  intro fs
  induction fs with
  | nil => intro xs h; exact h
  | cons g fs ih =>
    rintro xs ⟨dv', rest, rfl, hg, hr⟩
    exact ⟨dv', _, rfl, hk _ _ hg, ih hr⟩
theorem DataD.below {w w' : World} {dv : Value} {d : List UInt8} (h : DataD w dv d) (hb : Below w.heap.size w w') : DataD w' dv d := by
  obtain ⟨A, c, e, hc, hr⟩ := h
  exact ⟨A, c, e, hc, hr.below hb⟩
theorem FldsD.below {w w' : World} {fs : List Fld} {xs : List Value} (h : FldsD w fs xs) (hb : Below w.heap.size w w') : FldsD w' fs xs := h.kept fun _ _ hd => hd.below hb
theorem FldsD.len {w : World} : ∀ {fs : List Fld} {xs : List Value}, FldsD w fs xs → xs.length = fs.length * 4 := by
  intro fs
  induction fs with
  | nil => intro xs h; have h' : xs = [] := h; subst h'; rfl
  | cons g fs ih =>
    rintro xs ⟨dv', rest, rfl, hg, hr⟩
    have := ih hr
    simp
    omega
/-- The i-th field's cells. -/
theorem FldsD.at_ {w : World} : ∀ {fs : List Fld} {xs : List Value} {i : Nat} (_ : FldsD w fs xs) (hi : i < fs.length),
    ∃ dv, xs[i * 4]? = some (.int .i64 (fs[i].1 : Nat)) ∧ xs[i * 4 + 1]? = some (.int .i64 (fs[i].2.1 : Nat)) ∧ xs[i * 4 + 2]? = some (.int .u64 (fs[i].2.2.1 : Nat)) ∧ xs[i * 4 + 3]? = some dv ∧ DataD w dv fs[i].2.2.2 := by
  intro fs
  induction fs with
  | nil => intro xs i _ hi; simp at hi
  | cons g fs ih =>
    rintro xs i ⟨dv', rest, rfl, hg, hr⟩ hi
    match i with
    | 0 => exact ⟨dv', rfl, rfl, rfl, rfl, hg⟩
    | i + 1 =>
      obtain ⟨dv, h0, h1, h2, h3, hd⟩ := ih (i := i) hr (by simpa using hi)
      refine ⟨dv, ?_, ?_, ?_, ?_, hd⟩
      · rw [show (i + 1) * 4 = i * 4 + 1 + 1 + 1 + 1 from by omega]; exact h0
      · rw [show (i + 1) * 4 + 1 = i * 4 + 1 + 1 + 1 + 1 + 1 from by omega]; exact h1
      · rw [show (i + 1) * 4 + 2 = i * 4 + 2 + 1 + 1 + 1 + 1 from by omega]; exact h2
      · rw [show (i + 1) * 4 + 3 = i * 4 + 3 + 1 + 1 + 1 + 1 from by omega]; exact h3

/-- '[]byte(s)': a new block whose first cells are the bytes. -/
theorem conv_bytes {P : Program} (src dst e : TypeId) (hs : P.underlying src = some .string) (hd : P.underlying dst = some (.slice e)) (he : P.underlying e = some (.int .u8)) (l : List UInt8) :
    ∃ (capF : World → Nat) (cellsF : World → Array Value) (frF : World → Nat × Nat),
      (∀ W : World, (convert src dst (strV l)).run P W = .ok (.slice (some ⟨W.heap.size, 0, none⟩) l.length (capF W)) (W.drew.alloc (.cells (cellsF W) e (frF W)))) ∧
      ∀ W : World, l.length ≤ capF W ∧ l.length ≤ (frF W).1 ∧ ∀ i, i < l.length → (cellsF W)[i]? = (l.map u8v)[i]? := by
  refine ⟨fun W => grownCap W l.length 0 e, fun W => bytesRow ⟨l.toArray⟩ (grownCap W l.length 0 e), fun W => ((bytesRow ⟨l.toArray⟩ (grownCap W l.length 0 e)).size, (bytesRow ⟨l.toArray⟩ (grownCap W l.length 0 e)).size + 1), fun W => ?_, fun W => ⟨grownCap_ge _ _ _ _, ?_, fun i hi => ?_⟩⟩
  · have h := run_bytes_of_string (P := P) W src dst e ⟨l.toArray⟩ hs hd he
    exact h
  · simp [bytesRow]
  · have h1 : i < (l.map u8v).toArray.size := by simpa using hi
    have e1 : bytesRow ⟨l.toArray⟩ (grownCap W l.length 0 e) = (l.map u8v).toArray ++ Array.replicate (grownCap W l.length 0 e - l.length) (.int .u8 0) := by
      unfold bytesRow
      simp
      rfl
    simp only [e1]
    rw [Array.getElem?_append_left h1]
    simp
theorem RdT.conv {W : World} {e : TypeId} {cs : Array Value} {fr : Nat × Nat} {l : List UInt8} (h : ∀ i, i < l.length → cs[i]? = (l.map u8v)[i]?) :
    RdT (W.drew.alloc (.cells cs e fr)) e (some ⟨W.heap.size, 0, none⟩) l.length (l.map u8v) := by
  refine ⟨by simp, fun _ => ⟨_, cs, fr, rfl, heap_alloc_new W.drew _, fun j u hu => ?_⟩⟩
  have hj : j < l.length := by
    have := (List.getElem?_eq_some_iff.1 hu).1
    simpa using this
  have hh : (W.drew.alloc (.cells cs e fr)).heap[W.heap.size]? = some (.cells cs e fr) := heap_alloc_new W.drew _
  rw [Addr.add_lit, Nat.zero_add]
  simp only [World.cell?, hh]
  exact (h j hj).trans hu

theorem reads_newN2 (w : World) (o o2 : Obj) (cs : Array Value) (e : TypeId) (size : Nat) (hs : cs.size = 1 * size) : Reads (((w.alloc o).alloc o2).alloc (.cells cs e)) (w.heap.size + 1 + 1 + 1) size (some ⟨w.heap.size + 1 + 1, 0, none⟩) 1 cs.toList := by
  have := reads_newN1 (w.alloc o) o2 cs e size hs
  rwa [World.size_alloc] at this
theorem RdT.conv1 {W : World} {o : Obj} {e : TypeId} {cs : Array Value} {fr : Nat × Nat} {l : List UInt8} (h : ∀ i, i < l.length → cs[i]? = (l.map u8v)[i]?) :
    RdT ((W.alloc o).alloc (.cells cs e fr)) e (some ⟨W.heap.size + 1, 0, none⟩) l.length (l.map u8v) := by
  have := RdT.conv (W := W.alloc o) (e := e) (fr := fr) h
  rw [World.size_alloc] at this
  exact this
end Go.Proofs.Ytjagonphgaphaaa

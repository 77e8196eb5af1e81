import Derived.Test.YtjagonphgaphaaaEvLaw
import Derived.OpenShut
import Derived.ChangeSlices
namespace Go.Ev
open Go Go.ChangeShapes Go.WideShapes Go.RowKit
set_option linter.unnecessarySimpa false
set_option linter.unusedSimpArgs false
set_option linter.unusedVariables false
section
variable {H : Type} {enc : TypeId × Value → H} {P : Program} {w : World} {base : Nat} {spare : Nat → Bool} {held : Bool}
theorem add_zero' (a : Addr) : a.add 0 = a := by simp [Addr.add]
theorem add_off (b o j : Nat) : (⟨b, o, none⟩ : Addr).add j = ⟨b, o + j, none⟩ := by
  unfold Addr.add
  split
  · rename_i h; subst h; rfl
  · rfl
/-- A slice of numbers that came in. -/
theorem open_sl {t e : TypeId} {k : IntKind} {v : Value} {d : DataW H} {p : List MemPlace} (ht : P.underlying t = some (.slice e)) (he : P.underlying e = some (.int k)) (hc : P.cellsOf e = 1)
    (hv : ∃ a len cap, v = .slice a len cap) (h : DataW.Trod enc P w base spare held t v d p) :
    ∃ zs : List Int, Rel0 w (.r (.sl 1 (zs.map fun z => .v (.int k z)))) v ∧ (∀ n ∈ zs, (Lit.int k n).wf = true) := by
  obtain ⟨a0, len, cap, rfl⟩ := hv
  obtain ⟨fuel, hf⟩ := h
  rcases open_ints ht he hc hf with ⟨hcs, hx⟩ | ⟨a, len', cap', zs, hcs, _, hl, hm, hz, hx, hcell, hwz⟩
  · simp [Value.cells] at hcs
    obtain ⟨rfl, rfl, rfl⟩ := hcs
    exact ⟨[], .r (.sl 1 [] none 0 (by simp) (by simp) 0 0 (fun _ _ => undef) (by simp) (by simp) (by simp) (by simp)), by simp⟩
  · simp [Value.cells] at hcs
    obtain ⟨rfl, rfl, rfl⟩ := hcs
    have hlz : len ≤ zs.length := by split at hz <;> omega
    have hlt : ((zs.take len).map fun z => RV.v (.int k z)).length = len := by rw [List.length_map, List.length_take]; omega
    refine ⟨zs.take len, ?_, fun n hn => hwz n (List.mem_of_mem_take hn)⟩
    have hget : ∀ (i : Nat) (x : RV), ((zs.take len).map fun z => RV.v (.int k z))[i]? = some x → i < len ∧ i < zs.length ∧ x = .v (.int k (zs.getD i 0)) := fun i x hi => by
      have h0 := (List.getElem?_eq_some_iff.1 hi).1
      rw [hlt] at h0
      rw [List.getElem?_map, List.getElem?_take_of_lt h0, List.getElem?_eq_getElem (by omega)] at hi
      simp only [Option.map_some, Option.some.injEq] at hi
      refine ⟨h0, by omega, ?_⟩
      rw [← hi, List.getD_eq_getElem?_getD, List.getElem?_eq_getElem (by omega)]
      rfl
    have key : 0 < len → a.spot = none ∧ a.block < w.heap.size := fun h0 => by
      have := hcell 0 (by omega)
      rw [add_zero', World.cell?] at this
      split at this
      · rename_i c _ _ hb
        refine ⟨?_, (Array.getElem?_eq_some_iff.1 hb).1⟩
        cases hs : a.spot with
        | none => rfl
        | some s => rw [hs] at this; simp at this
      · cases this
    have := RelV.sl (w := w) (R := All0 w) 1 ((zs.take len).map fun z => RV.v (.int k z)) (some a) cap (by rw [hlt]; exact hl) hm a.block a.off (fun i j => .int k (zs.getD i 0))
      (fun h0 => by
        rw [hlt] at h0
        obtain ⟨k1, k2⟩ := key h0
        refine ⟨?_, k2, ?_, trivial⟩
        · congr 1
          cases a
          simp only at k1
          subst k1
          rfl
        · rintro ⟨id, v, o, h1, _⟩
          simp [obs] at h1)
      (fun i x hi => by rw [(hget i x hi).2.2]; rfl)
      (fun i x j y hi hj => by
        obtain ⟨h1, h2, rfl⟩ := hget i x hi
        have hj0 : j = 0 := by
          have := (List.getElem?_eq_some_iff.1 hj).1
          simp [RV.cells] at this
          exact this
        subst hj0
        obtain ⟨k1, k2⟩ := key (by omega)
        have hc := hcell i h2
        have ha : a = ⟨a.block, a.off, none⟩ := by
          cases a
          simp only at k1
          subst k1
          rfl
        rw [ha, add_off] at hc
        rw [Nat.mul_one, Nat.add_zero]
        exact ⟨hc, rfl⟩)
      (fun i x j y hi hj => by
        obtain ⟨h1, h2, rfl⟩ := hget i x hi
        have hj0 : j = 0 := by
          have := (List.getElem?_eq_some_iff.1 hj).1
          simp [RV.cells] at this
          exact this
        subst hj0
        simp [RV.cells] at hj
        subst hj
        exact .v _)
    rw [hlt] at this
    exact .r this
/-- A slice of bytes that came in. -/
theorem open_sb {t e : TypeId} {v : Value} {d : DataW H} {p : List MemPlace} (ht : P.underlying t = some (.slice e)) (he : P.underlying e = some (.int .u8)) (hc : P.cellsOf e = 1)
    (hv : ∃ a len cap, v = .slice a len cap) (h : DataW.Trod enc P w base spare held t v d p) :
    ∃ l : List UInt8, Rel0 w (.r (.sl 1 (l.map fun c => .v (.int .u8 c.toNat)))) v := by
  obtain ⟨zs, h1, h2⟩ := open_sl ht he hc hv h
  refine ⟨zs.map fun z => UInt8.ofNat z.toNat, ?_⟩
  rw [List.map_map]
  have e : zs.map ((fun c : UInt8 => RV.v (.int .u8 c.toNat)) ∘ fun z : Int => UInt8.ofNat z.toNat) = zs.map fun z => RV.v (.int .u8 z) := List.map_congr_left fun z hz => by
    have := bounds_u8 (h2 z hz)
    simp only [Function.comp]
    congr 2
    simp
    omega
  rw [e]
  exact h1
end
end Go.Ev

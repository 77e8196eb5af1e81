/- Slices of numbers that came in, opened: they read as a list of numbers. Conditions: none. -/
import Derived.Test.YtjagonphgaphaaaWords
import Derived.OpenShut
import Derived.ChangeSlices
import Derived.Below
namespace Go.Proofs.Ytjagonphgaphaaa
open Go.ChangeShapes Go.WideShapes Go.RowKit
set_option linter.unusedVariables false

section
variable {H : Type} {enc : TypeId × Value → H} {P : Program} {w : World} {base : Nat} {spare : Nat → Bool} {held : Bool}
theorem open_row {t e : TypeId} {k : IntKind} {v : Value} {d : DataW H} {p : List MemPlace} (ht : P.underlying t = some (.slice e)) (he : P.underlying e = some (.int k)) (hc : P.cellsOf e = 1)
    (hv : ∃ a len cap, v = .slice a len cap) (h : DataW.Trod enc P w base spare held t v d p) :
    ∃ A c, ∃ zs : List Int, v = .slice A zs.length c ∧ Reads w w.heap.size 1 A zs.length (zs.map (.int k ·)) ∧ zs.length ≤ c ∧ c ≤ maxLen ∧ ∀ n ∈ zs, (Lit.int k n).wf = true := by
  obtain ⟨a0, len, cap, rfl⟩ := hv
  obtain ⟨fuel, hf⟩ := h
  rcases open_ints ht he hc hf with ⟨hcs, hx⟩ | ⟨a, len', cap', zs, hcs, _, hl, hm, hz, hx, hcell, hwz⟩
  · simp [Value.cells] at hcs
    obtain ⟨rfl, rfl, rfl⟩ := hcs
    exact ⟨none, 0, [], rfl, .none_, by simp, by simp, by simp⟩
  · simp [Value.cells] at hcs
    obtain ⟨rfl, rfl, rfl⟩ := hcs
    have hlz : len ≤ zs.length := by split at hz <;> omega
    have hlt : (zs.take len).length = len := by rw [List.length_take]; omega
    refine ⟨some a, cap, zs.take len, by rw [hlt], ?_, by rw [hlt]; exact hl, hm, fun n hn => hwz n (List.mem_of_mem_take hn)⟩
    refine ⟨by simp, fun h0 => ⟨a, rfl, ?_, fun j u hu => ?_⟩⟩
    · rw [hlt] at h0
      have := hcell 0 (by omega)
      rcases Nat.lt_or_ge a.block w.heap.size with hlt | hge
      · exact hlt
      · exfalso
        have hb : (a.add 0).block = a.block := block_of_add a 0
        have hn : w.heap[(a.add 0).block]? = none := Array.getElem?_eq_none (by rw [hb]; exact hge)
        rw [World.cell?, hn] at this
        simp at this
    · have hj : j < (zs.take len).length := by
        have := (List.getElem?_eq_some_iff.1 hu).1
        simpa using this
      rw [hlt] at hj
      rw [hcell j (by omega)]
      rw [List.getElem?_map, List.getElem?_take_of_lt hj, List.getElem?_eq_getElem (by omega)] at hu
      simp only [Option.map_some, Option.some.injEq] at hu
      rw [← hu, List.getD_eq_getElem?_getD, List.getElem?_eq_getElem (by omega)]
      rfl
theorem open_i64s {t e : TypeId} {v : Value} {d : DataW H} {p : List MemPlace} (ht : P.underlying t = some (.slice e)) (he : P.underlying e = some (.int .i64)) (hc : P.cellsOf e = 1)
    (hv : ∃ a len cap, v = .slice a len cap) (h : DataW.Trod enc P w base spare held t v d p) :
    ∃ A c, ∃ zs : List Int, v = .slice A zs.length c ∧ Reads w w.heap.size 1 A zs.length (zs.map (.int .i64 ·)) ∧ zs.length ≤ c ∧ c ≤ maxLen ∧ ∀ z ∈ zs, -9223372036854775808 ≤ z ∧ z ≤ 9223372036854775807 := by
  obtain ⟨A, c, zs, h1, h2, h3, h4, h5⟩ := open_row ht he hc hv h
  exact ⟨A, c, zs, h1, h2, h3, h4, fun z hz => bounds_i64 (h5 z hz)⟩
theorem nats_of (zs : List Int) (h : ∀ z ∈ zs, 0 ≤ z) : (zs.map Int.toNat).map (fun n : Nat => (n : Int)) = zs := by
  rw [List.map_map]
  conv => rhs; rw [← List.map_id zs]
  exact List.map_congr_left fun z hz => by simp only [Function.comp, id]; have := h z hz; omega
theorem open_u64s {t e : TypeId} {v : Value} {d : DataW H} {p : List MemPlace} (ht : P.underlying t = some (.slice e)) (he : P.underlying e = some (.int .u64)) (hc : P.cellsOf e = 1)
    (hv : ∃ a len cap, v = .slice a len cap) (h : DataW.Trod enc P w base spare held t v d p) :
    ∃ A c, ∃ zs : List Nat, v = .slice A zs.length c ∧ Reads w w.heap.size 1 A zs.length (zs.map fun n : Nat => .int .u64 (n : Int)) ∧ zs.length ≤ c ∧ c ≤ maxLen ∧ ∀ z ∈ zs, z < 18446744073709551616 := by
  obtain ⟨A, c, zs, h1, h2, h3, h4, h5⟩ := open_row ht he hc hv h
  have hn := nats_of zs fun z hz => (bounds_u64 (h5 z hz)).1
  refine ⟨A, c, zs.map Int.toNat, by rw [List.length_map]; exact h1, ?_, by rw [List.length_map]; exact h3, h4, fun z hz => ?_⟩
  · rw [List.length_map]
    have e : (zs.map Int.toNat).map (fun n : Nat => Value.int .u64 (n : Int)) = zs.map (.int .u64 ·) := by
      conv => rhs; rw [← hn]
      simp only [List.map_map]
      rfl
    rw [e]
    exact h2
  · obtain ⟨y, hy, rfl⟩ := List.mem_map.1 hz
    have := bounds_u64 (h5 y hy)
    omega
theorem open_bytes {t e : TypeId} {v : Value} {d : DataW H} {p : List MemPlace} (ht : P.underlying t = some (.slice e)) (he : P.underlying e = some (.int .u8)) (hc : P.cellsOf e = 1)
    (hv : ∃ a len cap, v = .slice a len cap) (h : DataW.Trod enc P w base spare held t v d p) :
    ∃ A c, ∃ bs : List UInt8, v = .slice A bs.length c ∧ Reads w w.heap.size 1 A bs.length (bs.map fun b => .int .u8 (b.toNat : Int)) ∧ bs.length ≤ c ∧ c ≤ maxLen ∧ True := by
  obtain ⟨A, c, zs, h1, h2, h3, h4, h5⟩ := open_row ht he hc hv h
  have hn : (zs.map fun z => UInt8.ofNat z.toNat).map (fun b => ((b.toNat : Nat) : Int)) = zs := by
    rw [List.map_map]
    conv => rhs; rw [← List.map_id zs]
    refine List.map_congr_left fun z hz => ?_
    have := bounds_u8 (h5 z hz)
    simp only [Function.comp, id, UInt8.toNat_ofNat']
    omega
  refine ⟨A, c, zs.map fun z => UInt8.ofNat z.toNat, by rw [List.length_map]; exact h1, ?_, by rw [List.length_map]; exact h3, h4, trivial⟩
  rw [List.length_map]
  have e : (zs.map fun z => UInt8.ofNat z.toNat).map (fun b => Value.int .u8 (b.toNat : Int)) = zs.map (.int .u8 ·) := by
    conv => rhs; rw [← hn]
    simp only [List.map_map]
    rfl
  rw [e]
  exact h2
end
end Go.Proofs.Ytjagonphgaphaaa

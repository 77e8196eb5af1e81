/- Contract of Vars: all of some bytes as numbers, or refused. Conditions: at most 1048576 bytes. -/
import Derived.Test.YtjagonphgaphaaaTake
namespace Go.Proofs.Ytjagonphgaphaaa
open Go.RowKit
set_option linter.unusedVariables false

theorem info_u64 : (Try.prog.info? 22).map (fun i => (i.zero, i.size, i.bytes)) = some (some (.int .u64 0), 1, 8) := by kernel_rfl
abbrev u64v (n : Nat) : Value := .int .u64 (n : Int)
def errN {α : Type} (r : Option α) : Int := if r.isSome then 0 else 10

set_option maxRecDepth 100000 in
theorem vars_any (A : Option Addr) (c : Nat) (bs : List UInt8) (w : World) (B : Nat) (hB : B ≤ w.heap.size) (hr : Reads w B 1 A bs.length (bs.map u8v)) (hc : bs.length ≤ c) (hb : bs.length ≤ 1048576) :
    Calls Try.prog 16 #[.slice A bs.length c] w fun e w' => ∃ v, e = .returned (.tuple #[v, .int .i64 (errN (varsL bs))]) ∧
      w'.ownsRow B 22 1 v ((varsL bs).getD []).length (((varsL bs).getD []).map u64v) ∧ Below B w w' := by
  obtain ⟨i0, hi0, hz0, hz1, hz2⟩ := info_parts info_u64
  go_enter Try.func16, Try.ntmps16
  go_wp2_with fail
  go_loopw [0, 4] (fun b v wr => ∃ (f : Nat) (rest : List UInt8) (acc : List Nat) (A1 : Option Addr) (c1 : Nat), b = .slice A1 rest.length c1 ∧ rest.length ≤ c1 ∧ Reads wr B 1 A1 rest.length (rest.map u8v) ∧ rest.length ≤ f ∧
      acc.length + rest.length ≤ bs.length ∧ varsL bs = (varsF f rest).map (acc ++ ·) ∧ wr.ownsRow B 22 1 v acc.length (acc.map u64v) ∧ Below B w wr) (fun b _ _ => lenV b)
  case atStart => exact ⟨bs.length, bs, [], A, c, rfl, hc, hr, Nat.le_refl _, by simp, by simp [varsL], World.ownsRow_nil _ _ _ _, Below.refl _ _⟩
  case round =>
    obtain ⟨f, rest, acc, A1, c1, rfl, hc1, hr1, hf, hl, hv, ho, hnx⟩ := hrel
    obtain ⟨A2, c2, rfl, hc2⟩ := own_form ho
    have Hv := hide hv
    clear hv
    by_cases h0 : 0 < rest.length
    · obtain ⟨t1, t2, t3⟩ := take_bound rest
      by_cases hk0 : (take rest).2 ≤ 0
      · go_wp2_with fail
        refine (take_any A1 c1 rest wr hr1 (by omega)).mono ?_
        rintro e w1 ⟨rfl, rfl⟩
        go_wp2_with fail
        go_ret2
        have hn : varsL bs = none := by rw [Hv.out, varsF_no h0 (by omega)]; rfl
        rw [hn]
        exact ⟨_, rfl, World.ownsRow_nil _ _ _ _, hnx⟩
      · obtain ⟨f', rfl, hf'⟩ := varsF_on h0 hf (Prod.eta _).symm (by omega)
        have Hf' := hide hf'
        clear hf'
        generalize htn : (take rest).1 = n at *
        generalize htk : (take rest).2 = k at *
        have Htn := hide htn
        have Htk := hide htk
        clear htn htk
        have hk1 : ((k : Int) == 0) = false := by rw [beq_eq_false_iff_ne]; omega
        by_cases hck : c1 = k
        · subst hck
          have hl1 : rest.length ≤ c1 := hc1
          go_wp2_with fail
          refine (take_any A1 c1 rest wr hr1 (by omega)).mono ?_
          rintro e w1 ⟨rfl, rfl⟩
          rw [Htn.out, Htk.out]
          go_wp2_with (at_builtin; refine stop ?_)
          intro _
          refine wpList_append_any _ rfl (.tmp 17) (.tmp 19) _ rfl B 22 i0 _ 1 8 Try.underlying29 hi0 hz0 hz1 hz2 rfl (by omega) (.slice A2 acc.length c2) acc.length _ rfl
            (ho.alloc _) (wr.heap.size + 1) _ 1 _ [_] rfl (reads_new wr _ _) (one_new rfl) (by simp only [maxLen]; omega) (by omega) (by have := hnx.size; simp; omega) ?_
          intro v1 w1 hown1 hg1 hat1
          have hb2 : Below B w w1 := (hnx.alloc (by have := hnx.size; omega) _).grown hg1 (by have := hnx.size; simp; omega) (fun k hk2 => (ho.lt k hk2).1)
          have hr2 : ∀ {A n xs}, Reads wr B 1 A n xs → Reads w1 B 1 A n xs := fun h => (h.alloc (by have := hnx.size; omega) _).grown hg1 (by have := hnx.size; simp; omega) (fun k hk2 => (ho.lt k hk2).1)
          have hv2 : varsL bs = (varsF f' (rest.drop c1)).map (acc ++ [n] ++ ·) := by
            rw [Hv.out, Hf'.out, Option.map_map]
            congr 1
            funext l
            simp
          have Hv2 := hide hv2
          clear hv2
          go_wp2_with fail
          have hnil : rest.drop c1 = [] := List.drop_eq_nil_of_le hl1
          refine ⟨⟨f', rest.drop c1, acc ++ [n], A1, c1 - c1, ?_, ?_, ?_, ?_, ?_, Hv2.out, ?_, hb2⟩, ?_⟩
          · rw [hnil]; simp
          · simp; omega
          · rw [hnil]; exact reads_nil
          · simp; omega
          · simp; omega
          · simpa using hown1
          · simp [lenV]; omega
        · go_wp2_with fail
          refine (take_any A1 c1 rest wr hr1 (by omega)).mono ?_
          rintro e w1 ⟨rfl, rfl⟩
          rw [Htn.out, Htk.out]
          go_wp2_with (at_builtin; refine stop ?_)
          intro _
          refine wpList_append_any _ rfl (.tmp 17) (.tmp 19) _ rfl B 22 i0 _ 1 8 Try.underlying29 hi0 hz0 hz1 hz2 rfl (by omega) (.slice A2 acc.length c2) acc.length _ rfl
            (ho.alloc _) (wr.heap.size + 1) _ 1 _ [_] rfl (reads_new wr _ _) (one_new rfl) (by simp only [maxLen]; omega) (by omega) (by have := hnx.size; simp; omega) ?_
          intro v1 w1 hown1 hg1 hat1
          have hb2 : Below B w w1 := (hnx.alloc (by have := hnx.size; omega) _).grown hg1 (by have := hnx.size; simp; omega) (fun k hk2 => (ho.lt k hk2).1)
          have hr2 : ∀ {A n xs}, Reads wr B 1 A n xs → Reads w1 B 1 A n xs := fun h => (h.alloc (by have := hnx.size; omega) _).grown hg1 (by have := hnx.size; simp; omega) (fun k hk2 => (ho.lt k hk2).1)
          have hv2 : varsL bs = (varsF f' (rest.drop k)).map (acc ++ [n] ++ ·) := by
            rw [Hv.out, Hf'.out, Option.map_map]
            congr 1
            funext l
            simp
          have Hv2 := hide hv2
          clear hv2
          go_wp2_with fail
          refine ⟨⟨f', rest.drop k, acc ++ [n], A1.map (·.add k), c1 - k, ?_, ?_, ?_, ?_, ?_, Hv2.out, ?_, hb2⟩, ?_⟩
          · simp
          · simp; omega
          · rw [List.length_drop]; exact hr2 (reads_drop1 hr1 t3 hc1 hck)
          · simp; omega
          · simp; omega
          · simpa using hown1
          · simp [lenV]; omega
    · go_wp2_with fail
      go_ret2
      have hn : rest = [] := List.eq_nil_of_length_eq_zero (by omega)
      have hv : varsL bs = some acc := by rw [Hv.out, hn, varsF_nil]; simp
      rw [hv]
      exact ⟨_, rfl, ho, hnx⟩
end Go.Proofs.Ytjagonphgaphaaa

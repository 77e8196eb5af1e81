/- Contracts of the writer: own, its Var, Var, Num. Conditions: the bytes ahead read as a list and are not too long for the model's append. -/
import Derived.Test.YtjagonphgaphaaaChecked
import Derived.Test.YtjagonphgaphaaaPlain
import Derived.Test.YtjagonphgaphaaaWords
import Derived.Test.YtjagonphgaphaaaLeaf
namespace Go.Proofs.Ytjagonphgaphaaa
open Go.RowKit
set_option linter.unusedVariables false

theorem info_u8 : (Try.prog.info? 5).map (fun i => (i.zero, i.size, i.bytes)) = some (some (.int .u8 0), 1, 1) := by kernel_rfl
abbrev u8v (c : UInt8) : Value := .int .u8 (c.toNat : Int)
theorem one_u8v (l : List UInt8) : ∀ u ∈ l.map u8v, u.oneCell' = true := by
  intro u hu
  obtain ⟨_, _, rfl⟩ := List.mem_map.1 hu
  rfl

theorem own_any (A : Option Addr) (c : Nat) (bs : List UInt8) (w : World) (B : Nat) (hB : B ≤ w.heap.size) (hr : Reads w w.heap.size 1 A bs.length (bs.map u8v)) (hb : bs.length ≤ 140737488355328) :
    Calls Try.prog 30 #[.slice A bs.length c] w fun e w' => ∃ g v, e = .returned (.pointer (some ⟨g, 0, none⟩)) ∧ B ≤ g ∧ Blk w' g 68 #[v] ∧ w'.ownsRow B 5 1 v bs.length (bs.map u8v) ∧ Below B w w' := by
  obtain ⟨i0, hi0, hz0, hz1, hz2⟩ := info_parts info_u8
  go_enter Try.func30, Try.ntmps30
  go_wp2_with (at_builtin; refine stop ?_)
  intro _
  refine wpList_append_any _ rfl (.tmp 3) (.tmp 4) _ rfl B 5 i0 _ 1 1 Try.underlying27 hi0 hz0 hz1 hz2 rfl (by omega) (.slice (some ⟨w.heap.size, 0, none⟩) 0 0) 0 [] rfl
         (World.ownsRow_made w #[] 0 hB (by simp [maxLen]) rfl) w.heap.size A bs.length c (bs.map u8v) rfl (hr.alloc (Nat.le_refl _) _) (one_u8v bs) (by simp only [maxLen]; omega) (by omega) (by simp; omega) ?_
  intro v1 w1 hown1 hg1 hat1
  obtain ⟨A1, c1, rfl, hc1⟩ := own_form hown1
  go_wp2_with fail
  go_ret
  simp only [Nat.zero_add, List.nil_append] at hown1
  refine ⟨_, _, rfl, ?_, Blk.new _ _ _, hown1.alloc _, ?_⟩
  · have := hg1.size; simp at this; omega
  · exact (((Below.refl _ _).alloc hB _).grown hg1 (by simp; omega) (by simp [Value.ownBlock]; omega)).alloc (by have := hg1.size; simp at this; omega) _

theorem wvar_any (g : Nat) (v : Value) (bs : List UInt8) (n : Int) (w : World) (B : Nat) (h0 : 0 ≤ n) (h1 : n < 18446744073709551616) (hB : B ≤ g) (hk : Blk w g 68 #[v])
    (ho : w.ownsRow B 5 1 v bs.length (bs.map u8v)) (hb : bs.length ≤ 140737488355300) :
    Calls Try.prog 31 #[.pointer (some ⟨g, 0, none⟩), .int .u64 n] w fun e w' => ∃ v', e = .returned (.tuple #[]) ∧ Blk w' g 68 #[v'] ∧
      w'.ownsRow B 5 1 v' (bs ++ varL n.toNat).length ((bs ++ varL n.toNat).map u8v) ∧ Below B w w' := by
  obtain ⟨i0, hi0, hz0, hz1, hz2⟩ := info_parts info_u8
  obtain ⟨n, rfl⟩ := Int.eq_ofNat_of_zero_le h0
  rw [Int.toNat_natCast]
  have hn : n < 18446744073709551616 := by omega
  clear h0 h1
  go_enter Try.func31, Try.ntmps31
  go_wp2_with fail
  go_loopw [1] (fun x wr => ∃ (f m : Nat) (P : List UInt8) (v' : Value), x = .int .u64 (m : Int) ∧ m < 18446744073709551616 ∧ P.length + f = 10 ∧ 1 ≤ f ∧ m < 128 ^ f ∧ varL n = P ++ varF f m ∧
      Blk wr g 68 #[v'] ∧ wr.ownsRow B 5 1 v' (bs ++ P).length ((bs ++ P).map u8v) ∧ Below B w wr) (fun x _ => (intOf x).toNat)
  case atStart => exact ⟨10, n, [], v, rfl, hn, rfl, by decide, Nat.lt_of_lt_of_le hn (by decide), rfl, hk, by simpa using ho, Below.refl _ _⟩
  case round =>
    obtain ⟨f, m, P, v', rfl, hm, hf, hf1, hp, hv, hk', ho', hnx⟩ := hrel
    obtain ⟨A1, c1, rfl, hc1⟩ := own_form ho'
    have hcell : wr.cell? ⟨g, 0, none⟩ = some (.slice A1 (bs ++ P).length c1) := hk'.cell 0
    have hfz : wr.frozen? ⟨g, 0, none⟩ = false := hk'.frozen 0
    have hgl := hk'.lt
    have hpl : (bs ++ P).length ≤ bs.length + 10 := by simp; omega
    generalize hxs : bs ++ P = xs at *
    have Hxs := hide hxs
    have Hv := hide hv
    clear hxs hv
    by_cases hlt : 127 < m
    · go_wp2_with (at_builtin; refine stop ?_)
      intro _
      refine wpList_append_any _ rfl (.tmp 10) (.tmp 15) _ rfl B 5 i0 _ 1 1 Try.underlying27 hi0 hz0 hz1 hz2 rfl (by omega) (.slice A1 xs.length c1) xs.length _ rfl
         (ho'.alloc _) (wr.heap.size + 1) _ 1 _ [_] rfl (reads_new wr _ _) (one_new rfl) (by simp only [maxLen]; omega) (by omega) (by simp; omega) ?_
      intro v1 w1 hown1 hg1 hat1
      obtain ⟨A2, c2, rfl, hc2⟩ := own_form hown1
      have hk1 := (hk'.alloc _).grown hg1 (own_blk_ne ho' hk' (by decide)).symm
      have hcell1 := hk1.cell 0
      have hfz1 := hk1.frozen 0
      have hgl1 := hk1.lt
      simp only [List.getElem?_toArray, List.getElem?_cons_zero] at hcell1
      have Hp := hide hp
      clear hp
      go_wp2_with fail
      refine ⟨?_, by simp [intOf]; omega⟩
      obtain ⟨f', rfl, hf1', hp', hv'⟩ := varF_big hlt Hp.out
      refine ⟨f', m / 128, P ++ [UInt8.ofNat (m % 128 + 128)], .slice A2 (xs.length + 1) c2, by go_num, by omega, by simp; omega, hf1', hp', ?_, ?_, ?_, ?_⟩
      · rw [Hv.out, hv', List.append_assoc]; rfl
      · exact hk1.set_ 0 _
      · have e : bs ++ (P ++ [UInt8.ofNat (m % 128 + 128)]) = xs ++ [UInt8.ofNat (m % 128 + 128)] := by rw [← List.append_assoc, Hxs.out]
        rw [e, List.length_append, List.map_append]
        have hb1 := byte_more m hm
        rw [hb1] at hown1
        exact ownsRow_setCell_other hown1 (own_blk_ne hown1 hk1 (by decide)) _
      · exact ((hnx.alloc (by omega) _).grown hg1 (by simp; omega) (fun k hk2 => (ho'.lt k hk2).1)).setCell hB _
    · go_wp2_with (at_builtin; refine stop ?_)
      intro _
      refine wpList_append_any _ rfl (.tmp 25) (.tmp 28) _ rfl B 5 i0 _ 1 1 Try.underlying27 hi0 hz0 hz1 hz2 rfl (by omega) (.slice A1 xs.length c1) xs.length _ rfl
         (ho'.alloc _) (wr.heap.size + 1) _ 1 _ [_] rfl (reads_new wr _ _) (one_new rfl) (by simp only [maxLen]; omega) (by omega) (by simp; omega) ?_
      intro v1 w1 hown1 hg1 hat1
      obtain ⟨A2, c2, rfl, hc2⟩ := own_form hown1
      have hk1 := (hk'.alloc _).grown hg1 (own_blk_ne ho' hk' (by decide)).symm
      have hcell1 := hk1.cell 0
      have hfz1 := hk1.frozen 0
      have hgl1 := hk1.lt
      simp only [List.getElem?_toArray, List.getElem?_cons_zero] at hcell1
      have Hp := hide hp
      clear hp
      go_wp2_with fail
      go_end0
      have hv' := varF_small (f := f) (n := m) (by omega) hf1
      have hb1 := byte_last m (by omega)
      rw [hb1] at hown1
      refine ⟨_, rfl, hk1.set_ 0 _, ?_, ((hnx.alloc (by omega) _).grown hg1 (by simp; omega) (fun k hk2 => (ho'.lt k hk2).1)).setCell hB _⟩
      rw [Hv.out, hv', ← List.append_assoc, Hxs.out, List.length_append, List.map_append]
      exact ownsRow_setCell_other hown1 (own_blk_ne hown1 hk1 (by decide)) _

theorem var_any (A : Option Addr) (c : Nat) (bs : List UInt8) (n : Int) (w : World) (B : Nat) (hB : B ≤ w.heap.size) (h0 : 0 ≤ n) (h1 : n < 18446744073709551616) (hr : Reads w w.heap.size 1 A bs.length (bs.map u8v)) (hb : bs.length ≤ 140737488355300) :
    Calls Try.prog 19 #[.slice A bs.length c, .int .u64 n] w fun e w' => ∃ v, e = .returned v ∧
      w'.ownsRow B 5 1 v (bs ++ varL n.toNat).length ((bs ++ varL n.toNat).map u8v) ∧ Below B w w' := by
  go_enter Try.func19, Try.ntmps19
  go_wp2_with fail
  refine (own_any A c bs w B hB hr (by omega)).mono ?_
  rintro e w1 ⟨g, v1, rfl, hg1, hk1, ho1, hb1⟩
  go_wp2_with fail
  refine (wvar_any g v1 bs n w1 B h0 h1 hg1 hk1 ho1 hb).mono ?_
  rintro e w2 ⟨v2, rfl, hk2, ho2, hb2⟩
  have hcell := hk2.cell 0
  simp only [List.getElem?_toArray, List.getElem?_cons_zero] at hcell
  go_wp2_with fail
  go_ret
  exact ⟨_, rfl, ho2, hb1.trans hb2⟩

theorem num_no (A : Option Addr) (c : Nat) (bs : List UInt8) (f n : Int) (w : World) (B : Nat) (hB : B ≤ w.heap.size) (g0 : -9223372036854775808 ≤ f) (g1 : f ≤ 9223372036854775807) (hf : okB f = false)
    (hr : Reads w w.heap.size 1 A bs.length (bs.map u8v)) (hb : bs.length ≤ 140737488355280) :
    Calls Try.prog 20 #[.slice A bs.length c, .int .i64 f, .int .u64 n] w fun e w' => ∃ v, e = .returned v ∧
      w'.ownsRow B 5 1 v bs.length (bs.map u8v) ∧ Below B w w' := by
  go_enter Try.func20, Try.ntmps20
  go_wp2_with fail
  refine (own_any A c bs w B hB hr (by omega)).mono ?_
  rintro e w1 ⟨g, v1, rfl, hg1, hk1, ho1, hb1⟩
  go_wp2_with fail
  refine (ok_any f w1 g0 g1).mono ?_
  rintro e w1 ⟨rfl, rfl⟩
  rw [hf]
  have hcell := hk1.cell 0
  simp only [List.getElem?_toArray, List.getElem?_cons_zero] at hcell
  go_wp2_with fail
  go_ret
  exact ⟨_, rfl, ho1, hb1⟩
theorem okB_yes {f : Int} (h1 : 1 ≤ f) (h2 : f ≤ 1000) : okB f = true := by unfold okB; simp [h1, h2]
theorem num_yes (A : Option Addr) (c : Nat) (bs : List UInt8) (f n : Int) (w : World) (B : Nat) (hB : B ≤ w.heap.size) (g0 : 1 ≤ f) (g1 : f ≤ 1000) (h0 : 0 ≤ n) (h1 : n < 18446744073709551616)
    (hr : Reads w w.heap.size 1 A bs.length (bs.map u8v)) (hb : bs.length ≤ 140737488355280) :
    Calls Try.prog 20 #[.slice A bs.length c, .int .i64 f, .int .u64 n] w fun e w' => ∃ v, e = .returned v ∧
      w'.ownsRow B 5 1 v (bs ++ varL (f * 8).toNat ++ varL n.toNat).length ((bs ++ varL (f * 8).toNat ++ varL n.toNat).map u8v) ∧ Below B w w' := by
  have hl := varL_len (f * 8).toNat
  go_enter Try.func20, Try.ntmps20
  go_wp2_with fail
  refine (own_any A c bs w B hB hr (by omega)).mono ?_
  rintro e w1 ⟨g, v1, rfl, hg1, hk1, ho1, hb1⟩
  go_wp2_with fail
  refine (ok_any f w1 (by omega) (by omega)).mono ?_
  rintro e w1 ⟨rfl, rfl⟩
  rw [okB_yes g0 g1]
  go_wp2_with fail
  refine (wvar_any g v1 bs _ w1 B (by omega) (by omega) hg1 hk1 ho1 (by omega)).mono ?_
  rintro e w2 ⟨v2, rfl, hk2, ho2, hb2⟩
  go_wp2_with fail
  refine (wvar_any g v2 _ _ w2 B (by omega) (by omega) hg1 hk2 ho2 (by simp; omega)).mono ?_
  rintro e w3 ⟨v3, rfl, hk3, ho3, hb3⟩
  have hcell := hk3.cell 0
  simp only [List.getElem?_toArray, List.getElem?_cons_zero] at hcell
  go_wp2_with fail
  go_ret
  exact ⟨_, rfl, ho3, (hb1.trans hb2).trans hb3⟩
end Go.Proofs.Ytjagonphgaphaaa

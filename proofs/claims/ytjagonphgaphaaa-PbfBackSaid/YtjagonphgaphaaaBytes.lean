/- The program's fields of bytes and of numbers. -/
import Derived.Test.YtjagonphgaphaaaRefNum
import Derived.Test.YtjagonphgaphaaaRead
namespace Go.Proofs.Ytjagonphgaphaaa
open Go.RowKit
set_option linter.unusedVariables false

set_option maxRecDepth 100000 in
theorem bytes_no (A : Option Addr) (c : Nat) (bs : List UInt8) (f : Int) (Ax : Option Addr) (cx nx : Nat) (w : World) (g0 : -9223372036854775808 ≤ f) (g1 : f ≤ 9223372036854775807) (hf : okB f = false)
    (hr : Reads w w.heap.size 1 A bs.length (bs.map u8v)) (hb : bs.length ≤ 140737488355280) :
    Calls Try.prog 21 #[.slice A bs.length c, .int .i64 f, .slice Ax nx cx] w fun e w' => ∃ v, e = .returned v ∧
      w'.ownsRow w.heap.size 5 1 v bs.length (bs.map u8v) ∧ Below w.heap.size w w' := by
  go_enter Try.func21, Try.ntmps21
  go_wp2_with fail
  refine (own_any A c bs w w.heap.size (Nat.le_refl _) hr (by omega)).mono ?_
  rintro e w1 ⟨g, v1, rfl, hg1, hk1, ho1, hb1⟩
  go_wp2_with fail
  refine (ok_any f w1 g0 g1).mono ?_
  rintro e w1 ⟨rfl, rfl⟩
  rw [hf]
  have hcell := hk1.cell 0
  simp only [List.getElem?_toArray, List.getElem?_cons_zero] at hcell
  go_wp2_with fail
  go_ret
  exact ⟨_, rfl, ho1, hb1⟩

theorem bytesL_eq (f : Int) (x : List UInt8) : varL (f * 8 + 2).toNat ++ varL x.length ++ x = bytesL f x := by
  unfold bytesL
  rw [Int.mul_comm]

set_option maxRecDepth 100000 in
theorem bytes_yes (A : Option Addr) (c : Nat) (bs : List UInt8) (f : Int) (Ax : Option Addr) (cx : Nat) (x : List UInt8) (w : World) (g0 : 1 ≤ f) (g1 : f ≤ 1000)
    (hr : Reads w w.heap.size 1 A bs.length (bs.map u8v)) (hx : Reads w w.heap.size 1 Ax x.length (x.map u8v)) (hb : bs.length + x.length ≤ 140737488355280) :
    Calls Try.prog 21 #[.slice A bs.length c, .int .i64 f, .slice Ax x.length cx] w fun e w' => ∃ v, e = .returned v ∧
      w'.ownsRow w.heap.size 5 1 v (bs ++ bytesL f x).length ((bs ++ bytesL f x).map u8v) ∧ Below w.heap.size w w' := by
  obtain ⟨i0, hi0, hz0, hz1, hz2⟩ := info_parts info_u8
  have hl1 := varL_len (f * 8 + 2).toNat
  have hl2 := varL_len x.length
  go_enter Try.func21, Try.ntmps21
  go_wp2_with fail
  refine (own_any A c bs w w.heap.size (Nat.le_refl _) hr (by omega)).mono ?_
  rintro e w1 ⟨g, v1, rfl, hg1, hk1, ho1, hb1⟩
  go_wp2_with fail
  refine (ok_any f w1 (by omega) (by omega)).mono ?_
  rintro e w1 ⟨rfl, rfl⟩
  rw [okB_yes' g0 g1]
  go_wp2_with fail
  refine (wvar_any g v1 bs _ w1 w.heap.size (by omega) (by omega) hg1 hk1 ho1 (by omega)).mono ?_
  rintro e w2 ⟨v2, rfl, hk2, ho2, hb2⟩
  go_wp2_with fail
  refine (wvar_any g v2 _ _ w2 w.heap.size (by omega) (by omega) hg1 hk2 ho2 (by simp; omega)).mono ?_
  rintro e w3 ⟨v3, rfl, hk3, ho3, hb3⟩
  rw [Int.toNat_natCast] at ho3
  obtain ⟨A3, c3, rfl, hc3⟩ := own_form ho3
  have hcell := hk3.cell 0
  have hfz := hk3.frozen 0
  have hgl := hk3.lt
  have hx3 := hx.below ((hb1.trans hb2).trans hb3)
  have hs3 := ((hb1.trans hb2).trans hb3).size
  have hlen : (bs ++ varL (f * 8 + 2).toNat ++ varL x.length).length ≤ bs.length + 20 := by simp; omega
  generalize hys : bs ++ varL (f * 8 + 2).toNat ++ varL x.length = ys at *
  have Hys := hide hys
  clear hys
  simp only [List.getElem?_toArray, List.getElem?_cons_zero] at hcell
  go_wp2_with (at_builtin; refine stop ?_)
  intro _
  refine wpList_append_any _ rfl (.tmp 30) (.tmp 31) _ rfl w.heap.size 5 i0 _ 1 1 Try.underlying27 hi0 hz0 hz1 hz2 rfl (by omega) (.slice A3 ys.length c3) ys.length _ rfl
    ho3 w.heap.size Ax x.length cx (x.map u8v) rfl hx3 (one_u8v x) (by simp only [maxLen]; omega) (by omega) (by omega) ?_
  intro v4 w4 hown4 hg4 hat4
  obtain ⟨A4, c4, rfl, hc4⟩ := own_form hown4
  have hk4 := hk3.grown hg4 (own_blk_ne ho3 hk3 (by decide)).symm
  have hcell4 := hk4.cell 0
  have hfz4 := hk4.frozen 0
  have hgl4 := hk4.lt
  simp only [List.getElem?_toArray, List.getElem?_cons_zero] at hcell4
  have hb4 : Below w.heap.size w w4 := ((hb1.trans hb2).trans hb3).grown hg4 hs3 (fun k hk => (ho3.lt k hk).1)
  go_wp2_with fail
  go_ret
  have e1 : bs ++ bytesL f x = ys ++ x := by rw [← Hys.out, ← bytesL_eq]; simp
  rw [e1, List.length_append, List.map_append]
  exact ⟨_, rfl, ownsRow_setCell_other hown4 (own_blk_ne hown4 hk4 (by decide)) _, hb4.setCell hg1 _⟩

set_option maxRecDepth 100000 in
theorem pack_any (A : Option Addr) (c : Nat) (bs : List UInt8) (f : Int) (Al : Option Addr) (cl : Nat) (l : List Nat) (w : World) (g0 : -9223372036854775808 ≤ f) (g1 : f ≤ 9223372036854775807)
    (hr : Reads w w.heap.size 1 A bs.length (bs.map u8v)) (hx : Reads w w.heap.size 1 Al l.length (l.map u64v)) (hb : bs.length ≤ 1048576) (hl : l.length ≤ 1048576) (hn : ∀ n ∈ l, n < 18446744073709551616) :
    Calls Try.prog 22 #[.slice A bs.length c, .int .i64 f, .slice Al l.length cl] w fun e w' => ∃ v, e = .returned v ∧
      w'.ownsRow w.heap.size 5 1 v (bs ++ packS f l).length ((bs ++ packS f l).map u8v) ∧ Below w.heap.size w w' := by
  go_enter Try.func22, Try.ntmps22
  go_wp2_with fail
  go_loopw [14] (fun i wr => ∃ (k : Nat) (v : Value), k ≤ l.length ∧ i = .int .i64 (k : Int) ∧ Blk wr w.heap.size 68 #[v] ∧
      wr.ownsRow w.heap.size 5 1 v ((l.take k).flatMap varL).length (((l.take k).flatMap varL).map u8v) ∧ Below w.heap.size w wr) (fun i _ => l.length - (intOf i).toNat)
  case atStart => exact ⟨0, .slice none 0 0, by omega, rfl, Blk.new _ _ _, World.ownsRow_nil _ _ _ _, (Below.refl _ _).alloc (Nat.le_refl _) _⟩
  case round =>
    obtain ⟨k, v, hk, rfl, hkb, ho, hnx⟩ := hrel
    by_cases hlt : k < l.length
    · obtain ⟨ad, rfl, hcell⟩ := reads_u64 (hx.below hnx) hlt
      have hlk := hn l[k] (List.getElem_mem hlt)
      have Hf := hide (flat_take hlt)
      have hfl := flat_len (l.take k)
      rw [List.length_take] at hfl
      generalize (l.take k).flatMap varL = s at *
      generalize l[k] = n at *
      go_wp2_with fail
      refine (wvar_any w.heap.size v s _ wr w.heap.size (by omega) (by omega) (Nat.le_refl _) hkb ho (by omega)).mono ?_
      rintro e w2 ⟨v2, rfl, hk2, ho2, hb2⟩
      rw [Int.toNat_natCast] at ho2
      go_wp2_with fail
      refine ⟨⟨k + 1, v2, by omega, by go_num, hk2, ?_, hnx.trans hb2⟩, by simp [intOf]; omega⟩
      rw [Hf.out]
      exact ho2
    · have hkl : l.take k = l := List.take_of_length_le (by omega)
      rw [hkl] at ho
      clear hkl
      have hfl := flat_len l
      have hsz := hnx.size
      obtain ⟨A3, c3, rfl, hc3⟩ := own_form ho
      have hcell := hkb.cell 0
      simp only [List.getElem?_toArray, List.getElem?_cons_zero] at hcell
      rcases hok : okB f with _ | _
      · have hps := hide (packS_no hok l)
        generalize l.flatMap varL = s at *
        go_wp2_with fail
        refine (bytes_no A c bs f A3 c3 s.length wr g0 g1 hok ((hr.below hnx).more hsz) (by omega)).mono ?_
        rintro e w2 ⟨v2, rfl, ho2, hb2⟩
        go_wp2_with fail
        go_ret
        rw [hps.out, List.append_nil]
        exact ⟨_, rfl, own_mono ho2 hsz, hnx.trans (hb2.mono hsz)⟩
      · have hps := hide (packS_yes hok l)
        generalize l.flatMap varL = s at *
        have hok' := hok
        unfold okB at hok'
        simp only [Bool.and_eq_true, decide_eq_true_eq] at hok'
        go_wp2_with fail
        refine (bytes_yes A c bs f A3 c3 s wr hok'.1 hok'.2 ((hr.below hnx).more hsz) (own_reads ho rfl) (by omega)).mono ?_
        rintro e w2 ⟨v2, rfl, ho2, hb2⟩
        go_wp2_with fail
        go_ret
        rw [hps.out]
        exact ⟨_, rfl, own_mono ho2 hsz, hnx.trans (hb2.mono hsz)⟩
end Go.Proofs.Ytjagonphgaphaaa

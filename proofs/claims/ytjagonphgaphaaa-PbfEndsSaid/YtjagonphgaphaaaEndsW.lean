/- PbfEnds' walk: what is longer than a number of 64 bits, or runs over the end, is refused; fields of other kinds, too. -/
import Derived.Test.YtjagonphgaphaaaAwake
import Derived.Test.YtjagonphgaphaaaBytes
import Derived.Test.YtjagonphgaphaaaPlainEnds
import Derived.Test.YtjagonphgaphaaaVarsAt
namespace Go.Proofs.Ytjagonphgaphaaa
open Go.RowKit
set_option linter.unusedVariables false

theorem zeros_bytes (n : Nat) : (madeCells (Value.int .u8 0).cells (n * 1)).toList = (List.replicate n (0 : UInt8)).map u8v := by
  apply List.ext_getElem
  · simp [size_madeCells]
  · intro i h1 h2
    have e : i % 1 = 0 := Nat.mod_one i
    simp [madeCells, Value.cells, e]
theorem own_len {w : World} {base e size : Nat} {v : Value} {n m : Nat} {xs : List Value} (h : w.ownsRow base e size v n xs) (hn : n = m) : w.ownsRow base e size v m xs := hn ▸ h
theorem reads_arr (w : World) (cs : Array Value) (e : TypeId) : Reads (w.alloc (.cells cs e)) (w.heap.size + 1) 1 (some ⟨w.heap.size, 0, none⟩) cs.size cs.toList := by
  refine ⟨by simp, fun _ => ⟨_, rfl, Nat.lt_succ_self _, fun j x hx => ?_⟩⟩
  have h := (Blk.new w e cs).cell j
  rw [Addr.add_lit, Nat.zero_add, h]
  simpa using hx
theorem val_bytes {c : Nat} (h : c < 256) : Value.int .u8 (c : Int) = u8v (UInt8.ofNat c) := by
  unfold u8v
  rw [ofNat_toNat_small h]

set_option maxRecDepth 100000 in
set_option maxHeartbeats 800000 in
theorem ends_walk (c : Nat) (f m : Int) (w : World) (hc : c < 256) (f1 : -9223372036854775808 ≤ f) (f2 : f ≤ 9223372036854775807) (m1 : -9223372036854775808 ≤ m) (m2 : m ≤ 9223372036854775807) :
    Calls Try.prog 7 #[.int .u8 c, .int .i64 f, .int .i64 m] w fun e w' => e = .returned (.bool true) ∧ Below w.heap.size w w' := by
  have hf := and511 f1 f2
  have hm := and255 m1 m2
  obtain ⟨F, hF1, hF2⟩ : ∃ F : Int, F = f % 512 + 1 ∧ 1 ≤ F ∧ F ≤ 512 := ⟨_, rfl, by omega, by omega⟩
  have hfp : 0 ≤ f % 512 ∧ f % 512 < 512 := by omega
  have hmp : 0 ≤ m % 256 ∧ m % 256 < 256 := by omega
  generalize f % 512 = f0 at *
  generalize m % 256 = m0 at *
  have h7 := andu7 (z := (c : Int)) (by omega) (by omega)
  have h7p : 0 ≤ (c : Int) % 8 ∧ (c : Int) % 8 < 8 := by omega
  generalize (c : Int) % 8 = K at *
  clear hF1
  have hread : Reads (w.alloc (.cells #[.int .u8 255, .int .u8 255, .int .u8 255, .int .u8 255, .int .u8 255, .int .u8 255, .int .u8 255, .int .u8 255, .int .u8 255, .int .u8 c] 5)) (w.heap.size + 1) 1 (some ⟨w.heap.size, 0, none⟩) 10 ((longL (UInt8.ofNat c)).map u8v) := by
    have h := reads_arr w #[.int .u8 255, .int .u8 255, .int .u8 255, .int .u8 255, .int .u8 255, .int .u8 255, .int .u8 255, .int .u8 255, .int .u8 255, .int .u8 c] 5
    rw [val_bytes hc] at h ⊢
    exact h
  obtain ⟨i0, hi0, hz0, hz1, hz2⟩ := info_parts info_u8
  obtain ⟨M, rfl⟩ := Int.eq_ofNat_of_zero_le hmp.1
  by_cases h1 : c = 1
  · subst h1
    have HL := hide varsL_long1
    rw [show ((1 : Nat) : Int) = 1 from rfl, show UInt8.ofNat 1 = 1 from rfl] at hread
    rw [show ((1 : Nat) : Int) = 1 from rfl] at h7
    go_enter Try.func7, Try.ntmps7
    go_wp2_with fail
    refine (vars_at (n := 10) _ _ (longL 1) _ (w.heap.size + 1) rfl (by simp) hread (by decide) (by decide)).mono ?_
    rw [HL.out]
    rintro e w1 ⟨v1, rfl, ho1, hb1⟩
    have hb1' : Below w.heap.size w w1 := ((Below.refl _ _).alloc (Nat.le_refl _) _).trans (hb1.mono (by omega))
    rw [show errN (some [18446744073709551615]) = 0 from rfl]
    obtain ⟨g1, cap1, rfl, _, _⟩ := ho1.form (by simp)
    have hcell1 : w1.cell? ⟨g1, 0, none⟩ = some (.int .u64 18446744073709551615) := ho1.cellAt 0 (by simp)
    go_wp2_with (at_make; refine stop ?_)
    intro _
    refine wpList_make_full _ rfl _ _ 27 rfl w.heap.size 5 i0 (.int .u8 0) 1 Try.underlying27 hi0 hz0 hz1 _ _ _ _ (M + 1) rfl rfl (by omega) (by omega) (by rw [hz2]; omega) (by unfold maxLen; omega) ?_ ?_
    · exact hb1'.size
    intro w2 hown2 hg2
    have hb2 : Below w.heap.size w w2 := hb1'.grown hg2 hb1'.size (by simp)
    rw [zeros_bytes] at hown2
    have hsz2 := hb2.size
    go_wp2_with fail
    refine (bytes_at (n := 0) (m := M + 1) none 0 [] _ _ _ (List.replicate (M + 1) 0) w2 rfl (by simp) (by omega) (by omega) reads_nil (own_reads hown2 rfl) (by omega)).mono ?_
    simp only [List.nil_append]
    rintro e w3 ⟨v3, rfl, ho3, hb3⟩
    have hcut := readL_cut (f0 + 1) (List.replicate (M + 1) 0) (by omega) (by omega) (by simp) (by simp; omega)
    obtain ⟨q, hq, hq1, hq2⟩ : ∃ q, (bytesL (f0 + 1) (List.replicate (M + 1) 0)).length = q + 1 ∧ 1 ≤ q ∧ q ≤ 1000 := by
      have e1 := varL_pos (8 * (f0 + 1) + 2).toNat
      have e2 := varL_pos (List.replicate (M + 1) (0 : UInt8)).length
      have e3 := varL_len (8 * (f0 + 1) + 2).toNat
      have e4 := varL_len (List.replicate (M + 1) (0 : UInt8)).length
      have e5 : (List.replicate (M + 1) (0 : UInt8)).length = M + 1 := by simp
      refine ⟨(bytesL (f0 + 1) (List.replicate (M + 1) 0)).length - 1, ?_, ?_, ?_⟩ <;> (unfold bytesL; rw [List.length_append, List.length_append]; omega)
    generalize bytesL (f0 + 1) (List.replicate (M + 1) 0) = bl at *
    rw [hq] at ho3 hcut
    have Hcut := hide hcut
    have Hq := hide hq
    clear hcut hq hown2
    obtain ⟨gb, cb, rfl, _, hgb⟩ := ho3.form (by omega)
    have hcb : q + 1 ≤ cb := by
      obtain ⟨_, _, h, h2⟩ := own_form ho3
      simp only [Value.slice.injEq] at h
      omega
    have hsz3 := hb3.size
    go_wp2_with fail
    have hr3 : Reads w3 w3.heap.size 1 (some ⟨gb, 0, none⟩) q ((bl.take q).map u8v) := by
      rw [List.map_take]
      exact reads_take (own_reads ho3 rfl) (by omega)
    have hqt : (bl.take q).length = q := by rw [List.length_take, Hq.out]; omega
    refine (read_at (n := q) _ cb (bl.take q) w3 w3.heap.size hqt (Nat.le_refl _) hr3 (by omega) (by omega)).mono ?_
    rw [show q + 1 - 1 = q from by omega] at Hcut
    rw [Hcut.out]
    rintro e w4 ⟨v4, xs4, rfl, _, _, hb4⟩
    rw [show errN (none : Option (List Fld)) = 10 from rfl]
    have hsz4 := hb4.size
    clear hr3 hqt
    go_wp2_with fail
    have hvl := varL_len (8 * (f0 + 1) + K).toNat
    refine (var_at (m := 0) none 0 [] (8 * (f0 + 1) + K) w4 rfl (by omega) (by omega) reads_nil (by decide)).mono ?_
    rintro e w5 ⟨v5, rfl, ho5, hb5⟩
    have hl5 := varL_len (8 * (f0 + 1) + K).toNat
    generalize hz5 : ([] : List UInt8) ++ varL (8 * (f0 + 1) + K).toNat = z5 at *
    have Hz5 := hide hz5
    have hzl5 : z5.length ≤ 10 := by rw [← hz5]; simpa using hl5
    clear hz5
    obtain ⟨A5, c5, rfl, hc5⟩ := own_form ho5
    have hs5 := hb5.size
    go_wp2_with (at_builtin; refine stop ?_)
    intro _
    refine wpList_append_any _ rfl (.tmp 86) (.tmp 87) _ rfl w4.heap.size 5 i0 _ 1 1 Try.underlying27 hi0 hz0 hz1 hz2 rfl (by omega) (.slice A5 z5.length c5) z5.length _ rfl
      (ho5.alloc _) (w5.heap.size + 1) _ 1 _ [_] rfl (reads_new w5 _ _) (one_new rfl) (by simp only [maxLen]; omega) (by omega) (by simp; omega) ?_
    intro v6 w6 hown6 hg6 hat6
    have hown6 := own_snoc u8v (c := 0) hown6
    obtain ⟨A6, c6, rfl, hc6⟩ := own_form hown6
    have hb6 : Below w4.heap.size w4 w6 := (hb5.alloc hs5 _).grown hg6 (by simp; omega) (fun k hk => (ho5.lt k hk).1)
    have hs6 := hb6.size
    have hzs5 : (z5 ++ [0]).length = z5.length + 1 := by simp
    rw [hzs5] at hown6 hc6
    have hzs5 := hide hzs5
    go_wp2_with fail
    refine (read_at (n := z5.length + 1) _ c6 (z5 ++ [0]) w6 w6.heap.size (by simp) (Nat.le_refl _) (own_reads hown6 rfl) (by omega) (by omega)).mono ?_
    generalize hE : errN (readL (z5 ++ [0])) = E5
    rintro e w7 ⟨v7, xs7, rfl, _, _, hb7⟩
    have HE := hide hE
    clear hE
    have hs7 := hb7.size
    go_wp2_with fail
    refine (var_at (m := 0) none 0 [] 8008 w7 rfl (by omega) (by omega) reads_nil (by decide)).mono ?_
    rintro e w8 ⟨v8, rfl, ho8, hb8⟩
    have hl8 := varL_len (8008 : Int).toNat
    generalize hz8 : ([] : List UInt8) ++ varL (8008 : Int).toNat = z8 at *
    have Hz8 := hide hz8
    have hzl8 : z8.length ≤ 10 := by rw [← hz8]; simpa using hl8
    clear hz8
    obtain ⟨A8, c8, rfl, hc8⟩ := own_form ho8
    have hs8 := hb8.size
    go_wp2_with (at_builtin; refine stop ?_)
    intro _
    refine wpList_append_any _ rfl (.tmp 93) (.tmp 94) _ rfl w7.heap.size 5 i0 _ 1 1 Try.underlying27 hi0 hz0 hz1 hz2 rfl (by omega) (.slice A8 z8.length c8) z8.length _ rfl
      (ho8.alloc _) (w8.heap.size + 1) _ 1 _ [_] rfl (reads_new w8 _ _) (one_new rfl) (by simp only [maxLen]; omega) (by omega) (by simp; omega) ?_
    intro v9 w9 hown9 hg9 hat9
    have hown9 := own_snoc u8v (c := 5) hown9
    obtain ⟨A9, c9, rfl, hc9⟩ := own_form hown9
    have hb9 : Below w7.heap.size w7 w9 := (hb8.alloc hs8 _).grown hg9 (by simp; omega) (fun k hk => (ho8.lt k hk).1)
    have hs9 := hb9.size
    have hzs8 : (z8 ++ [5]).length = z8.length + 1 := by simp
    rw [hzs8] at hown9 hc9
    have hzs8 := hide hzs8
    go_wp2_with fail
    refine (read_at (n := z8.length + 1) _ c9 (z8 ++ [5]) w9 w9.heap.size (by simp) (Nat.le_refl _) (own_reads hown9 rfl) (by omega) (by omega)).mono ?_
    have h8008 : readL (z8 ++ [5]) = none := by rw [← Hz8.out]; exact readL_8008
    rw [h8008]
    rintro e w10 ⟨v10, xs10, rfl, _, _, hb10⟩
    rw [show errN (none : Option (List Fld)) = 10 from rfl]
    have hs10 := hb10.size
    have hbend : Below w.heap.size w w10 := ((((hb2.trans (hb3.mono hsz2)).trans (hb4.mono (by omega))).trans (hb6.mono (by omega))).trans ((hb7.mono (by omega)).trans (hb9.mono (by omega)))).trans (hb10.mono (by omega))
    have he5 := errN_var0 (f0 + 1) K (by omega) (by omega) (by omega) (by omega)
    rw [Hz5.out, HE.out] at he5
    rcases (show K = 0 ∨ K = 2 ∨ (K ≠ 0 ∧ K ≠ 2) from by omega) with hK | hK | ⟨hK, hK2⟩
    · rw [if_pos (.inl hK)] at he5
      subst he5
      have hK1 : (K == 0) = true := by rw [beq_iff_eq]; omega
      clear hK
      go_wp2_with fail
      refine (awake_any w10).mono ?_
      rintro e w11 ⟨rfl, hb11⟩
      go_wp2_with fail
      go_ret
      exact ⟨rfl, hbend.trans (hb11.mono hbend.size)⟩
    · rw [if_pos (.inr hK)] at he5
      subst he5
      have hK1 : (K == 0) = false := by rw [beq_eq_false_iff_ne]; omega
      have hK3 : (K == 2) = true := by rw [beq_iff_eq]; omega
      clear hK
      go_wp2_with fail
      refine (awake_any w10).mono ?_
      rintro e w11 ⟨rfl, hb11⟩
      go_wp2_with fail
      go_ret
      exact ⟨rfl, hbend.trans (hb11.mono hbend.size)⟩
    · rw [if_neg (by omega)] at he5
      subst he5
      have hK1 : (K == 0) = false := by rw [beq_eq_false_iff_ne]; omega
      have hK3 : (K == 2) = false := by rw [beq_eq_false_iff_ne]; omega
      clear hK hK2
      go_wp2_with fail
      refine (awake_any w10).mono ?_
      rintro e w11 ⟨rfl, hb11⟩
      go_wp2_with fail
      go_ret
      exact ⟨rfl, hbend.trans (hb11.mono hbend.size)⟩
  · have HL := hide (varsL_long ⟨c, hc⟩ h1)
    have hc1 : ((c : Int) == 1) = false := by rw [beq_eq_false_iff_ne]; omega
    go_enter Try.func7, Try.ntmps7
    go_wp2_with fail
    refine (vars_at (n := 10) _ _ (longL (UInt8.ofNat c)) _ (w.heap.size + 1) rfl (by simp) hread (by decide) (by decide)).mono ?_
    rw [HL.out]
    rintro e w1 ⟨v1, rfl, ho1, hb1⟩
    have hb1' : Below w.heap.size w w1 := ((Below.refl _ _).alloc (Nat.le_refl _) _).trans (hb1.mono (by omega))
    rw [show errN (none : Option (List Nat)) = 10 from rfl]
    obtain ⟨A1, c1, rfl, _⟩ := own_form ho1
    go_wp2_with (at_make; refine stop ?_)
    intro _
    refine wpList_make_full _ rfl _ _ 27 rfl w.heap.size 5 i0 (.int .u8 0) 1 Try.underlying27 hi0 hz0 hz1 _ _ _ _ (M + 1) rfl rfl (by omega) (by omega) (by rw [hz2]; omega) (by unfold maxLen; omega) ?_ ?_
    · exact hb1'.size
    intro w2 hown2 hg2
    have hb2 : Below w.heap.size w w2 := hb1'.grown hg2 hb1'.size (by simp)
    rw [zeros_bytes] at hown2
    have hsz2 := hb2.size
    go_wp2_with fail
    refine (bytes_at (n := 0) (m := M + 1) none 0 [] _ _ _ (List.replicate (M + 1) 0) w2 rfl (by simp) (by omega) (by omega) reads_nil (own_reads hown2 rfl) (by omega)).mono ?_
    simp only [List.nil_append]
    rintro e w3 ⟨v3, rfl, ho3, hb3⟩
    have hcut := readL_cut (f0 + 1) (List.replicate (M + 1) 0) (by omega) (by omega) (by simp) (by simp; omega)
    obtain ⟨q, hq, hq1, hq2⟩ : ∃ q, (bytesL (f0 + 1) (List.replicate (M + 1) 0)).length = q + 1 ∧ 1 ≤ q ∧ q ≤ 1000 := by
      have e1 := varL_pos (8 * (f0 + 1) + 2).toNat
      have e2 := varL_pos (List.replicate (M + 1) (0 : UInt8)).length
      have e3 := varL_len (8 * (f0 + 1) + 2).toNat
      have e4 := varL_len (List.replicate (M + 1) (0 : UInt8)).length
      have e5 : (List.replicate (M + 1) (0 : UInt8)).length = M + 1 := by simp
      refine ⟨(bytesL (f0 + 1) (List.replicate (M + 1) 0)).length - 1, ?_, ?_, ?_⟩ <;> (unfold bytesL; rw [List.length_append, List.length_append]; omega)
    generalize bytesL (f0 + 1) (List.replicate (M + 1) 0) = bl at *
    rw [hq] at ho3 hcut
    have Hcut := hide hcut
    have Hq := hide hq
    clear hcut hq hown2
    obtain ⟨gb, cb, rfl, _, hgb⟩ := ho3.form (by omega)
    have hcb : q + 1 ≤ cb := by
      obtain ⟨_, _, h, h2⟩ := own_form ho3
      simp only [Value.slice.injEq] at h
      omega
    have hsz3 := hb3.size
    go_wp2_with fail
    have hr3 : Reads w3 w3.heap.size 1 (some ⟨gb, 0, none⟩) q ((bl.take q).map u8v) := by
      rw [List.map_take]
      exact reads_take (own_reads ho3 rfl) (by omega)
    have hqt : (bl.take q).length = q := by rw [List.length_take, Hq.out]; omega
    refine (read_at (n := q) _ cb (bl.take q) w3 w3.heap.size hqt (Nat.le_refl _) hr3 (by omega) (by omega)).mono ?_
    rw [show q + 1 - 1 = q from by omega] at Hcut
    rw [Hcut.out]
    rintro e w4 ⟨v4, xs4, rfl, _, _, hb4⟩
    rw [show errN (none : Option (List Fld)) = 10 from rfl]
    have hsz4 := hb4.size
    clear hr3 hqt
    go_wp2_with fail
    have hvl := varL_len (8 * (f0 + 1) + K).toNat
    refine (var_at (m := 0) none 0 [] (8 * (f0 + 1) + K) w4 rfl (by omega) (by omega) reads_nil (by decide)).mono ?_
    rintro e w5 ⟨v5, rfl, ho5, hb5⟩
    have hl5 := varL_len (8 * (f0 + 1) + K).toNat
    generalize hz5 : ([] : List UInt8) ++ varL (8 * (f0 + 1) + K).toNat = z5 at *
    have Hz5 := hide hz5
    have hzl5 : z5.length ≤ 10 := by rw [← hz5]; simpa using hl5
    clear hz5
    obtain ⟨A5, c5, rfl, hc5⟩ := own_form ho5
    have hs5 := hb5.size
    go_wp2_with (at_builtin; refine stop ?_)
    intro _
    refine wpList_append_any _ rfl (.tmp 86) (.tmp 87) _ rfl w4.heap.size 5 i0 _ 1 1 Try.underlying27 hi0 hz0 hz1 hz2 rfl (by omega) (.slice A5 z5.length c5) z5.length _ rfl
      (ho5.alloc _) (w5.heap.size + 1) _ 1 _ [_] rfl (reads_new w5 _ _) (one_new rfl) (by simp only [maxLen]; omega) (by omega) (by simp; omega) ?_
    intro v6 w6 hown6 hg6 hat6
    have hown6 := own_snoc u8v (c := 0) hown6
    obtain ⟨A6, c6, rfl, hc6⟩ := own_form hown6
    have hb6 : Below w4.heap.size w4 w6 := (hb5.alloc hs5 _).grown hg6 (by simp; omega) (fun k hk => (ho5.lt k hk).1)
    have hs6 := hb6.size
    have hzs5 : (z5 ++ [0]).length = z5.length + 1 := by simp
    rw [hzs5] at hown6 hc6
    have hzs5 := hide hzs5
    go_wp2_with fail
    refine (read_at (n := z5.length + 1) _ c6 (z5 ++ [0]) w6 w6.heap.size (by simp) (Nat.le_refl _) (own_reads hown6 rfl) (by omega) (by omega)).mono ?_
    generalize hE : errN (readL (z5 ++ [0])) = E5
    rintro e w7 ⟨v7, xs7, rfl, _, _, hb7⟩
    have HE := hide hE
    clear hE
    have hs7 := hb7.size
    go_wp2_with fail
    refine (var_at (m := 0) none 0 [] 8008 w7 rfl (by omega) (by omega) reads_nil (by decide)).mono ?_
    rintro e w8 ⟨v8, rfl, ho8, hb8⟩
    have hl8 := varL_len (8008 : Int).toNat
    generalize hz8 : ([] : List UInt8) ++ varL (8008 : Int).toNat = z8 at *
    have Hz8 := hide hz8
    have hzl8 : z8.length ≤ 10 := by rw [← hz8]; simpa using hl8
    clear hz8
    obtain ⟨A8, c8, rfl, hc8⟩ := own_form ho8
    have hs8 := hb8.size
    go_wp2_with (at_builtin; refine stop ?_)
    intro _
    refine wpList_append_any _ rfl (.tmp 93) (.tmp 94) _ rfl w7.heap.size 5 i0 _ 1 1 Try.underlying27 hi0 hz0 hz1 hz2 rfl (by omega) (.slice A8 z8.length c8) z8.length _ rfl
      (ho8.alloc _) (w8.heap.size + 1) _ 1 _ [_] rfl (reads_new w8 _ _) (one_new rfl) (by simp only [maxLen]; omega) (by omega) (by simp; omega) ?_
    intro v9 w9 hown9 hg9 hat9
    have hown9 := own_snoc u8v (c := 5) hown9
    obtain ⟨A9, c9, rfl, hc9⟩ := own_form hown9
    have hb9 : Below w7.heap.size w7 w9 := (hb8.alloc hs8 _).grown hg9 (by simp; omega) (fun k hk => (ho8.lt k hk).1)
    have hs9 := hb9.size
    have hzs8 : (z8 ++ [5]).length = z8.length + 1 := by simp
    rw [hzs8] at hown9 hc9
    have hzs8 := hide hzs8
    go_wp2_with fail
    refine (read_at (n := z8.length + 1) _ c9 (z8 ++ [5]) w9 w9.heap.size (by simp) (Nat.le_refl _) (own_reads hown9 rfl) (by omega) (by omega)).mono ?_
    have h8008 : readL (z8 ++ [5]) = none := by rw [← Hz8.out]; exact readL_8008
    rw [h8008]
    rintro e w10 ⟨v10, xs10, rfl, _, _, hb10⟩
    rw [show errN (none : Option (List Fld)) = 10 from rfl]
    have hs10 := hb10.size
    have hbend : Below w.heap.size w w10 := ((((hb2.trans (hb3.mono hsz2)).trans (hb4.mono (by omega))).trans (hb6.mono (by omega))).trans ((hb7.mono (by omega)).trans (hb9.mono (by omega)))).trans (hb10.mono (by omega))
    have he5 := errN_var0 (f0 + 1) K (by omega) (by omega) (by omega) (by omega)
    rw [Hz5.out, HE.out] at he5
    rcases (show K = 0 ∨ K = 2 ∨ (K ≠ 0 ∧ K ≠ 2) from by omega) with hK | hK | ⟨hK, hK2⟩
    · rw [if_pos (.inl hK)] at he5
      subst he5
      have hK1 : (K == 0) = true := by rw [beq_iff_eq]; omega
      clear hK
      go_wp2_with fail
      refine (awake_any w10).mono ?_
      rintro e w11 ⟨rfl, hb11⟩
      go_wp2_with fail
      go_ret
      exact ⟨rfl, hbend.trans (hb11.mono hbend.size)⟩
    · rw [if_pos (.inr hK)] at he5
      subst he5
      have hK1 : (K == 0) = false := by rw [beq_eq_false_iff_ne]; omega
      have hK3 : (K == 2) = true := by rw [beq_iff_eq]; omega
      clear hK
      go_wp2_with fail
      refine (awake_any w10).mono ?_
      rintro e w11 ⟨rfl, hb11⟩
      go_wp2_with fail
      go_ret
      exact ⟨rfl, hbend.trans (hb11.mono hbend.size)⟩
    · rw [if_neg (by omega)] at he5
      subst he5
      have hK1 : (K == 0) = false := by rw [beq_eq_false_iff_ne]; omega
      have hK3 : (K == 2) = false := by rw [beq_eq_false_iff_ne]; omega
      clear hK hK2
      go_wp2_with fail
      refine (awake_any w10).mono ?_
      rintro e w11 ⟨rfl, hb11⟩
      go_wp2_with fail
      go_ret
      exact ⟨rfl, hbend.trans (hb11.mono hbend.size)⟩
theorem ends_walk' (c f m : Int) (w : World) (hc0 : 0 ≤ c) (hc : c ≤ 255) (f1 : -9223372036854775808 ≤ f) (f2 : f ≤ 9223372036854775807) (m1 : -9223372036854775808 ≤ m) (m2 : m ≤ 9223372036854775807) :
    Calls Try.prog 7 #[.int .u8 c, .int .i64 f, .int .i64 m] w fun e w' => e = .returned (.bool true) ∧ Below w.heap.size w w' := by
  obtain ⟨c, rfl⟩ := Int.eq_ofNat_of_zero_le hc0
  exact ends_walk c f m w (by omega) f1 f2 m1 m2
end Go.Proofs.Ytjagonphgaphaaa

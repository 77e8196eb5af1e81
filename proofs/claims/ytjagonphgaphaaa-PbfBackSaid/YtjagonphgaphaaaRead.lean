/- Contract of Read: all of some bytes as fields, or refused. Conditions: at most 1048576 bytes. -/
import Derived.Test.YtjagonphgaphaaaData
import Derived.Test.YtjagonphgaphaaaVars
namespace Go.Proofs.Ytjagonphgaphaaa
open Go.RowKit
set_option linter.unusedVariables false

theorem one_no {B : Nat} (A : Option Addr) (c : Nat) (bs : List UInt8) (w : World) (hB : B ≤ w.heap.size) (hr : Reads w B 1 A bs.length (bs.map u8v)) (hc : bs.length ≤ c) (hb : bs.length ≤ 140737488355328)
    (h : oneL bs = none) : Calls Try.prog 27 #[.slice A bs.length c] w fun e w' => e = .returned zeroFld ∧ Below w.heap.size w w' := by
  unfold oneL at h
  rcases hx : take bs with ⟨tag, k⟩
  rw [hx] at h
  simp only at h
  rcases hy : take (bs.drop k) with ⟨n, j⟩
  rw [hy] at h
  simp only at h
  split at h
  · rename_i h1; exact one_none1 A c bs w hB hr hb tag k hx h1
  · rename_i h1
    split at h
    · rename_i h2
      subst h2
      exact one_none2 A c bs w hB hr hc hb tag k n hx (by omega) (by omega) (by omega) hy
    · rename_i h2
      split at h
      · cases h
      · rename_i h3
        split at h
        · cases h
        · rename_i h4
          exact one_none3 A c bs w hB hr hc hb tag k n j hx (by omega) (by omega) (by omega) hy h2 (by omega) (by omega)

theorem one_yes {B : Nat} (A : Option Addr) (c : Nat) (bs : List UInt8) (w : World) (hB : B ≤ w.heap.size) (hr : Reads w B 1 A bs.length (bs.map u8v)) (hc : bs.length ≤ c) (hb : bs.length ≤ 140737488355328)
    (x : Fld) (k : Nat) (h : oneL bs = some (x, k)) :
    Calls Try.prog 27 #[.slice A bs.length c] w fun e w' => ∃ dv, e = .returned (.tuple #[.agg #[.int .i64 (x.1 : Nat), .int .i64 (x.2.1 : Nat), .int .u64 (x.2.2.1 : Nat), dv], .int .i64 (k : Nat)]) ∧
      w'.ownsRow w.heap.size 5 1 dv x.2.2.2.length (x.2.2.2.map u8v) ∧ Below w.heap.size w w' := by
  unfold oneL at h
  rcases hx : take bs with ⟨tag, k1⟩
  rw [hx] at h
  simp only at h
  rcases hy : take (bs.drop k1) with ⟨n, j⟩
  rw [hy] at h
  simp only at h
  split at h
  · cases h
  · rename_i h1
    split at h
    · cases h
    · rename_i h2
      split at h
      · rename_i h3
        simp only [Option.some.injEq, Prod.mk.injEq] at h
        obtain ⟨rfl, rfl⟩ := h
        refine (one_num A c bs w hB hr hc hb tag k1 n j hx (by omega) (by omega) (by omega) hy h2 (by omega)).mono ?_
        rintro e w' ⟨rfl, hbel⟩
        exact ⟨_, rfl, World.ownsRow_nil _ _ _ _, hbel⟩
      · rename_i h3
        split at h
        · rename_i h4
          simp only [Option.some.injEq, Prod.mk.injEq] at h
          obtain ⟨rfl, rfl⟩ := h
          refine (one_data A c bs w hB hr hc hb tag k1 n j hx (by omega) (by omega) (by omega) hy h2 h4.1 h4.2).mono ?_
          rintro e w' ⟨v, rfl, hown, hbel⟩
          refine ⟨v, rfl, ?_, hbel⟩
          have hl : ((bs.drop (k1 + j)).take n).length = n := by
            obtain ⟨_, _, t3⟩ := take_bound bs
            obtain ⟨_, _, s3⟩ := take_bound (bs.drop k1)
            rw [hx] at t3
            rw [hy, List.length_drop] at s3
            simp only at t3 s3
            have := h4.2
            simp
            omega
          simp only [hl]
          exact hown
        · cases h

/-- The cells of fields: each field's number, kind, value and the slice that owns its bytes. -/
def FldsR (w : World) (B : Nat) : List Fld → List Value → Prop
  | [], xs => xs = []
  | f :: fs, xs => ∃ dv rest, xs = .int .i64 (f.1 : Nat) :: .int .i64 (f.2.1 : Nat) :: .int .u64 (f.2.2.1 : Nat) :: dv :: rest ∧
      w.ownsRow B 5 1 dv f.2.2.2.length (f.2.2.2.map u8v) ∧ FldsR w B fs rest
theorem FldsR.snoc {w : World} {B : Nat} {f : Fld} {dv : Value} (hd : w.ownsRow B 5 1 dv f.2.2.2.length (f.2.2.2.map u8v)) :
    ∀ {fs : List Fld} {xs : List Value}, FldsR w B fs xs → FldsR w B (fs ++ [f]) (xs ++ [.int .i64 (f.1 : Nat), .int .i64 (f.2.1 : Nat), .int .u64 (f.2.2.1 : Nat), dv]) := by
  intro fs
  induction fs with
  | nil =>
    intro xs h
    have h' : xs = [] := h
    subst h'
    exact ⟨dv, [], rfl, hd, rfl⟩
  | cons g fs ih =>
    rintro xs ⟨dv', rest, rfl, hg, hr⟩
    exact ⟨dv', _, rfl, hg, ih hr⟩
theorem FldsR.kept {w w' : World} {B : Nat} (hk : ∀ dv n xs, w.ownsRow B 5 1 dv n xs → w'.ownsRow B 5 1 dv n xs) :
    ∀ {fs : List Fld} {xs : List Value}, FldsR w B fs xs → FldsR w' B fs xs := by
  intro fs
  induction fs with
  | nil => intro xs h; exact h
  | cons g fs ih =>
    rintro xs ⟨dv', rest, rfl, hg, hr⟩
    exact ⟨dv', _, rfl, hk _ _ _ hg, ih hr⟩
theorem FldsR.len {w : World} {B : Nat} : ∀ {fs : List Fld} {xs : List Value}, FldsR w B fs xs → xs.length = fs.length * 4 := by
  intro fs
  induction fs with
  | nil => intro xs h; have h' : xs = [] := h; subst h'; rfl
  | cons g fs ih =>
    rintro xs ⟨dv', rest, rfl, hg, hr⟩
    have := ih hr
    simp
    omega
theorem own_mono {w : World} {B B' : Nat} {e : TypeId} {size n : Nat} {v : Value} {xs : List Value} (h : w.ownsRow B e size v n xs) (hB : B' ≤ B) : w.ownsRow B' e size v n xs := by
  refine ⟨h.1, ?_⟩
  rcases h.2 with h2 | ⟨g, cap, cur, hv, hg, hr⟩
  · exact .inl h2
  · exact .inr ⟨g, cap, cur, hv, by omega, hr⟩

theorem own_ne_own {w : World} {B B' e e' : Nat} {size size' n n' : Nat} {v v' : Value} {xs xs' : List Value} (h : w.ownsRow B e size v n xs) (h' : w.ownsRow B' e' size' v' n' xs') (hne : e ≠ e') :
    v.ownBlock = none ∨ v.ownBlock ≠ v'.ownBlock := by
  rcases h'.2 with ⟨rfl, _⟩ | ⟨g', cap', cur', rfl, _, hh', _⟩
  · rcases h.2 with ⟨rfl, _⟩ | ⟨g, cap, cur, rfl, _, hh, _⟩
    · exact .inl rfl
    · exact .inr (by simp [Value.ownBlock])
  · exact .inr (own_blk_ne h hh' hne)

theorem info_fld : (Try.prog.info? 46).map (fun i => (i.zero, i.size, i.bytes)) = some (some (.agg #[.int .i64 0, .int .i64 0, .int .u64 0, .slice none 0 0]), 4, 48) := by kernel_rfl

set_option maxRecDepth 100000 in
theorem read_any (A : Option Addr) (c : Nat) (bs : List UInt8) (w : World) (B : Nat) (hB : B ≤ w.heap.size) (hr : Reads w B 1 A bs.length (bs.map u8v)) (hc : bs.length ≤ c) (hb : bs.length ≤ 1048576) :
    Calls Try.prog 14 #[.slice A bs.length c] w fun e w' => ∃ v xs, e = .returned (.tuple #[v, .int .i64 (errN (readL bs))]) ∧
      w'.ownsRow B 46 4 v ((readL bs).getD []).length xs ∧ FldsR w' B ((readL bs).getD []) xs ∧ Below B w w' := by
  obtain ⟨i0, hi0, hz0, hz1, hz2⟩ := info_parts info_fld
  go_enter Try.func14, Try.ntmps14
  go_wp2_with fail
  go_loopw [0, 4] (fun b v wr => ∃ (f : Nat) (rest : List UInt8) (acc : List Fld) (xs : List Value) (A1 : Option Addr) (c1 : Nat), b = .slice A1 rest.length c1 ∧ rest.length ≤ c1 ∧ Reads wr B 1 A1 rest.length (rest.map u8v) ∧ rest.length ≤ f ∧
      acc.length + rest.length ≤ bs.length ∧ readL bs = (readF f rest).map (acc ++ ·) ∧ wr.ownsRow B 46 4 v acc.length xs ∧ FldsR wr B acc xs ∧ Below B w wr) (fun b _ _ => lenV b)
  case atStart => exact ⟨bs.length, bs, [], [], A, c, rfl, hc, hr, Nat.le_refl _, by simp, by simp [readL], World.ownsRow_nil _ _ _ _, rfl, Below.refl _ _⟩
  case round =>
    obtain ⟨f, rest, acc, xs, A1, c1, rfl, hc1, hr1, hf, hl, hv, ho, hfl, hnx⟩ := hrel
    obtain ⟨A2, c2, rfl, hc2⟩ := own_form ho
    have Hv := hide hv
    clear hv
    have hsz := hnx.size
    by_cases h0 : 0 < rest.length
    · rcases hone : oneL rest with _ | ⟨x, k⟩
      · go_wp2_with fail
        refine (one_no A1 c1 rest wr (by omega) hr1 hc1 (by omega) hone).mono ?_
        rintro e w1 ⟨rfl, hb1⟩
        unfold zeroFld
        go_wp2_with fail
        go_ret2
        have hn : readL bs = none := by rw [Hv.out, readF_no h0 hone]; rfl
        rw [hn]
        exact ⟨_, [], rfl, World.ownsRow_nil _ _ _ _, rfl, (hnx.trans (hb1.mono (by omega))).alloc (by have := hb1.size; omega) _⟩
      · obtain ⟨hk2, hkl⟩ := oneL_bound hone
        obtain ⟨f', rfl, hf'⟩ := readF_on h0 hf hone
        have Hf' := hide hf'
        have Hone := hide hone
        clear hf' hone
        have hk1 : ((k : Int) == 0) = false := by rw [beq_eq_false_iff_ne]; omega
        go_wp2_with fail
        refine (one_yes A1 c1 rest wr (by omega) hr1 hc1 (by omega) x k Hone.out).mono ?_
        rintro e w1 ⟨dv, rfl, hdv, hb1⟩
        obtain ⟨A3, c3, rfl, hc3⟩ := own_form hdv
        have hs1 := hb1.size
        by_cases hck : c1 = k
        · subst hck
          have hl1 : rest.length ≤ c1 := hc1
          go_wp2_with (at_builtin; refine stop ?_)
          intro _
          refine wpList_append_any _ rfl (.tmp 17) (.tmp 19) _ rfl B 46 i0 _ 4 48 Try.underlying34 hi0 hz0 hz1 hz2 rfl (by omega) (.slice A2 acc.length c2) acc.length xs rfl
            ?_ (w1.heap.size + 1 + 1) _ 1 _ [_, _, _, _] rfl (reads_newN1 w1 _ #[_, _, _, _] _ 4 rfl) ?_ (by simp only [maxLen]; omega) (by omega) ?_ ?_
          · exact ((own_below ho hb1).alloc _).alloc _
          · intro u hu
            simp at hu
            rcases hu with rfl | rfl | rfl | rfl <;> rfl
          · simp; omega
          intro v1 w2 hown1 hg1 hat1
          have hb3 : Below B w1 w2 := (((Below.refl _ _).alloc (by omega) _).alloc (by simp; omega) _).grown hg1 (by simp; omega) (fun k hk2 => (ho.lt k hk2).1)
          have hb2 : Below B w w2 := (hnx.trans (hb1.mono (by omega))).trans hb3
          have hr2 : ∀ {A n xs}, Reads wr B 1 A n xs → Reads w2 B 1 A n xs := fun h => h.below ((hb1.mono (by omega)).trans hb3)
          have hkp : ∀ dv n xs, w1.ownsRow B 5 1 dv n xs → w2.ownsRow B 5 1 dv n xs := fun dv n xs h =>
            ((h.alloc _).alloc _).kept hg1 (own_ne_own h (own_below ho hb1) (by decide))
          have hfl2 := (hfl.kept fun dv n xs h => hkp _ _ _ (own_below h hb1)).snoc (f := x) (hkp _ _ _ (own_mono hdv (by omega)))
          have hv2 : readL bs = (readF f' (rest.drop c1)).map (acc ++ [x] ++ ·) := by
            rw [Hv.out, Hf'.out, Option.map_map]
            congr 1
            funext l
            simp
          have Hv2 := hide hv2
          clear hv2
          go_wp2_with fail
          have hnil : rest.drop c1 = [] := List.drop_eq_nil_of_le hl1
          refine ⟨⟨f', rest.drop c1, acc ++ [x], _, A1, c1 - c1, ?_, ?_, ?_, ?_, ?_, Hv2.out, ?_, hfl2, hb2⟩, ?_⟩
          · rw [hnil]; simp
          · simp; omega
          · rw [hnil]; exact reads_nil
          · simp; omega
          · simp; omega
          · simpa using hown1
          · simp [lenV]; omega
        · go_wp2_with (at_builtin; refine stop ?_)
          intro _
          refine wpList_append_any _ rfl (.tmp 17) (.tmp 19) _ rfl B 46 i0 _ 4 48 Try.underlying34 hi0 hz0 hz1 hz2 rfl (by omega) (.slice A2 acc.length c2) acc.length xs rfl
            ?_ (w1.heap.size + 1 + 1) _ 1 _ [_, _, _, _] rfl (reads_newN1 w1 _ #[_, _, _, _] _ 4 rfl) ?_ (by simp only [maxLen]; omega) (by omega) ?_ ?_
          · exact ((own_below ho hb1).alloc _).alloc _
          · intro u hu
            simp at hu
            rcases hu with rfl | rfl | rfl | rfl <;> rfl
          · simp; omega
          intro v1 w2 hown1 hg1 hat1
          have hb3 : Below B w1 w2 := (((Below.refl _ _).alloc (by omega) _).alloc (by simp; omega) _).grown hg1 (by simp; omega) (fun k hk2 => (ho.lt k hk2).1)
          have hb2 : Below B w w2 := (hnx.trans (hb1.mono (by omega))).trans hb3
          have hr2 : ∀ {A n xs}, Reads wr B 1 A n xs → Reads w2 B 1 A n xs := fun h => h.below ((hb1.mono (by omega)).trans hb3)
          have hkp : ∀ dv n xs, w1.ownsRow B 5 1 dv n xs → w2.ownsRow B 5 1 dv n xs := fun dv n xs h =>
            ((h.alloc _).alloc _).kept hg1 (own_ne_own h (own_below ho hb1) (by decide))
          have hfl2 := (hfl.kept fun dv n xs h => hkp _ _ _ (own_below h hb1)).snoc (f := x) (hkp _ _ _ (own_mono hdv (by omega)))
          have hv2 : readL bs = (readF f' (rest.drop k)).map (acc ++ [x] ++ ·) := by
            rw [Hv.out, Hf'.out, Option.map_map]
            congr 1
            funext l
            simp
          have Hv2 := hide hv2
          clear hv2
          go_wp2_with fail
          refine ⟨⟨f', rest.drop k, acc ++ [x], _, A1.map (·.add k), c1 - k, ?_, ?_, ?_, ?_, ?_, Hv2.out, ?_, hfl2, hb2⟩, ?_⟩
          · simp
          · simp; omega
          · rw [List.length_drop]; exact hr2 (reads_drop1 hr1 hkl hc1 hck)
          · simp; omega
          · simp; omega
          · simpa using hown1
          · simp [lenV]; omega
    · go_wp2_with fail
      go_ret2
      have hn : rest = [] := List.eq_nil_of_length_eq_zero (by omega)
      have hv : readL bs = some acc := by rw [Hv.out, hn, readF_nil]; simp
      rw [hv]
      exact ⟨_, xs, rfl, ho, hfl, hnx⟩
end Go.Proofs.Ytjagonphgaphaaa

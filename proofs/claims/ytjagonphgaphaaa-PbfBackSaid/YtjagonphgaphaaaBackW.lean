/- PbfBack's walk: fields written one behind the other are read as they were written. -/
import Derived.Test.YtjagonphgaphaaaAwake
import Derived.Test.YtjagonphgaphaaaVarsAt
import Derived.Test.YtjagonphgaphaaaPlainBack
import Derived.Test.YtjagonphgaphaaaSame
import Derived.Test.YtjagonphgaphaaaFlds
import Derived.WalkLawsBesides
import Derived.Deep.DeepCutAuto
namespace Go.Proofs.Ytjagonphgaphaaa
open Go.RowKit
set_option linter.unusedVariables false

abbrev i64v (z : Int) : Value := .int .i64 z
theorem reads_i64 {w : World} {B : Nat} {A : Option Addr} {l : List Int} (h : Reads w B 1 A l.length (l.map i64v)) {k : Nat} (hk : k < l.length) :
    ∃ ad, A = some ad ∧ w.cell? (ad.add k) = some (.int .i64 (l.getD k 0)) := by
  obtain ⟨ad, u, e, _, hx, hc⟩ := h.at_ hk
  refine ⟨ad, e, ?_⟩
  rw [hc, ← hx]
  simp [hk]

theorem cell_i64 {w : World} {B : Nat} {ad : Addr} {l : List Int} {z : Int} (h : Reads w B 1 (some ad) l.length (l.map i64v)) {k : Nat} (hk : k < l.length) (hz : l.getD k 0 = z) :
    w.cell? (ad.add k) = some (.int .i64 z) := by
  obtain ⟨ad', e, hc⟩ := reads_i64 h hk
  cases e
  rw [hc, hz]
theorem cell_u64 {w : World} {B : Nat} {ad : Addr} {l : List Nat} {z : Nat} (h : Reads w B 1 (some ad) l.length (l.map u64v)) {k : Nat} (hk : k < l.length) (hz : l.getD k 0 = z) :
    w.cell? (ad.add k) = some (.int .u64 (z : Int)) := by
  obtain ⟨ad', e, hc⟩ := reads_u64 h hk
  cases e
  rw [hc]
  rw [List.getD_eq_getElem?_getD, List.getElem?_eq_getElem hk] at hz
  rw [← hz]; rfl

theorem same_at {n m : Nat} {B1 B2 : Nat} (A1 A2 : Option Addr) (c1 c2 : Nat) (l : List Nat) (w : World) (hn : l.length = n) (hm : l.length = m) (h1 : Reads w B1 1 A1 n (l.map u64v)) (h2 : Reads w B2 1 A2 m (l.map u64v)) (hl : n ≤ 1048576) :
    Calls Try.prog 18 #[.slice A1 n c1, .slice A2 m c2] w fun e w' => e = .returned (.bool true) ∧ Below w.heap.size w w' := by
  subst hn hm
  exact same_yes A1 A2 c1 c2 l w h1 h2 hl
set_option maxRecDepth 100000 in
set_option maxHeartbeats 1600000 in
theorem back_walk (Af Al : Option Addr) (cf cl : Nat) (fs : List Int) (ls : List Nat) (w : World) (hf : Reads w w.heap.size 1 Af fs.length (fs.map i64v)) (hl : Reads w w.heap.size 1 Al ls.length (ls.map u64v))
    (lf : fs.length ≤ cf) (ll : ls.length ≤ cl) (mf : cf ≤ maxLen) (ml : cl ≤ maxLen) (bf : ∀ z ∈ fs, -9223372036854775808 ≤ z ∧ z ≤ 9223372036854775807) (bl : ∀ n ∈ ls, n < 18446744073709551616) :
    Calls Try.prog 8 #[.slice Af fs.length cf, .slice Al ls.length cl] w fun e w' => e = .returned (.bool true) ∧ Below w.heap.size w w' := by
  unfold maxLen at mf ml
  obtain ⟨N, hN⟩ : ∃ N : Nat, N = min (min fs.length ls.length) 30 := ⟨_, rfl⟩
  have hN1 : N ≤ fs.length := by omega
  have hN2 : N ≤ ls.length := by omega
  have hN3 : N ≤ 30 := by omega
  have HN := hide hN
  clear hN
  go_enter Try.func8, Try.ntmps8
  go_upto_region 1 with (fail)
  go_cut [5] (fun n wx => n = .int .i64 (N : Int) ∧ w = wx)
  case first =>
    have hN := HN.out
    rcases (show (fs.length ≤ ls.length ∧ fs.length ≤ 30) ∨ (ls.length < fs.length ∧ ls.length ≤ 30) ∨ (fs.length ≤ ls.length ∧ 30 < fs.length) ∨ (ls.length < fs.length ∧ 30 < ls.length) from by omega) with ⟨h1, h2⟩ | ⟨h1, h2⟩ | ⟨h1, h2⟩ | ⟨h1, h2⟩
    all_goals
      clear hN
      go_wp2_with fail
      go_meet
      exact ⟨by have := HN.out; go_num, rfl⟩
  case rest =>
    obtain ⟨rfl, rfl⟩ := hcut
    clear HN
    go_wp2_with fail
    go_loopw [6, 7, 8] (fun b v i wr => ∃ k : Nat, k ≤ N ∧ i = .int .i64 (k : Int) ∧ wr.ownsRow w.heap.size 5 1 b (bytesB fs ls k).length ((bytesB fs ls k).map u8v) ∧
        wr.ownsRow w.heap.size 5 1 v ((ls.take k).flatMap varL).length (((ls.take k).flatMap varL).map u8v) ∧ Below w.heap.size w wr) (fun _ _ i _ => N - (intOf i).toNat)
    case atStart => exact ⟨0, by omega, rfl, World.ownsRow_nil _ _ _ _, World.ownsRow_nil _ _ _ _, Below.refl _ _⟩
    case round =>
      obtain ⟨k, hk, rfl, hob, hov, hnx⟩ := hrel
      by_cases hlt : k < N
      · obtain ⟨ad, rfl, hcf⟩ := reads_i64 (hf.below hnx) (show k < fs.length by omega)
        obtain ⟨al, rfl, hcl⟩ := reads_u64 (hl.below hnx) (show k < ls.length by omega)
        have hz := bf (fs.getD k 0) (by rw [List.getD_eq_getElem?_getD, List.getElem?_eq_getElem (show k < fs.length by omega)]; exact List.getElem_mem _)
        have hn := bl ls[k] (List.getElem_mem _)
        have hflat := flat_take (show k < ls.length by omega)
        have hgl : ls.getD k 0 = ls[k] := by rw [List.getD_eq_getElem?_getD, List.getElem?_eq_getElem (show k < ls.length by omega)]; rfl
        have hand := and511 hz.1 hz.2
        have hmod : 0 ≤ fs.getD k 0 % 512 ∧ fs.getD k 0 % 512 < 512 := by omega
        have hfl := flat_len (ls.take k)
        rw [List.length_take] at hfl
        have hbl := bytesB_len fs ls k (by omega)
        have hsucc := bytesB_succ fs ls k
        have hce := fun h => chunk_even (fs := fs) (ls := ls) (k := k) h
        have hco := fun h => chunk_odd (fs := fs) (ls := ls) (k := k) h
        rw [hgl] at hce
        generalize hn' : ls[k] = n at *
        generalize hz' : fs.getD k 0 = z at *
        generalize z % 512 = z0 at *
        have Hflat := hide hflat
        have Hsucc := hide hsucc
        have Hce := hide hce
        have Hco := hide hco
        have Hgl := hide hgl
        have Hz := hide hz'
        clear hflat hsucc hce hco hgl hn' hz'
        generalize (ls.take k).flatMap varL = V at *
        generalize bytesB fs ls k = Bk at *
        obtain ⟨Ab, cb, rfl, hcb⟩ := own_form hob
        obtain ⟨Av, cv, rfl, hcv⟩ := own_form hov
        have hs := hnx.size
        have hvn := varL_len n
        by_cases hk2 : k % 2 = 0
        · have hkb : ((k : Int) % 2 == 0) = true := by rw [beq_iff_eq]; omega
          have Hk2 := hide hk2
          clear hk2
          go_wp2_with fail
          refine (var_any Av cv V n wr wr.heap.size (Nat.le_refl _) (by omega) (by omega) (own_reads hov rfl) (by omega)).mono ?_
          rintro e w1 ⟨v1, rfl, ho1, hb1⟩
          rw [Int.toNat_natCast] at ho1
          have hs1 := hb1.size
          have hob1 := own_below hob hb1
          have hcl1 := cell_u64 (hl.below (hnx.trans (hb1.mono hs))) (show k < ls.length by omega) Hgl.out
          go_wp2_with fail
          refine (num_yes Ab cb Bk (z0 + 1) n w1 w1.heap.size (Nat.le_refl _) (by omega) (by omega) (by omega) (by omega) (own_reads hob1 rfl) (by omega)).mono ?_
          rintro e w2 ⟨v2, rfl, ho2, hb2⟩
          go_wp2_with fail
          have ho1' := own_below ho1 hb2
          have hs2 := hb2.size
          refine ⟨⟨k + 1, by omega, ?_, ?_, ?_, ((hnx.trans (hb1.mono hs)).trans (hb2.mono (by omega)))⟩, ?_⟩
          · simp
          · have e : Bk ++ varL ((z0 + 1) * 8).toNat ++ varL (n : Int).toNat = Bk ++ (varL (8 * (z0 + 1).toNat) ++ varL n) := by
              rw [show ((z0 + 1) * 8).toNat = 8 * (z0 + 1).toNat from by omega, Int.toNat_natCast, List.append_assoc]
            rw [e] at ho2
            rw [Hsucc.out, Hce.out Hk2.out]
            exact own_mono ho2 (by omega)
          · rw [Hflat.out]
            exact own_mono ho1' (by omega)
          · simp [intOf]; omega
        · have hkb : ((k : Int) % 2 == 0) = false := by rw [beq_eq_false_iff_ne]; omega
          have Hk2 := hide hk2
          clear hk2
          go_wp2_with fail
          refine (var_any Av cv V n wr wr.heap.size (Nat.le_refl _) (by omega) (by omega) (own_reads hov rfl) (by omega)).mono ?_
          rintro e w1 ⟨v1, rfl, ho1, hb1⟩
          rw [Int.toNat_natCast] at ho1
          have hs1 := hb1.size
          have hob1 := own_below hob hb1
          have hvl : (V ++ varL n).length ≤ 400 := by rw [List.length_append]; omega
          rw [← Hflat.out] at ho1 hvl
          have hco := Hco.out Hk2.out
          generalize hV' : (ls.take (k + 1)).flatMap varL = V' at *
          have HV' := hide hV'
          clear hV'
          obtain ⟨Av', cv', rfl, hcv'⟩ := own_form ho1
          go_wp2_with fail
          refine (bytes_yes Ab cb Bk (z0 + 1) Av' cv' V' w1 (by omega) (by omega) (own_reads hob1 rfl) (own_reads ho1 rfl) (by omega)).mono ?_
          rintro e w2 ⟨v2, rfl, ho2, hb2⟩
          go_wp2_with fail
          have ho1' := own_below ho1 hb2
          have hs2 := hb2.size
          refine ⟨⟨k + 1, by omega, ?_, ?_, ?_, ((hnx.trans (hb1.mono hs)).trans (hb2.mono (by omega)))⟩, ?_⟩
          · simp
          · have e : bytesL (((z0 + 1).toNat : Nat) : Int) V' = bytesL (z0 + 1) V' := by
              rw [show (((z0 + 1).toNat : Nat) : Int) = z0 + 1 from by omega]
            rw [e] at hco
            rw [Hsucc.out, hco]
            exact own_mono ho2 (by omega)
          · rw [HV'.out]
            exact own_mono ho1' (by omega)
          · simp [intOf]; omega
      · have hkn : k = N := by omega
        subst hkn
        clear hlt hk
        have hrd := readL_back fs ls k hN3 bl
        have hlen := bytesB_len fs ls k hN3
        have hvl := flat_len (ls.take k)
        have hvs := varsL_flat (ls.take k) fun n hn => bl n (List.mem_of_mem_take hn)
        rw [List.length_take] at hvl
        generalize (ls.take k).flatMap varL = V at *
        generalize bytesB fs ls k = Bk at *
        obtain ⟨Ab, cb, rfl, hcb⟩ := own_form hob
        obtain ⟨Av, cv, rfl, hcv⟩ := own_form hov
        have Hrd := hide hrd
        have Hvs := hide hvs
        clear hrd hvs
        have hs := hnx.size
        go_wp2_with fail
        refine (read_any Ab cb Bk wr wr.heap.size (Nat.le_refl _) (own_reads hob rfl) (by omega) (by omega)).mono ?_
        rw [Hrd.out]
        rintro e w1 ⟨v1, xs1, rfl, ho1, hf1, hb1⟩
        have hs1 := hb1.size
        rw [show errN (some ((chunks fs ls k).map (·.2))) = 0 from rfl]
        rw [show (some ((chunks fs ls k).map (·.2))).getD [] = (chunks fs ls k).map (·.2) from rfl] at ho1 hf1
        rw [chunks_len] at ho1
        obtain ⟨A1, c1, rfl, hc1⟩ := own_form ho1
        go_wp2_with fail
        refine (vars_any Av cv V w1 w1.heap.size (Nat.le_refl _) (own_reads (own_below hov hb1) rfl) (by omega) (by omega)).mono ?_
        rw [Hvs.out]
        rintro e w2 ⟨v2, rfl, ho2, hb2⟩
        have hs2 := hb2.size
        rw [show errN (some (ls.take k)) = 0 from rfl]
        rw [show (some (ls.take k)).getD [] = ls.take k from rfl] at ho2
        obtain ⟨A2, c2, rfl, hc2⟩ := own_form ho2
        go_wp2_with fail
        have hlk : (ls.take k).length = k := by rw [List.length_take]; omega
        have hr2 := own_reads ho2 rfl
        rw [hlk] at hr2
        have hl2 : Reads w2 w.heap.size 1 Al k ((ls.take k).map u64v) := by
          rw [List.map_take]
          exact reads_take (hl.below ((hnx.trans (hb1.mono hs)).trans (hb2.mono (by omega)))) hN2
        rw [hlk] at hc2
        refine (same_at (n := k) (m := k) A2 Al c2 cl (ls.take k) w2 hlk hlk hr2 hl2 (by omega)).mono ?_
        rintro e w3 ⟨rfl, hb3⟩
        have hs3 := hb3.size
        have hbw3 : Below w.heap.size w w3 := ((hnx.trans (hb1.mono hs)).trans (hb2.mono (by omega))).trans (hb3.mono (by omega))
        have hf3 : FldsD w3 ((chunks fs ls k).map (·.2)) xs1 := (hf1.toD.below hb2).below hb3
        have ho13 : w3.ownsRow wr.heap.size 46 4 (.slice A1 k c1) k xs1 := own_below (own_below ho1 hb2) hb3
        clear hf1 ho1 hob hov ho2 hr2 hl2 Hrd Hvs hb1 hb2 hb3 hnx
        go_wp2_with fail
        go_loopw [14] (fun i wy => ∃ q : Nat, q ≤ k ∧ i = .int .i64 (q : Int) ∧ Below w3.heap.size w3 wy ∧ (∀ p, wy.cell? p = w3.cell? p)) (fun i _ => k - (intOf i).toNat)
        case atStart => exact ⟨0, by omega, rfl, Below.refl _ _, fun _ => rfl⟩
        case round =>
          obtain ⟨q, hq, rfl, hny, hsame⟩ := hrel
          by_cases hlt : q < k
          · have hfq := hf3.at_ (i := q) (by rw [chunks_len]; exact hlt)
            rw [chunks_get fs ls k q hlt] at hfq
            obtain ⟨dv, hx0, hx1, hx2, hx3, Ad, cd, rfl, hcd, hrd⟩ := hfq
            obtain ⟨g1, c1', hform, _, hg1⟩ := ho13.form (by omega)
            cases hform
            have hy0 := (hsame _).trans (ho13.cells (g := g1) rfl _ _ hx0)
            have hy1 := (hsame _).trans (ho13.cells (g := g1) rfl _ _ hx1)
            have hy2 := (hsame _).trans (ho13.cells (g := g1) rfl _ _ hx2)
            have hy3 := (hsame _).trans (ho13.cells (g := g1) rfl _ _ hx3)
            obtain ⟨ad, rfl, hcf⟩ := reads_i64 (hf.below (hbw3.trans (hny.mono (by omega)))) (show q < fs.length by omega)
            obtain ⟨al, rfl, hcl⟩ := reads_u64 (hl.below (hbw3.trans (hny.mono (by omega)))) (show q < ls.length by omega)
            have hz := bf (fs.getD q 0) (by rw [List.getD_eq_getElem?_getD, List.getElem?_eq_getElem (show q < fs.length by omega)]; exact List.getElem_mem _)
            have hand := and511 hz.1 hz.2
            have hmod : 0 ≤ fs.getD q 0 % 512 ∧ fs.getD q 0 % 512 < 512 := by omega
            have hgl : ls.getD q 0 = ls[q] := by rw [List.getD_eq_getElem?_getD, List.getElem?_eq_getElem (show q < ls.length by omega)]; rfl
            have hce := fun h => chunk_even (fs := fs) (ls := ls) (k := q) h
            have hco := fun h => chunk_odd (fs := fs) (ls := ls) (k := q) h
            rw [hgl] at hce
            rw [Addr.add_lit, Nat.zero_add] at hy0 hy1 hy2 hy3
            generalize ls[q] = n at *
            generalize fs.getD q 0 = z at *
            generalize z % 512 = z0 at *
            have Hs := hide hsame
            clear hsame hx0 hx1 hx2 hx3 hrd
            by_cases hk2 : q % 2 = 0
            · have hkb : ((q : Int) % 2 == 0) = true := by rw [beq_iff_eq]; omega
              have hkb1 : ((q : Int) % 2 == 1) = false := by rw [beq_eq_false_iff_ne]; omega
              rw [hce hk2] at hy0 hy1 hy2 hy3 hcd
              clear hce hco hk2
              dsimp only at hy0 hy1 hy2 hy3 hcd
              have ht : (((z0 + 1).toNat : Nat) : Int) = z0 + 1 := by omega
              rw [ht] at hy0
              have hw0 : IntKind.i64.wrap (z0 + 1) = z0 + 1 := by rw [IntKind.wrap_i64]; omega
              have hq0 : (0 : Int) ≤ (q : Int) := by omega
              have hq1 : (q : Int) < (k : Int) := by omega
              have hq2 : (q : Int) < (fs.length : Int) := by omega
              have hq3 : (q : Int) < (ls.length : Int) := by omega
              go_wp2_with fail
              go_quiet (fail)
              go_wp2_with fail
              refine ⟨⟨q + 1, by omega, by go_num, below_drewN hny _, Hs.out⟩, by simp [intOf]; omega⟩
            · have hkb : ((q : Int) % 2 == 0) = false := by rw [beq_eq_false_iff_ne]; omega
              have hkb1 : ((q : Int) % 2 == 1) = true := by rw [beq_iff_eq]; omega
              rw [hco hk2] at hy0 hy1 hy2 hy3 hcd
              clear hce hco hk2
              dsimp only at hy0 hy1 hy2 hy3 hcd
              have ht : (((z0 + 1).toNat : Nat) : Int) = z0 + 1 := by omega
              rw [ht] at hy0
              generalize (ls.take (q + 1)).flatMap varL = V' at *
              have hw0 : IntKind.i64.wrap (z0 + 1) = z0 + 1 := by rw [IntKind.wrap_i64]; omega
              have hq0 : (0 : Int) ≤ (q : Int) := by omega
              have hq1 : (q : Int) < (k : Int) := by omega
              have hq2 : (q : Int) < (fs.length : Int) := by omega
              have hq3 : (q : Int) < (ls.length : Int) := by omega
              go_wp2_with fail
              go_quiet (fail)
              go_wp2_with fail
              refine ⟨⟨q + 1, by omega, by go_num, below_drewN hny _, Hs.out⟩, by simp [intOf]; omega⟩
          · go_wp2_with fail
            refine (awake_any wr).mono ?_
            rintro e w4 ⟨rfl, hb4⟩
            go_wp2_with fail
            go_ret
            exact ⟨rfl, (hbw3.trans (hny.mono (by omega))).trans (hb4.mono (by have := hny.size; omega))⟩
end Go.Proofs.Ytjagonphgaphaaa

import Derived.Deep.RegionLaw
import Derived.Deep.RegionHeld3
import Derived.Test.YtjpejkfhkbaakaaGreatM6
namespace Go.Ev
set_option maxRecDepth 100000
open Go Go.RowKit
set_option linter.unusedSectionVars false
set_option linter.unnecessarySimpa false
set_option linter.unusedSimpArgs false
set_option linter.unusedVariables false
set_option maxRecDepth 100000
theorem info_key : (Go.Proofs.Tryz.prog.info? 126).map (fun i => (i.zero, i.size, i.bytes)) = some (some (.agg #[.int .u64 0, .int .i64 0, .int .i64 0]), 3, 24) := by kernel_rfl
theorem info_row : (Go.Proofs.Tryz.prog.info? 158).map (fun i => (i.zero, i.size, i.bytes)) = some (some (.slice none 0 0), 1, 24) := by kernel_rfl
theorem info_of {P : Program} {t : TypeId} {z : Option Value} {s b : Nat} (h : (P.info? t).map (fun i => (i.zero, i.size, i.bytes)) = some (z, s, b)) : ∃ i, P.info? t = some i ∧ i.zero = z ∧ i.size = s ∧ i.bytes = b := by
 rcases hi : P.info? t with _ | i
 ·rw [hi] at h; simp at h
 ·rw [hi] at h
  simp at h
  exact ⟨i, rfl, h.1, h.2.1, h.2.2⟩
theorem step_of {P : Program} {ops : Array Oper} {o : Oper} {a : Act} {w : World} {K : Act → World → Prop} {Q : Exit → Act → World → Prop} {E : Prop} (hgd : o.guard = none) (h : Oper.wp P o a w K Q) : if Region.wanted o (yielded ops a.tmps) = true then Oper.wp P o a w K Q else E := by
 rw [if_pos (by simp [Region.wanted, hgd])]
 exact h
theorem halt_ {p : Prop} (h : Unit → p) : p := h ()
set_option maxHeartbeats 2000000 in
theorem put2_w {w : World} {b cap : Nat} {og : Option Nat} {gs : List Nat} {ns : List (List Ky)} {n : Int} (h : TL w b og gs cap ns n) (k : Ky) (r s : Nat) (l : List Ky) (hN : Nod ns k r) (hl : ns[r - 1]? = some l) (hP : Plc l k s) (hs : l[s]? ≠ some k) (hlen : l.length < 32) (hn0 : 0 ≤ n) (hn1 : n < 9223372036854775807) :
    Calls Go.Proofs.Tryz.prog 72 #[.pointer (some ⟨b, 0, none⟩), k.val] w fun e w' => e = .returned (.bool true) ∧
    ∃ gs', TL w' b og gs' cap (ns.set (r - 1) (l.take s ++ k :: l.drop s)) (n + 1) ∧ Keeps (Ft b og gs) w w' ∧ ∀ x, Ft b og gs' x → Ft b og gs x ∨ w.heap.size ≤ x := by
  obtain ⟨g, rfl⟩ := h.some_ hl
  have hat : r - 1 < ns.length := (List.getElem?_eq_some_iff.1 hl).1
  generalize hr : r - 1 = i at *
  obtain ⟨c0, c1, f0, f1, hlt⟩ := h.root
  have hne : ((ns.length : Int) == 0) = false := by rw [beq_eq_false_iff_ne]; omega
  have hk0 : ∀ x, Keeps (fun _ => False) w (w.alloc x) := fun x => keeps_al
  have i0 : (0 : Int) ≤ (i : Int) := by omega
  have i1 : (i : Int) < (ns.length : Int) := by omega
  obtain ⟨iK, hiK, hzK, hsK, hbK⟩ := info_of info_key
  simp only [Ky.val]
  go_enter Go.Proofs.Tryz.func72, Go.Proofs.Tryz.ntmps72
  go_wp2_with fail
  have h1 := h.keeps (hk0 (.cells #[.int .u64 k.c, .int .i64 k.v, .int .i64 k.d] 126)) (fun _ _ q => q)
  have b1 : KB (w.alloc (.cells #[.int .u64 k.c, .int .i64 k.v, .int .i64 k.d] 126)) w.heap.size k := al_new rfl
  refine (node_w h1 k r hN).mono ?_
  rintro e w2 ⟨rfl, hK2⟩
  rw [hr]
  have h2 := h1.keeps (hK2 fun _ => False) (fun _ _ q => q)
  have b2 := b1.keeps (hK2 fun _ => False) (fun q => q)
  obtain ⟨d0, d1, f2, f3, _⟩ := h2.root
  obtain ⟨g', c, hg', hrow, d2, f4⟩ := h2.node hl
  obtain ⟨k0, k1, k2⟩ := b2.cells
  go_wp2_with fail
  refine (find_w hrow k s hP).mono ?_
  rintro e w3 ⟨rfl, hK3⟩
  rw [decide_eq_false hs]
  have h3 := h2.keeps (hK3 fun _ => False) (fun _ _ q => q)
  have b3 := b2.keeps (hK3 fun _ => False) (fun q => q)
  have hrow3 : RowK w3 g' l c := hrow.loc ((hK3 fun _ => False).block g' hrow.lt fun q => q)
  clear d0 d1 f2 f3 d2 f4 k0 k1 k2
  obtain ⟨k0, k1, k2⟩ := b3.cells
  go_wp2_with (at_builtin; refine halt_ ?_)
  intro _
  obtain ⟨cs, e', hg3, hsz, hf, hlc, hc, hcm⟩ := hrow3
  have hl3 : g' < w3.heap.size := (Array.getElem?_eq_some_iff.1 hg3).1
  refine wpList_plain rfl fun K hK => wp_app (.tmp 41) (.tmp 43) _ _ rfl Go.Proofs.Tryz.underlying158 Go.Proofs.Tryz.underlying158 hiK hzK (by rw [hsK]; rfl) hsK hbK g' l.length c rfl hc (by rw [al_old hl3]; exact hg3) hsz hlc rfl (kc k)
    (fc_block (al_new rfl) rfl fun j u hj => by simpa [kc] using hj) rfl (by simp [kc, Value.oneCell']) (by simp only [maxLen]; omega) hcm (by omega) ?_
  intro g2 cap2 cs2 e2 w4 hor hc2 hlc2 hcm2 hg4 hsz2 hf2 hK4
  refine hK _ _ ?_
  have hsl : s ≤ l.length := hP.le
  have w1 : IntKind.i64.wrap ((s : Int) + 1) = (s : Int) + 1 := wrap_id ⟨by omega, by omega⟩
  have j0 : (0 : Int) ≤ (s : Int) := by omega
  have j1 : (s : Int) ≤ (l.length : Int) + 1 := by omega
  have j2 : (0 : Int) ≤ (s : Int) + 1 := by omega
  have j3 : (s : Int) + 1 ≤ (l.length : Int) + 1 := by omega
  go_wp2_with fail
  have hpre : (flat l ++ kc k) <+: cs2.toList := by
    exact pre_app (flat_length l) hf (fun j hj => hf2 j (by rw [show (kc k).length = 3 from rfl] at hj; omega)) (by rw [show (kc k).length = 3 from rfl]; omega)
  have hone : ∀ u ∈ (cs2.toList.drop (s * 3)).take ((l.length - s) * 3), u.oneCell' = true := seg_one hpre (fun u hu => by
    rcases List.mem_append.1 hu with hu | hu
    · exact flat_one u hu
    · simp [kc] at hu; rcases hu with rfl | rfl | rfl <;> rfl) (by rw [List.length_append, flat_length, show (kc k).length = 3 from rfl]; omega)
  go_region_held3 (fun _ => True) (trivial) ((refine step_of rfl (wp_cpy (.tmp 48) (.tmp 51) _ _ rfl Go.Proofs.Tryz.underlying158 hiK hsK g2 ((s + 1) * 3) (s * 3) (l.length - s) hg4 rfl rfl (by simp only [Nat.min_def]; split <;> omega) (fun hm => ⟨if_neg (by omega), if_neg (by omega)⟩) (by omega) (by omega) hone ?_); intro w5 hg5 hK5))
  have hnd := h.nb
  have hgm : g' ∈ gs := List.mem_of_getElem? hg'
  simp only [Option.toList_some, List.cons_append, List.nil_append, List.nodup_cons, List.mem_cons, not_or] at hnd
  obtain ⟨⟨n1, n2⟩, n3, n4⟩ := hnd
  have l1 := h.lt g (.inr (.inl rfl))
  have l2 := h.lt g' (.inr (.inr hgm))
  have z2 : w.heap.size + 1 ≤ w3.heap.size := by
    have a1 := (hK2 fun _ => False).size
    have a2 := (hK3 fun _ => False).size
    have a3 : (w.alloc (.cells #[.int .u64 k.c, .int .i64 k.v, .int .i64 k.d] 126)).heap.size = w.heap.size + 1 := sz_al
    omega
  have z3 : (w3.alloc (.cells #[.int .u64 k.c, .int .i64 k.v, .int .i64 k.d] 126)).heap.size = w3.heap.size + 1 := sz_al
  rw [z3] at hor
  have hg2b : ∀ x, x < w3.heap.size → x ≠ g' → x ≠ g2 := fun x h1 h2 h3 => by rcases hor with q | q <;> omega
  have hsame : ∀ x, x < w3.heap.size → x ≠ g' → w5.heap[x]? = w3.heap[x]? := fun x h1 h2 => by
    rw [hK5.block x (Nat.lt_of_lt_of_le (by rw [z3]; omega) hK4.size) (hg2b x h1 h2), show w4.drew.heap = w4.heap from rfl, hK4.block x (by rw [z3]; omega) h2, al_old h1]
  have m1 : b ≠ g' := fun q => n2 (q ▸ hgm)
  have m2 : g ≠ g' := fun q => n3 (q ▸ hgm)
  have hgb : ¬ b = g2 := hg2b b (by omega) m1
  have hgg : ¬ g = g2 := hg2b g (by omega) m2
  have hgh : ¬ w.heap.size = g2 := hg2b _ (by omega) (by omega)
  have hgb' : ¬ g2 = b := fun q => hgb q.symm
  have hgg' : ¬ g2 = g := fun q => hgg q.symm
  have hgh' : ¬ g2 = w.heap.size := fun q => hgh q.symm
  have hbg : ¬ b = g := n1
  have hbg' : ¬ g = b := fun q => n1 q.symm
  obtain ⟨p0, p1, q0, q1, _⟩ := h3.root
  obtain ⟨_, _, _, _, p2, q2⟩ := h3.node hl
  have e0 := (cell_same (hsame b (by omega) m1) 0).trans p0
  have e1 := (cell_same (hsame b (by omega) m1) 1).trans p1
  have r0 := (frozen_same (hsame b (by omega) m1) 0).trans q0
  have r1 := (frozen_same (hsame b (by omega) m1) 1).trans q1
  have e3 := (cell_same (hsame g (by omega) m2) i).trans p2
  have r2 := (frozen_same (hsame g (by omega) m2) i).trans q2
  have e4 := (cell_same (hsame w.heap.size (by omega) (by omega)) 0).trans k0
  have e5 := (cell_same (hsame w.heap.size (by omega) (by omega)) 1).trans k1
  have e6 := (cell_same (hsame w.heap.size (by omega) (by omega)) 2).trans k2
  have hz5 : (splice cs2.toList ((s + 1) * 3) ((cs2.toList.drop (s * 3)).take ((l.length - s) * 3))).toArray.size = cs2.size := by
    rw [List.size_toArray, splice_length (by simp; omega)]; simp
  obtain ⟨v0, e7⟩ := cell_in hg5 (o := s * 3) (by omega)
  obtain ⟨v1, e8⟩ := cell_in hg5 (o := s * 3 + 1) (by omega)
  obtain ⟨v2, e9⟩ := cell_in hg5 (o := s * 3 + 2) (by omega)
  have r3 := frozen_in (o := s * 3) hg5
  have r4 := frozen_in (o := s * 3 + 1) hg5
  have r5 := frozen_in (o := s * 3 + 2) hg5
  have wn : IntKind.i64.wrap (n + 1) = n + 1 := wrap_id ⟨by omega, by omega⟩
  have j4 : (s : Int) < (l.length : Int) + 1 := by omega
  have j5 : ¬ ((32 : Int) < (l.length : Int) + 1) := by omega
  clear k0 k1 k2 p0 p1 q0 q1 p2 q2
  go_wp2_with fail
  · go_ret
    obtain ⟨ho0, ho⟩ := h3.out g rfl
    obtain ⟨co, eo, hco1, hco2, hco4⟩ := ho
    obtain ⟨eb, heb⟩ := h3.hd
    have G0 := (hsame g (by omega) m2).trans hco1
    have B0 := (hsame b (by omega) m1).trans heb
    have G1 := sc_same (o := s * 3) (v := .int .u64 k.c) hg5
    have G2 := sc_same (o := s * 3 + 1) (v := .int .i64 k.v) G1
    have G3 := sc_same (o := s * 3 + 2) (v := .int .i64 k.d) G2
    have O1 : ∀ x, x ≠ g2 → (((w5.setCell ⟨g2, s * 3, none⟩ (.int .u64 k.c)).setCell ⟨g2, s * 3 + 1, none⟩ (.int .i64 k.v)).setCell ⟨g2, s * 3 + 2, none⟩ (.int .i64 k.d)).heap[x]? = w5.heap[x]? := fun x hx => by
      rw [sc_other G2 hx, sc_other G1 hx, sc_other hg5 hx]
    have K1 : Keeps (· = g2) w5 (((w5.setCell ⟨g2, s * 3, none⟩ (.int .u64 k.c)).setCell ⟨g2, s * 3 + 1, none⟩ (.int .i64 k.v)).setCell ⟨g2, s * 3 + 2, none⟩ (.int .i64 k.d)) := ((sc_keeps (I := (· = g2)) hg5 rfl).trans (sc_keeps (I := (· = g2)) G1 rfl)).trans (sc_keeps (I := (· = g2)) G2 rfl)
    generalize ((w5.setCell ⟨g2, s * 3, none⟩ (.int .u64 k.c)).setCell ⟨g2, s * 3 + 1, none⟩ (.int .i64 k.v)).setCell ⟨g2, s * 3 + 2, none⟩ (.int .i64 k.d) = w6 at *
    have C0 := (O1 g hgg).trans G0
    have C1 := (O1 b hgb).trans B0
    have hll : (l.take s ++ k :: l.drop s).length = l.length + 1 := by simp; omega
    have F1 := sc_same (o := i) (v := .slice (some ⟨g2, 0, none⟩) (l.length + 1) (s + 1)) C0
    have O2 : ∀ x, x ≠ g → (w6.setCell ⟨g, i, none⟩ (.slice (some ⟨g2, 0, none⟩) (l.length + 1) (s + 1))).heap[x]? = w6.heap[x]? := fun x hx => sc_other C0 hx
    have K2 := sc_keeps (o := i) (v := .slice (some ⟨g2, 0, none⟩) (l.length + 1) (s + 1)) (I := fun x => Ft b (some g) gs x ∨ w.heap.size ≤ x) C0 (.inl (.inr (.inl rfl)))
    generalize w6.setCell ⟨g, i, none⟩ (.slice (some ⟨g2, 0, none⟩) (l.length + 1) (s + 1)) = w7 at *
    have D1 := (O2 b hbg).trans C1
    have F2 := sc_same (o := 1) (v := .int .i64 (n + 1)) D1
    have O3 : ∀ x, x ≠ b → (w7.setCell ⟨b, 1, none⟩ (.int .i64 (n + 1))).heap[x]? = w7.heap[x]? := fun x hx => sc_other D1 hx
    have K3 := sc_keeps (o := 1) (v := .int .i64 (n + 1)) (I := fun x => Ft b (some g) gs x ∨ w.heap.size ≤ x) D1 (.inl (.inl rfl))
    generalize w7.setCell ⟨b, 1, none⟩ (.int .i64 (n + 1)) = w8 at *
    have hI2 : Ft b (some g) gs g2 ∨ w.heap.size ≤ g2 := by
      rcases hor with q | q
      · exact .inl (.inr (.inr (q ▸ hgm)))
      · exact .inr (by omega)
    refine ⟨rfl, gs.set i g2, h3.put hat ⟨eb, F2⟩ ⟨co, eo, hco1, ?_⟩ (c2 := (s + 1)) ?_ (fun j x hj hx => ?_) ?_, keeps_old ?_, fun x hx => ?_⟩
    · rw [O3 g hbg', F1, hll]
    · refine ⟨_, e2, by rw [O3 g2 hgb', O2 g2 hgg']; exact G3, by simp; simp at hz5; omega, ?_, by rw [hll]; omega, by omega, by omega⟩
      intro j u hj
      have hpi : _ <+: splice _ _ [Value.int .u64 k.c, Value.int .i64 k.v, Value.int .i64 k.d] := ins_cells hsl hpre
      rw [← set3 _ _ _ _ _ (by rw [splice_length (by simp; omega)]; simp; omega)] at hpi
      obtain ⟨t, ht⟩ := hpi
      have : j < (flat (l.take s ++ k :: l.drop s)).length := (List.getElem?_eq_some_iff.1 hj).1
      simp only [List.setIfInBounds_toArray, List.getElem?_toArray]
      rw [← ht, List.getElem?_append_left this]
      exact hj
    · have hxm : x ∈ gs := List.mem_of_getElem? hx
      have x1 : x ≠ b := fun q => n2 (q ▸ hxm)
      have x2 : x ≠ g := fun q => n3 (q ▸ hxm)
      have x3 : x ≠ g' := fun q => by
        subst q
        have := (List.getElem?_inj (List.getElem?_eq_some_iff.1 hx).1 n4).1 (hx.trans hg'.symm)
        exact hj this
      have x4 := h3.lt x (.inr (.inr hxm))
      rw [O3 x x1, O2 x x2, O1 x (hg2b x x4 x3), hsame x x4 x3]
    · rcases hor with q | q
      · exact .inl (q ▸ hg')
      · refine .inr ⟨hgb', hgg', fun hm => ?_⟩
        have := h3.lt g2 (.inr (.inr hm))
        omega
    · have kd : Keeps (fun x => Ft b (some g) gs x ∨ w.heap.size ≤ x) w4 w4.drew := ⟨rfl, rfl, rfl, Nat.le_refl _, fun _ _ _ => rfl⟩
      have k4 := hK4.mono (J := fun x => Ft b (some g) gs x ∨ w.heap.size ≤ x) fun x hx => .inl (.inr (.inr (hx ▸ hgm)))
      have k5 := hK5.mono (J := fun x => Ft b (some g) gs x ∨ w.heap.size ≤ x) fun x hx => hx ▸ hI2
      have k6 := K1.mono (J := fun x => Ft b (some g) gs x ∨ w.heap.size ≤ x) fun x hx => hx ▸ hI2
      exact (((((((((keeps_al.trans (hK2 _)).trans (hK3 _)).trans keeps_al).trans k4).trans kd).trans k5).trans k6).trans K2).trans K3)
    · rcases hx with q | q | q
      · exact .inl (.inl q)
      · exact .inl (.inr (.inl q))
      · rcases List.mem_or_eq_of_mem_set q with q | q
        · exact .inl (.inr (.inr q))
        · exact q ▸ hI2
  · go_ret
    obtain ⟨ho0, ho⟩ := h3.out g rfl
    obtain ⟨co, eo, hco1, hco2, hco4⟩ := ho
    obtain ⟨eb, heb⟩ := h3.hd
    have G0 := (hsame g (by omega) m2).trans hco1
    have B0 := (hsame b (by omega) m1).trans heb
    have G1 := sc_same (o := s * 3) (v := .int .u64 k.c) hg5
    have G2 := sc_same (o := s * 3 + 1) (v := .int .i64 k.v) G1
    have G3 := sc_same (o := s * 3 + 2) (v := .int .i64 k.d) G2
    have O1 : ∀ x, x ≠ g2 → (((w5.setCell ⟨g2, s * 3, none⟩ (.int .u64 k.c)).setCell ⟨g2, s * 3 + 1, none⟩ (.int .i64 k.v)).setCell ⟨g2, s * 3 + 2, none⟩ (.int .i64 k.d)).heap[x]? = w5.heap[x]? := fun x hx => by
      rw [sc_other G2 hx, sc_other G1 hx, sc_other hg5 hx]
    have K1 : Keeps (· = g2) w5 (((w5.setCell ⟨g2, s * 3, none⟩ (.int .u64 k.c)).setCell ⟨g2, s * 3 + 1, none⟩ (.int .i64 k.v)).setCell ⟨g2, s * 3 + 2, none⟩ (.int .i64 k.d)) := ((sc_keeps (I := (· = g2)) hg5 rfl).trans (sc_keeps (I := (· = g2)) G1 rfl)).trans (sc_keeps (I := (· = g2)) G2 rfl)
    generalize ((w5.setCell ⟨g2, s * 3, none⟩ (.int .u64 k.c)).setCell ⟨g2, s * 3 + 1, none⟩ (.int .i64 k.v)).setCell ⟨g2, s * 3 + 2, none⟩ (.int .i64 k.d) = w6 at *
    have C0 := (O1 g hgg).trans G0
    have C1 := (O1 b hgb).trans B0
    have hll : (l.take s ++ k :: l.drop s).length = l.length + 1 := by simp; omega
    have F1 := sc_same (o := i) (v := .slice (some ⟨g2, 0, none⟩) (l.length + 1) cap2) C0
    have O2 : ∀ x, x ≠ g → (w6.setCell ⟨g, i, none⟩ (.slice (some ⟨g2, 0, none⟩) (l.length + 1) cap2)).heap[x]? = w6.heap[x]? := fun x hx => sc_other C0 hx
    have K2 := sc_keeps (o := i) (v := .slice (some ⟨g2, 0, none⟩) (l.length + 1) cap2) (I := fun x => Ft b (some g) gs x ∨ w.heap.size ≤ x) C0 (.inl (.inr (.inl rfl)))
    generalize w6.setCell ⟨g, i, none⟩ (.slice (some ⟨g2, 0, none⟩) (l.length + 1) cap2) = w7 at *
    have D1 := (O2 b hbg).trans C1
    have F2 := sc_same (o := 1) (v := .int .i64 (n + 1)) D1
    have O3 : ∀ x, x ≠ b → (w7.setCell ⟨b, 1, none⟩ (.int .i64 (n + 1))).heap[x]? = w7.heap[x]? := fun x hx => sc_other D1 hx
    have K3 := sc_keeps (o := 1) (v := .int .i64 (n + 1)) (I := fun x => Ft b (some g) gs x ∨ w.heap.size ≤ x) D1 (.inl (.inl rfl))
    generalize w7.setCell ⟨b, 1, none⟩ (.int .i64 (n + 1)) = w8 at *
    have hI2 : Ft b (some g) gs g2 ∨ w.heap.size ≤ g2 := by
      rcases hor with q | q
      · exact .inl (.inr (.inr (q ▸ hgm)))
      · exact .inr (by omega)
    refine ⟨rfl, gs.set i g2, h3.put hat ⟨eb, F2⟩ ⟨co, eo, hco1, ?_⟩ (c2 := cap2) ?_ (fun j x hj hx => ?_) ?_, keeps_old ?_, fun x hx => ?_⟩
    · rw [O3 g hbg', F1, hll]
    · refine ⟨_, e2, by rw [O3 g2 hgb', O2 g2 hgg']; exact G3, by simp; simp at hz5; omega, ?_, by rw [hll]; omega, by omega, by omega⟩
      intro j u hj
      have hpi : _ <+: splice _ _ [Value.int .u64 k.c, Value.int .i64 k.v, Value.int .i64 k.d] := ins_cells hsl hpre
      rw [← set3 _ _ _ _ _ (by rw [splice_length (by simp; omega)]; simp; omega)] at hpi
      obtain ⟨t, ht⟩ := hpi
      have : j < (flat (l.take s ++ k :: l.drop s)).length := (List.getElem?_eq_some_iff.1 hj).1
      simp only [List.setIfInBounds_toArray, List.getElem?_toArray]
      rw [← ht, List.getElem?_append_left this]
      exact hj
    · have hxm : x ∈ gs := List.mem_of_getElem? hx
      have x1 : x ≠ b := fun q => n2 (q ▸ hxm)
      have x2 : x ≠ g := fun q => n3 (q ▸ hxm)
      have x3 : x ≠ g' := fun q => by
        subst q
        have := (List.getElem?_inj (List.getElem?_eq_some_iff.1 hx).1 n4).1 (hx.trans hg'.symm)
        exact hj this
      have x4 := h3.lt x (.inr (.inr hxm))
      rw [O3 x x1, O2 x x2, O1 x (hg2b x x4 x3), hsame x x4 x3]
    · rcases hor with q | q
      · exact .inl (q ▸ hg')
      · refine .inr ⟨hgb', hgg', fun hm => ?_⟩
        have := h3.lt g2 (.inr (.inr hm))
        omega
    · have kd : Keeps (fun x => Ft b (some g) gs x ∨ w.heap.size ≤ x) w4 w4.drew := ⟨rfl, rfl, rfl, Nat.le_refl _, fun _ _ _ => rfl⟩
      have k4 := hK4.mono (J := fun x => Ft b (some g) gs x ∨ w.heap.size ≤ x) fun x hx => .inl (.inr (.inr (hx ▸ hgm)))
      have k5 := hK5.mono (J := fun x => Ft b (some g) gs x ∨ w.heap.size ≤ x) fun x hx => hx ▸ hI2
      have k6 := K1.mono (J := fun x => Ft b (some g) gs x ∨ w.heap.size ≤ x) fun x hx => hx ▸ hI2
      exact (((((((((keeps_al.trans (hK2 _)).trans (hK3 _)).trans keeps_al).trans k4).trans kd).trans k5).trans k6).trans K2).trans K3)
    · rcases hx with q | q | q
      · exact .inl (.inl q)
      · exact .inl (.inr (.inl q))
      · rcases List.mem_or_eq_of_mem_set q with q | q
        · exact .inl (.inr (.inr q))
        · exact q ▸ hI2

open Go Go.RowKit
set_option maxRecDepth 100000
set_option maxHeartbeats 2000000 in
theorem split_w {w : World} {b g cap : Nat} {gs : List Nat} {ns : List (List Ky)} {n : Int} (hT : TL w b (some g) gs cap ns n) (i : Nat) (l : List Ky) (hl : ns[i]? = some l) (h33 : l.length = 33) (hm : ns.length + 1 ≤ 1000000) :
    Calls Go.Proofs.Tryz.prog 109 #[.pointer (some ⟨b, 0, none⟩), .int .i64 (i : Int)] w fun e w' => (∃ v, e = .returned v) ∧
    ∃ og' gs' cap', TL w' b og' gs' cap' (ns.take i ++ l.take 16 :: l.drop 16 :: ns.drop (i + 1)) n ∧ Keeps (Ft b (some g) gs) w w' ∧ ∀ x, Ft b og' gs' x → Ft b (some g) gs x ∨ w.heap.size ≤ x := by
  have hat : i < ns.length := (List.getElem?_eq_some_iff.1 hl).1
  obtain ⟨c0, c1, f0, f1, hlt⟩ := hT.root
  obtain ⟨g', c, hg', hrow, d2, f4⟩ := hT.node hl
  have i0 : (0 : Int) ≤ (i : Int) := by omega
  have i1 : (i : Int) < (ns.length : Int) := by omega
  obtain ⟨iK, hiK, hzK, hsK, hbK⟩ := info_of info_key
  obtain ⟨iR, hiR, hzR, hsR, hbR⟩ := info_of info_row
  obtain ⟨cs, e', hg3, hsz, hf, hlc, hc, hcm⟩ := hrow
  have h16 : (16 : Int) ≤ (l.length : Int) := by omega
  have h16' : ¬ c = 16 := by omega
  have h16c : (16 : Int) ≤ (c : Int) := by omega
  go_enter Go.Proofs.Tryz.func109, Go.Proofs.Tryz.ntmps109
  go_wp2_with (at_builtin; refine halt_ ?_)
  intro _
  have hnd := hT.nb
  have hgm : g' ∈ gs := List.mem_of_getElem? hg'
  simp only [Option.toList_some, List.cons_append, List.nil_append, List.nodup_cons, List.mem_cons, not_or] at hnd
  obtain ⟨⟨n1, n2⟩, n3, n4⟩ := hnd
  have l1 := hT.lt g (.inr (.inl rfl))
  have l2 := hT.lt g' (.inr (.inr hgm))
  have m1 : b ≠ g' := fun q => n2 (q ▸ hgm)
  have m2 : g ≠ g' := fun q => n3 (q ▸ hgm)
  refine wpList_plain rfl fun K hK => wp_app0 (.tmp 13) (.tmp 15) _ _ rfl Go.Proofs.Tryz.underlying158 Go.Proofs.Tryz.underlying158 hiK hzK (by rw [hsK]; rfl) hsK hbK rfl rfl (by omega) (flat (l.drop 16))
    (fc_block (by rw [al_old l2]; exact hg3) (by rw [flat_length, List.length_drop, h33]) fun j u hj => hf (16 * 3 + j) u (by rw [flat_drop_get (by omega)]; exact hj)) (by rw [flat_length, List.length_drop, h33]) flat_one (by simp [maxLen]) (by omega) ?_
  intro capR csR w2 hR1 hR2 hR3 hR4 hR5 hK2
  refine hK _ _ ?_
  rw [sz_al] at hR3 ⊢
  have z2 : w.heap.size + 1 + 1 ≤ w2.heap.size := by
    have := (Array.getElem?_eq_some_iff.1 hR3).1
    omega
  have k2 : ∀ I, Keeps I w w2 := fun I => keeps_al.trans (hK2 I)
  have h2 := hT.keeps (k2 fun _ => False) (fun _ _ q => q)
  obtain ⟨p0, p1, q0, q1, _⟩ := h2.root
  obtain ⟨ho0, co, eo, hco1, hco2, hco4⟩ := h2.out g rfl
  go_wp2_with (at_builtin; refine halt_ ?_)
  intro _
  refine wpList_plain rfl fun K hK => wp_app (.tmp 21) (.tmp 22) _ _ rfl Go.Proofs.Tryz.underlying155 Go.Proofs.Tryz.underlying155 hiR hzR (by rw [hsR]; rfl) hsR hbR g ns.length cap rfl ho0 (by rw [al_old (by omega)]; exact hco1) (by omega) hT.le rfl [.slice none 0 0]
    (fc_block (al_new rfl) rfl fun j u hj => by simpa using hj) rfl (by intro u hu; simp at hu; subst hu; rfl) (by simp only [maxLen]; omega) hT.mx (by omega) ?_
  intro G cap2 cs2 e2 w4 hor hc2 hlc2 hcm2 hg4 hsz2 hf2 hK4
  refine hK _ _ ?_
  have z4 : (w2.alloc (.cells #[.slice none 0 0] 158)).heap.size = w2.heap.size + 1 := sz_al
  rw [z4] at hor
  have hGb : ¬ G = b := fun q => by rcases hor with r | r; exact n1 (q ▸ r); omega
  have hbG : ¬ b = G := fun q => hGb q.symm
  have hs4 : ∀ x, x < w2.heap.size → x ≠ g → w4.heap[x]? = w2.heap[x]? := fun x h1 h2 => by
    rw [hK4.block x (by omega) h2, al_old h1]
  obtain ⟨eb, heb⟩ := h2.hd
  have B4 := (hs4 b (by omega) n1).trans heb
  obtain ⟨vb, b0⟩ := cell_in (o := 0) B4 (by simp)
  have b1 := frozen_in (o := 0) B4
  go_wp2_with fail
  have F5 := sc_same (o := 0) (v := .slice (some ⟨G, 0, none⟩) (ns.length + 1) cap2) B4
  have O5 : ∀ x, x ≠ b → (w4.setCell ⟨b, 0, none⟩ (.slice (some ⟨G, 0, none⟩) (ns.length + 1) cap2)).heap[x]? = w4.heap[x]? := fun x hx => sc_other B4 hx
  have K5 := sc_keeps (o := 0) (v := .slice (some ⟨G, 0, none⟩) (ns.length + 1) cap2) (I := (· = b)) B4 rfl
  generalize w4.setCell ⟨b, 0, none⟩ (.slice (some ⟨G, 0, none⟩) (ns.length + 1) cap2) = w5 at *
  have G5 := (O5 G hGb).trans hg4
  have c5 : w5.cell? ⟨b, 0, none⟩ = some (.slice (some ⟨G, 0, none⟩) (ns.length + 1) cap2) := by simp [World.cell?, F5]
  have w1 : IntKind.i64.wrap ((i : Int) + 1) = (i : Int) + 1 := wrap_id ⟨by omega, by omega⟩
  have w2' : IntKind.i64.wrap ((i : Int) + 2) = (i : Int) + 2 := wrap_id ⟨by omega, by omega⟩
  have j1 : (0 : Int) ≤ (i : Int) + 1 := by omega
  have j2 : (i : Int) + 1 ≤ (ns.length : Int) + 1 := by omega
  have j3 : (0 : Int) ≤ (i : Int) + 2 := by omega
  have j4 : (i : Int) + 2 ≤ (ns.length : Int) + 1 := by omega
  have hcs1 : ∀ u ∈ (cs2.toList.drop (i + 1)).take ((ns.length - i - 1) * 1), u.oneCell' = true := by
    intro u hu
    obtain ⟨j, hj⟩ := List.mem_iff_getElem?.1 hu
    rw [List.getElem?_take] at hj
    split at hj
    · rw [List.getElem?_drop, Array.getElem?_toList, hf2 _ (by omega)] at hj
      rcases List.mem_append.1 (List.mem_of_getElem? hj) with q | q
      · obtain ⟨z, hz⟩ := List.mem_iff_getElem?.1 q
        rw [List.getElem?_take] at hz
        split at hz
        · rename_i hzl
          obtain ⟨_, hy, _⟩ := hco4 z (gs[z]'(by rw [hT.len]; omega)) ns[z] (by simp) (by simp)
          rw [Array.getElem?_toList, hy] at hz
          cases hz
          rfl
        · cases hz
      · simp at q; subst q; rfl
    · cases hj
  go_region_held3 (fun w' => w'.cell? ⟨b, 0, none⟩ = some (.slice (some ⟨G, 0, none⟩) (ns.length + 1) cap2)) (first | assumption | exact (cell_same (hK6.block b (Array.getElem?_eq_some_iff.1 F5).1 hbG) 0).trans c5)
    ((refine step_of rfl (wp_cpy (.tmp 32) (.tmp 39) _ _ rfl Go.Proofs.Tryz.underlying155 hiR hsR G (i + 2) (i + 1) (ns.length - i - 1) G5 rfl rfl (by simp only [Nat.min_def]; split <;> omega) (fun hm => ⟨if_neg (by omega), if_neg (by omega)⟩) (by omega) (by omega) hcs1 ?_); intro w6 hg6 hK6))
  generalize Value.slice (if cap2 = ((i : Int) + 2).toNat then some ⟨G, 0, none⟩ else some ⟨G, ((i : Int) + 2).toNat, none⟩) (ns.length + 1 - ((i : Int) + 2).toNat) (cap2 - ((i : Int) + 2).toNat) = V32
  have nc1 : ¬ cap2 = i + 1 := by omega
  have hB6 : w6.heap[b]? = w5.heap[b]? := hK6.block b (Array.getElem?_eq_some_iff.1 F5).1 hbG
  have c6 : w6.cell? ⟨b, 0, none⟩ = some (.slice (some ⟨G, 0, none⟩) (ns.length + 1) cap2) := (cell_same hB6 0).trans c5
  have hz6 : (splice cs2.toList (i + 2) ((cs2.toList.drop (i + 1)).take ((ns.length - i - 1) * 1))).toArray.size = cs2.size := by
    rw [List.size_toArray, splice_length (by simp; omega)]; simp
  obtain ⟨u0, d0⟩ := cell_in hg6 (o := i) (by omega)
  obtain ⟨u1, d1⟩ := cell_in hg6 (o := i + 1) (by omega)
  have t0 := frozen_in (o := i) hg6
  have t1 := frozen_in (o := i + 1) hg6
  have j5 : (i : Int) < (ns.length : Int) + 1 := by omega
  have j6 : (i : Int) + 1 < (ns.length : Int) + 1 := by omega
  go_wp2_with fail
  go_region_held3 (fun w' => w'.cell? ⟨b, 0, none⟩ = some (.slice (some ⟨G, 0, none⟩) (ns.length + 1) cap2)) (go_keep) (fail)
  refine bodyPost_end (results_none rfl _ _ _) rfl ?_
  have G7 := sc_same (o := i) (v := .slice (some ⟨g', 0, none⟩) 16 16) hg6
  have G8 := sc_same (o := i + 1) (v := .slice (some ⟨w.heap.size + 1, 0, none⟩) 17 capR) G7
  have O8 : ∀ x, x ≠ G → ((w6.setCell ⟨G, i, none⟩ (.slice (some ⟨g', 0, none⟩) 16 16)).setCell ⟨G, i + 1, none⟩ (.slice (some ⟨w.heap.size + 1, 0, none⟩) 17 capR)).heap[x]? = w6.heap[x]? := fun x hx => by
    rw [sc_other G7 hx, sc_other hg6 hx]
  have K8 : Keeps (· = G) w6 ((w6.setCell ⟨G, i, none⟩ (.slice (some ⟨g', 0, none⟩) 16 16)).setCell ⟨G, i + 1, none⟩ (.slice (some ⟨w.heap.size + 1, 0, none⟩) 17 capR)) := (sc_keeps (I := (· = G)) hg6 rfl).trans (sc_keeps (I := (· = G)) G7 rfl)
  generalize (w6.setCell ⟨G, i, none⟩ (.slice (some ⟨g', 0, none⟩) 16 16)).setCell ⟨G, i + 1, none⟩ (.slice (some ⟨w.heap.size + 1, 0, none⟩) 17 capR) = w8 at *
  have hlen : (ns.take i ++ l.take 16 :: l.drop 16 :: ns.drop (i + 1)).length = ns.length + 1 := by simp; omega
  have hs8 : ∀ x, x < w2.heap.size → x ≠ g → x ≠ b → w8.heap[x]? = w2.heap[x]? := fun x h1 h2 h3 => by
    have hxG : x ≠ G := fun q => by rcases hor with r | r; exact h2 (q.trans r); omega
    have s4 := hK4.size
    have s5 := K5.size
    rw [O8 x hxG, hK6.block x (show x < w5.heap.size by omega) hxG, show w5.drew.heap = w5.heap from rfl, O5 x h3, hs4 x h1 h2]
  have hGf : G ∉ gs := fun hm => by
    rcases hor with r | r
    · exact n3 (r ▸ hm)
    · have := h2.lt G (.inr (.inr hm)); omega
  have kd : Keeps (fun x => Ft b (some g) gs x ∨ w.heap.size ≤ x) w8 w8.drew := ⟨rfl, rfl, rfl, Nat.le_refl _, fun _ _ _ => rfl⟩
  have hI2 : Ft b (some g) gs G ∨ w.heap.size ≤ G := by
    rcases hor with q | q
    · exact .inl (.inr (.inl (by rw [q])))
    · exact .inr (by omega)
  refine ⟨⟨_, rfl⟩, some G, gs.take i ++ g' :: (w.heap.size + 1) :: gs.drop (i + 1), cap2, ⟨⟨eb, ?_⟩, by rw [hlen]; exact hlc2, hcm2, by simp, fun G' hG' => ?_, ?_, ?_⟩, ?_, fun x hx => ?_⟩
  · show w8.heap[b]? = _
    rw [O8 b hbG, hB6, F5, hlen]
    rfl
  · cases hG'
    refine ⟨hc2, _, _, G8, by simp at hz6 ⊢; omega, fun j x l'' hx hl'' => ?_⟩
    have hj : j < ns.length + 1 := by rw [← hlen]; exact (List.getElem?_eq_some_iff.1 hl'').1
    rw [ins2 (by rw [hT.len]; exact hat)] at hx
    rw [ins2 hat] at hl''
    simp only [List.setIfInBounds_toArray, List.getElem?_toArray, List.getElem?_set, List.length_set]
    have hspl : (splice cs2.toList (i + 2) ((cs2.toList.drop (i + 1)).take ((ns.length - i - 1) * 1))).length = cs2.size := by simpa using hz6
    have hmid : ∀ z, z < ns.length → ∀ x l'', gs[z]? = some x → ns[z]? = some l'' → x ≠ g' → ∃ c, cs2[z]? = some (.slice (some ⟨x, 0, none⟩) l''.length c) ∧ RowK w8.drew x l'' c := fun z hz x l'' h1' h2' hx' => by
      obtain ⟨c', q1, q2⟩ := hco4 z x l'' h1' h2'
      refine ⟨c', ?_, q2.loc ?_⟩
      · rw [hf2 z (by omega), List.getElem?_append_left (by simp; have := (Array.getElem?_eq_some_iff.1 q1).1; omega), List.getElem?_take, if_pos (by omega)]
        simpa using q1
      · have hxm : x ∈ gs := List.mem_of_getElem? h1'
        exact hs8 x (h2.lt x (.inr (.inr hxm))) (fun q => n3 (q ▸ hxm)) (fun q => n2 (q ▸ hxm))
    have hne : ∀ z x, gs[z]? = some x → z ≠ i → x ≠ g' := fun z x hz hzi q => by
      subst q
      exact hzi ((List.getElem?_inj (List.getElem?_eq_some_iff.1 hz).1 n4).1 (hz.trans hg'.symm))
    have hsa := splice_at (l := cs2.toList) (m := (cs2.toList.drop (i + 1)).take ((ns.length - i - 1) * 1)) (i := i + 2) (by simp; omega)
    have hsl : ((cs2.toList.drop (i + 1)).take ((ns.length - i - 1) * 1)).length = ns.length - i - 1 := by simp; omega
    by_cases p1 : j < i
    · rw [if_pos p1] at hx hl''
      rw [if_neg (by omega), if_neg (by omega), hsa, if_neg (by omega)]
      simpa using hmid j (by omega) x l'' hx hl'' (hne j x hx (by omega))
    · rw [if_neg p1] at hx hl''
      by_cases p2 : j = i
      · rw [if_pos p2] at hx hl''
        cases hx; cases hl''
        subst p2
        rw [if_neg (by omega), if_pos rfl, if_pos (by omega)]
        refine ⟨16, by simp [h33], ⟨cs, e', ?_, by omega, fun q u hu => hf q u (flat_take_get hu), by simp only [List.length_take]; omega, by omega, by simp [maxLen]⟩⟩
        show w8.heap[g']? = _
        rw [hs8 g' (by omega) m2.symm m1.symm, (k2 fun _ => False).block g' l2 (fun q => q)]
        exact hg3
      · rw [if_neg p2] at hx hl''
        by_cases p3 : j = i + 1
        · rw [if_pos p3] at hx hl''
          cases hx; cases hl''
          subst p3
          rw [if_pos rfl, if_pos (by omega)]
          refine ⟨capR, by simp [h33], ⟨csR, 126, ?_, hR4, fun q u hu => ?_, by simp [h33]; omega, by omega, hR2⟩⟩
          · show w8.heap[w.heap.size + 1]? = _
            rw [hs8 (w.heap.size + 1) (by omega) (by omega) (by omega)]
            exact hR3
          · rw [hR5 q ?_]
            · exact hu
            · have := (List.getElem?_eq_some_iff.1 hu).1
              rw [flat_length, List.length_drop, h33] at this
              omega
        · rw [if_neg p3] at hx hl''
          rw [if_neg (by omega), if_neg (by omega), hsa, if_pos (by omega), List.getElem?_take, if_pos (by omega), List.getElem?_drop, show i + 1 + (j - (i + 2)) = j - 1 by omega]
          simpa using hmid (j - 1) (by omega) x l'' hx hl'' (hne (j - 1) x hx (by omega))
  · simp [hT.len]
  · have h9 := hT.lt
    have hnb : w.heap.size + 1 ∉ gs := fun hm => by have := hT.lt _ (.inr (.inr hm)); omega
    simp only [Option.toList_some, List.cons_append, List.nil_append, List.nodup_cons, List.mem_cons, not_or]
    have hsub : ∀ x, x ∈ gs.take i ++ g' :: (w.heap.size + 1) :: gs.drop (i + 1) → x ∈ gs ∨ x = w.heap.size + 1 := fun x hx => by
      rcases List.mem_append.1 hx with q | q
      · exact .inl (List.mem_of_mem_take q)
      · rcases List.mem_cons.1 q with q | q
        · exact .inl (q ▸ hgm)
        · rcases List.mem_cons.1 q with q | q
          · exact .inr q
          · exact .inl (List.mem_of_mem_drop q)
    refine ⟨⟨hbG, fun hm => ?_⟩, fun hm => ?_, ?_⟩
    · rcases hsub b hm with q | q
      · exact n2 q
      · omega
    · rcases hsub G hm with q | q
      · exact hGf q
      · rcases hor with r | r <;> omega
    · have hperm : (gs.take i ++ g' :: (w.heap.size + 1) :: gs.drop (i + 1)).Perm ((w.heap.size + 1) :: gs) := by
        have e1 : gs = gs.take i ++ g' :: gs.drop (i + 1) := by
          have hi : i < gs.length := by rw [hT.len]; exact hat
          have : gs[i] = g' := by rw [List.getElem?_eq_getElem hi] at hg'; exact Option.some.inj hg'
          rw [← this, List.getElem_cons_drop, List.take_append_drop]
        have e2 : (gs.take i ++ g' :: (w.heap.size + 1) :: gs.drop (i + 1)) = (gs.take i ++ [g']) ++ (w.heap.size + 1) :: gs.drop (i + 1) := by simp
        rw [e2]
        refine List.perm_middle.trans ?_
        refine List.Perm.cons _ ?_
        rw [List.append_assoc]
        exact e1 ▸ List.Perm.refl _
      exact hperm.nodup_iff.2 (List.nodup_cons.2 ⟨hnb, n4⟩)
  · have k4 := hK4.mono (J := fun x => Ft b (some g) gs x ∨ w.heap.size ≤ x) fun x hx => .inl (.inr (.inl (by rw [hx])))
    have k5 := K5.mono (J := fun x => Ft b (some g) gs x ∨ w.heap.size ≤ x) fun x hx => .inl (.inl hx)
    have kd5 : Keeps (fun x => Ft b (some g) gs x ∨ w.heap.size ≤ x) w5 w5.drew := ⟨rfl, rfl, rfl, Nat.le_refl _, fun _ _ _ => rfl⟩
    have k6 := hK6.mono (J := fun x => Ft b (some g) gs x ∨ w.heap.size ≤ x) fun x hx => hx ▸ hI2
    have k8 := K8.mono (J := fun x => Ft b (some g) gs x ∨ w.heap.size ≤ x) fun x hx => hx ▸ hI2
    exact keeps_old ((((((((k2 _).trans keeps_al).trans k4).trans k5).trans kd5).trans k6).trans k8).trans kd)
  · rcases hx with q | q | q
    · exact .inl (.inl q)
    · cases q; exact hI2
    · rcases List.mem_append.1 q with q | q
      · exact .inl (.inr (.inr (List.mem_of_mem_take q)))
      · rcases List.mem_cons.1 q with q | q
        · exact .inl (.inr (.inr (q ▸ hgm)))
        · rcases List.mem_cons.1 q with q | q
          · exact .inr (by omega)
          · exact .inl (.inr (.inr (List.mem_of_mem_drop q)))

open Go Go.RowKit
set_option maxRecDepth 100000
set_option maxHeartbeats 2000000 in
theorem put3_w {w : World} {b cap : Nat} {og : Option Nat} {gs : List Nat} {ns : List (List Ky)} {n : Int} (h : TL w b og gs cap ns n) (k : Ky) (r s : Nat) (l : List Ky) (hN : Nod ns k r) (hl : ns[r - 1]? = some l) (hP : Plc l k s) (hs : l[s]? ≠ some k) (hlen : l.length ≤ 32) (hlen2 : 32 ≤ l.length) (hm : ns.length + 1 ≤ 1000000) (hn0 : 0 ≤ n) (hn1 : n < 9223372036854775807) :
    Calls Go.Proofs.Tryz.prog 72 #[.pointer (some ⟨b, 0, none⟩), k.val] w fun e w' => e = .returned (.bool true) ∧
    ∃ og' gs' cap', TL w' b og' gs' cap' (ns.take (r - 1) ++ (l.take s ++ k :: l.drop s).take 16 :: (l.take s ++ k :: l.drop s).drop 16 :: ns.drop (r - 1 + 1)) (n + 1) ∧ Keeps (Ft b og gs) w w' ∧ ∀ x, Ft b og' gs' x → Ft b og gs x ∨ w.heap.size ≤ x := by
  obtain ⟨g, rfl⟩ := h.some_ hl
  have hat : r - 1 < ns.length := (List.getElem?_eq_some_iff.1 hl).1
  generalize hr : r - 1 = i at *
  obtain ⟨c0, c1, f0, f1, hlt⟩ := h.root
  have hne : ((ns.length : Int) == 0) = false := by rw [beq_eq_false_iff_ne]; omega
  have hk0 : ∀ x, Keeps (fun _ => False) w (w.alloc x) := fun x => keeps_al
  have i0 : (0 : Int) ≤ (i : Int) := by omega
  have i1 : (i : Int) < (ns.length : Int) := by omega
  obtain ⟨iK, hiK, hzK, hsK, hbK⟩ := info_of info_key
  simp only [Ky.val]
  go_enter Go.Proofs.Tryz.func72, Go.Proofs.Tryz.ntmps72
  go_wp2_with fail
  have h1 := h.keeps (hk0 (.cells #[.int .u64 k.c, .int .i64 k.v, .int .i64 k.d] 126)) (fun _ _ q => q)
  have b1 : KB (w.alloc (.cells #[.int .u64 k.c, .int .i64 k.v, .int .i64 k.d] 126)) w.heap.size k := al_new rfl
  refine (node_w h1 k r hN).mono ?_
  rintro e w2 ⟨rfl, hK2⟩
  rw [hr]
  have h2 := h1.keeps (hK2 fun _ => False) (fun _ _ q => q)
  have b2 := b1.keeps (hK2 fun _ => False) (fun q => q)
  obtain ⟨d0, d1, f2, f3, _⟩ := h2.root
  obtain ⟨g', c, hg', hrow, d2, f4⟩ := h2.node hl
  obtain ⟨k0, k1, k2⟩ := b2.cells
  go_wp2_with fail
  refine (find_w hrow k s hP).mono ?_
  rintro e w3 ⟨rfl, hK3⟩
  rw [decide_eq_false hs]
  have h3 := h2.keeps (hK3 fun _ => False) (fun _ _ q => q)
  have b3 := b2.keeps (hK3 fun _ => False) (fun q => q)
  have hrow3 : RowK w3 g' l c := hrow.loc ((hK3 fun _ => False).block g' hrow.lt fun q => q)
  clear d0 d1 f2 f3 d2 f4 k0 k1 k2
  obtain ⟨k0, k1, k2⟩ := b3.cells
  go_wp2_with (at_builtin; refine halt_ ?_)
  intro _
  obtain ⟨cs, e', hg3, hsz, hf, hlc, hc, hcm⟩ := hrow3
  have hl3 : g' < w3.heap.size := (Array.getElem?_eq_some_iff.1 hg3).1
  refine wpList_plain rfl fun K hK => wp_app (.tmp 41) (.tmp 43) _ _ rfl Go.Proofs.Tryz.underlying158 Go.Proofs.Tryz.underlying158 hiK hzK (by rw [hsK]; rfl) hsK hbK g' l.length c rfl hc (by rw [al_old hl3]; exact hg3) hsz hlc rfl (kc k)
    (fc_block (al_new rfl) rfl fun j u hj => by simpa [kc] using hj) rfl (by simp [kc, Value.oneCell']) (by simp only [maxLen]; omega) hcm (by omega) ?_
  intro g2 cap2 cs2 e2 w4 hor hc2 hlc2 hcm2 hg4 hsz2 hf2 hK4
  refine hK _ _ ?_
  have hsl : s ≤ l.length := hP.le
  have w1 : IntKind.i64.wrap ((s : Int) + 1) = (s : Int) + 1 := wrap_id ⟨by omega, by omega⟩
  have j0 : (0 : Int) ≤ (s : Int) := by omega
  have j1 : (s : Int) ≤ (l.length : Int) + 1 := by omega
  have j2 : (0 : Int) ≤ (s : Int) + 1 := by omega
  have j3 : (s : Int) + 1 ≤ (l.length : Int) + 1 := by omega
  go_wp2_with fail
  have hpre : (flat l ++ kc k) <+: cs2.toList := by
    exact pre_app (flat_length l) hf (fun j hj => hf2 j (by rw [show (kc k).length = 3 from rfl] at hj; omega)) (by rw [show (kc k).length = 3 from rfl]; omega)
  have hone : ∀ u ∈ (cs2.toList.drop (s * 3)).take ((l.length - s) * 3), u.oneCell' = true := seg_one hpre (fun u hu => by
    rcases List.mem_append.1 hu with hu | hu
    · exact flat_one u hu
    · simp [kc] at hu; rcases hu with rfl | rfl | rfl <;> rfl) (by rw [List.length_append, flat_length, show (kc k).length = 3 from rfl]; omega)
  go_region_held3 (fun _ => True) (trivial) ((refine step_of rfl (wp_cpy (.tmp 48) (.tmp 51) _ _ rfl Go.Proofs.Tryz.underlying158 hiK hsK g2 ((s + 1) * 3) (s * 3) (l.length - s) hg4 rfl rfl (by simp only [Nat.min_def]; split <;> omega) (fun hm => ⟨if_neg (by omega), if_neg (by omega)⟩) (by omega) (by omega) hone ?_); intro w5 hg5 hK5))
  have hnd := h.nb
  have hgm : g' ∈ gs := List.mem_of_getElem? hg'
  simp only [Option.toList_some, List.cons_append, List.nil_append, List.nodup_cons, List.mem_cons, not_or] at hnd
  obtain ⟨⟨n1, n2⟩, n3, n4⟩ := hnd
  have l1 := h.lt g (.inr (.inl rfl))
  have l2 := h.lt g' (.inr (.inr hgm))
  have z2 : w.heap.size + 1 ≤ w3.heap.size := by
    have a1 := (hK2 fun _ => False).size
    have a2 := (hK3 fun _ => False).size
    have a3 : (w.alloc (.cells #[.int .u64 k.c, .int .i64 k.v, .int .i64 k.d] 126)).heap.size = w.heap.size + 1 := sz_al
    omega
  have z3 : (w3.alloc (.cells #[.int .u64 k.c, .int .i64 k.v, .int .i64 k.d] 126)).heap.size = w3.heap.size + 1 := sz_al
  rw [z3] at hor
  have hg2b : ∀ x, x < w3.heap.size → x ≠ g' → x ≠ g2 := fun x h1 h2 h3 => by rcases hor with q | q <;> omega
  have hsame : ∀ x, x < w3.heap.size → x ≠ g' → w5.heap[x]? = w3.heap[x]? := fun x h1 h2 => by
    rw [hK5.block x (Nat.lt_of_lt_of_le (by rw [z3]; omega) hK4.size) (hg2b x h1 h2), show w4.drew.heap = w4.heap from rfl, hK4.block x (by rw [z3]; omega) h2, al_old h1]
  have m1 : b ≠ g' := fun q => n2 (q ▸ hgm)
  have m2 : g ≠ g' := fun q => n3 (q ▸ hgm)
  have hgb : ¬ b = g2 := hg2b b (by omega) m1
  have hgg : ¬ g = g2 := hg2b g (by omega) m2
  have hgh : ¬ w.heap.size = g2 := hg2b _ (by omega) (by omega)
  have hgb' : ¬ g2 = b := fun q => hgb q.symm
  have hgg' : ¬ g2 = g := fun q => hgg q.symm
  have hgh' : ¬ g2 = w.heap.size := fun q => hgh q.symm
  have hbg : ¬ b = g := n1
  have hbg' : ¬ g = b := fun q => n1 q.symm
  obtain ⟨p0, p1, q0, q1, _⟩ := h3.root
  obtain ⟨_, _, _, _, p2, q2⟩ := h3.node hl
  have e0 := (cell_same (hsame b (by omega) m1) 0).trans p0
  have e1 := (cell_same (hsame b (by omega) m1) 1).trans p1
  have r0 := (frozen_same (hsame b (by omega) m1) 0).trans q0
  have r1 := (frozen_same (hsame b (by omega) m1) 1).trans q1
  have e3 := (cell_same (hsame g (by omega) m2) i).trans p2
  have r2 := (frozen_same (hsame g (by omega) m2) i).trans q2
  have e4 := (cell_same (hsame w.heap.size (by omega) (by omega)) 0).trans k0
  have e5 := (cell_same (hsame w.heap.size (by omega) (by omega)) 1).trans k1
  have e6 := (cell_same (hsame w.heap.size (by omega) (by omega)) 2).trans k2
  have hz5 : (splice cs2.toList ((s + 1) * 3) ((cs2.toList.drop (s * 3)).take ((l.length - s) * 3))).toArray.size = cs2.size := by
    rw [List.size_toArray, splice_length (by simp; omega)]; simp
  obtain ⟨v0, e7⟩ := cell_in hg5 (o := s * 3) (by omega)
  obtain ⟨v1, e8⟩ := cell_in hg5 (o := s * 3 + 1) (by omega)
  obtain ⟨v2, e9⟩ := cell_in hg5 (o := s * 3 + 2) (by omega)
  have r3 := frozen_in (o := s * 3) hg5
  have r4 := frozen_in (o := s * 3 + 1) hg5
  have r5 := frozen_in (o := s * 3 + 2) hg5
  have wn : IntKind.i64.wrap (n + 1) = n + 1 := wrap_id ⟨by omega, by omega⟩
  have j4 : (s : Int) < (l.length : Int) + 1 := by omega
  have j5 : (32 : Int) < (l.length : Int) + 1 := by omega
  clear k0 k1 k2 p0 p1 q0 q1 p2 q2
  go_wp2_with fail
  · obtain ⟨ho0, ho⟩ := h3.out g rfl
    obtain ⟨co, eo, hco1, hco2, hco4⟩ := ho
    obtain ⟨eb, heb⟩ := h3.hd
    have G0 := (hsame g (by omega) m2).trans hco1
    have B0 := (hsame b (by omega) m1).trans heb
    have G1 := sc_same (o := s * 3) (v := .int .u64 k.c) hg5
    have G2 := sc_same (o := s * 3 + 1) (v := .int .i64 k.v) G1
    have G3 := sc_same (o := s * 3 + 2) (v := .int .i64 k.d) G2
    have O1 : ∀ x, x ≠ g2 → (((w5.setCell ⟨g2, s * 3, none⟩ (.int .u64 k.c)).setCell ⟨g2, s * 3 + 1, none⟩ (.int .i64 k.v)).setCell ⟨g2, s * 3 + 2, none⟩ (.int .i64 k.d)).heap[x]? = w5.heap[x]? := fun x hx => by
      rw [sc_other G2 hx, sc_other G1 hx, sc_other hg5 hx]
    have K1 : Keeps (· = g2) w5 (((w5.setCell ⟨g2, s * 3, none⟩ (.int .u64 k.c)).setCell ⟨g2, s * 3 + 1, none⟩ (.int .i64 k.v)).setCell ⟨g2, s * 3 + 2, none⟩ (.int .i64 k.d)) := ((sc_keeps (I := (· = g2)) hg5 rfl).trans (sc_keeps (I := (· = g2)) G1 rfl)).trans (sc_keeps (I := (· = g2)) G2 rfl)
    generalize ((w5.setCell ⟨g2, s * 3, none⟩ (.int .u64 k.c)).setCell ⟨g2, s * 3 + 1, none⟩ (.int .i64 k.v)).setCell ⟨g2, s * 3 + 2, none⟩ (.int .i64 k.d) = w6 at *
    have C0 := (O1 g hgg).trans G0
    have C1 := (O1 b hgb).trans B0
    have hll : (l.take s ++ k :: l.drop s).length = l.length + 1 := by simp; omega
    have F1 := sc_same (o := i) (v := .slice (some ⟨g2, 0, none⟩) (l.length + 1) (s + 1)) C0
    have O2 : ∀ x, x ≠ g → (w6.setCell ⟨g, i, none⟩ (.slice (some ⟨g2, 0, none⟩) (l.length + 1) (s + 1))).heap[x]? = w6.heap[x]? := fun x hx => sc_other C0 hx
    have K2 := sc_keeps (o := i) (v := .slice (some ⟨g2, 0, none⟩) (l.length + 1) (s + 1)) (I := fun x => Ft b (some g) gs x ∨ w.heap.size ≤ x) C0 (.inl (.inr (.inl rfl)))
    generalize w6.setCell ⟨g, i, none⟩ (.slice (some ⟨g2, 0, none⟩) (l.length + 1) (s + 1)) = w7 at *
    have D1 := (O2 b hbg).trans C1
    have F2 := sc_same (o := 1) (v := .int .i64 (n + 1)) D1
    have O3 : ∀ x, x ≠ b → (w7.setCell ⟨b, 1, none⟩ (.int .i64 (n + 1))).heap[x]? = w7.heap[x]? := fun x hx => sc_other D1 hx
    have K3 := sc_keeps (o := 1) (v := .int .i64 (n + 1)) (I := fun x => Ft b (some g) gs x ∨ w.heap.size ≤ x) D1 (.inl (.inl rfl))
    generalize w7.setCell ⟨b, 1, none⟩ (.int .i64 (n + 1)) = w8 at *
    have hI2 : Ft b (some g) gs g2 ∨ w.heap.size ≤ g2 := by
      rcases hor with q | q
      · exact .inl (.inr (.inr (q ▸ hgm)))
      · exact .inr (by omega)
    have hfin : ∃ gs', TL w8 b (some g) gs' cap (ns.set i (l.take s ++ k :: l.drop s)) (n + 1) ∧ Keeps (Ft b (some g) gs) w w8 ∧ ∀ x, Ft b (some g) gs' x → Ft b (some g) gs x ∨ w.heap.size ≤ x := by
     refine ⟨gs.set i g2, h3.put hat ⟨eb, F2⟩ ⟨co, eo, hco1, ?_⟩ (c2 := (s + 1)) ?_ (fun j x hj hx => ?_) ?_, keeps_old ?_, fun x hx => ?_⟩
     · rw [O3 g hbg', F1, hll]
     · refine ⟨_, e2, by rw [O3 g2 hgb', O2 g2 hgg']; exact G3, by simp; simp at hz5; omega, ?_, by rw [hll]; omega, by omega, by omega⟩
       intro j u hj
       have hpi : _ <+: splice _ _ [Value.int .u64 k.c, Value.int .i64 k.v, Value.int .i64 k.d] := ins_cells hsl hpre
       rw [← set3 _ _ _ _ _ (by rw [splice_length (by simp; omega)]; simp; omega)] at hpi
       obtain ⟨t, ht⟩ := hpi
       have : j < (flat (l.take s ++ k :: l.drop s)).length := (List.getElem?_eq_some_iff.1 hj).1
       simp only [List.setIfInBounds_toArray, List.getElem?_toArray]
       rw [← ht, List.getElem?_append_left this]
       exact hj
     · have hxm : x ∈ gs := List.mem_of_getElem? hx
       have x1 : x ≠ b := fun q => n2 (q ▸ hxm)
       have x2 : x ≠ g := fun q => n3 (q ▸ hxm)
       have x3 : x ≠ g' := fun q => by
         subst q
         have := (List.getElem?_inj (List.getElem?_eq_some_iff.1 hx).1 n4).1 (hx.trans hg'.symm)
         exact hj this
       have x4 := h3.lt x (.inr (.inr hxm))
       rw [O3 x x1, O2 x x2, O1 x (hg2b x x4 x3), hsame x x4 x3]
     · rcases hor with q | q
       · exact .inl (q ▸ hg')
       · refine .inr ⟨hgb', hgg', fun hm => ?_⟩
         have := h3.lt g2 (.inr (.inr hm))
         omega
     · have kd : Keeps (fun x => Ft b (some g) gs x ∨ w.heap.size ≤ x) w4 w4.drew := ⟨rfl, rfl, rfl, Nat.le_refl _, fun _ _ _ => rfl⟩
       have k4 := hK4.mono (J := fun x => Ft b (some g) gs x ∨ w.heap.size ≤ x) fun x hx => .inl (.inr (.inr (hx ▸ hgm)))
       have k5 := hK5.mono (J := fun x => Ft b (some g) gs x ∨ w.heap.size ≤ x) fun x hx => hx ▸ hI2
       have k6 := K1.mono (J := fun x => Ft b (some g) gs x ∨ w.heap.size ≤ x) fun x hx => hx ▸ hI2
       exact (((((((((keeps_al.trans (hK2 _)).trans (hK3 _)).trans keeps_al).trans k4).trans kd).trans k5).trans k6).trans K2).trans K3)
     · rcases hx with q | q | q
       · exact .inl (.inl q)
       · exact .inl (.inr (.inl q))
       · rcases List.mem_or_eq_of_mem_set q with q | q
         · exact .inl (.inr (.inr q))
         · exact q ▸ hI2
    obtain ⟨gs2, T8, K8', F8⟩ := hfin
    have hl8 : (ns.set i (l.take s ++ k :: l.drop s))[i]? = some (l.take s ++ k :: l.drop s) := by simp [hat]
    refine (split_w T8 i _ hl8 (by rw [hll]; omega) (by simpa using hm)).mono ?_
    rintro e w9 ⟨⟨v, rfl⟩, og', gs', cap', T9, K9, F9⟩
    go_wp2_with fail
    go_ret
    refine ⟨rfl, og', gs', cap', ?_, ?_, fun x hx => ?_⟩
    · have ta : (ns.set i (l.take s ++ k :: l.drop s)).take i = ns.take i := by rw [List.take_set_of_le (Nat.le_refl _)]
      have da : (ns.set i (l.take s ++ k :: l.drop s)).drop (i + 1) = ns.drop (i + 1) := by rw [List.drop_set_of_lt (by omega)]
      rw [ta, da] at T9
      exact T9
    · refine keeps_old ((K8'.mono fun x hx => .inl hx).trans (K9.mono fun x hx => F8 x hx))
    · rcases F9 x hx with q | q
      · exact F8 x q
      · have := K8'.size; exact .inr (by omega)
  · obtain ⟨ho0, ho⟩ := h3.out g rfl
    obtain ⟨co, eo, hco1, hco2, hco4⟩ := ho
    obtain ⟨eb, heb⟩ := h3.hd
    have G0 := (hsame g (by omega) m2).trans hco1
    have B0 := (hsame b (by omega) m1).trans heb
    have G1 := sc_same (o := s * 3) (v := .int .u64 k.c) hg5
    have G2 := sc_same (o := s * 3 + 1) (v := .int .i64 k.v) G1
    have G3 := sc_same (o := s * 3 + 2) (v := .int .i64 k.d) G2
    have O1 : ∀ x, x ≠ g2 → (((w5.setCell ⟨g2, s * 3, none⟩ (.int .u64 k.c)).setCell ⟨g2, s * 3 + 1, none⟩ (.int .i64 k.v)).setCell ⟨g2, s * 3 + 2, none⟩ (.int .i64 k.d)).heap[x]? = w5.heap[x]? := fun x hx => by
      rw [sc_other G2 hx, sc_other G1 hx, sc_other hg5 hx]
    have K1 : Keeps (· = g2) w5 (((w5.setCell ⟨g2, s * 3, none⟩ (.int .u64 k.c)).setCell ⟨g2, s * 3 + 1, none⟩ (.int .i64 k.v)).setCell ⟨g2, s * 3 + 2, none⟩ (.int .i64 k.d)) := ((sc_keeps (I := (· = g2)) hg5 rfl).trans (sc_keeps (I := (· = g2)) G1 rfl)).trans (sc_keeps (I := (· = g2)) G2 rfl)
    generalize ((w5.setCell ⟨g2, s * 3, none⟩ (.int .u64 k.c)).setCell ⟨g2, s * 3 + 1, none⟩ (.int .i64 k.v)).setCell ⟨g2, s * 3 + 2, none⟩ (.int .i64 k.d) = w6 at *
    have C0 := (O1 g hgg).trans G0
    have C1 := (O1 b hgb).trans B0
    have hll : (l.take s ++ k :: l.drop s).length = l.length + 1 := by simp; omega
    have F1 := sc_same (o := i) (v := .slice (some ⟨g2, 0, none⟩) (l.length + 1) cap2) C0
    have O2 : ∀ x, x ≠ g → (w6.setCell ⟨g, i, none⟩ (.slice (some ⟨g2, 0, none⟩) (l.length + 1) cap2)).heap[x]? = w6.heap[x]? := fun x hx => sc_other C0 hx
    have K2 := sc_keeps (o := i) (v := .slice (some ⟨g2, 0, none⟩) (l.length + 1) cap2) (I := fun x => Ft b (some g) gs x ∨ w.heap.size ≤ x) C0 (.inl (.inr (.inl rfl)))
    generalize w6.setCell ⟨g, i, none⟩ (.slice (some ⟨g2, 0, none⟩) (l.length + 1) cap2) = w7 at *
    have D1 := (O2 b hbg).trans C1
    have F2 := sc_same (o := 1) (v := .int .i64 (n + 1)) D1
    have O3 : ∀ x, x ≠ b → (w7.setCell ⟨b, 1, none⟩ (.int .i64 (n + 1))).heap[x]? = w7.heap[x]? := fun x hx => sc_other D1 hx
    have K3 := sc_keeps (o := 1) (v := .int .i64 (n + 1)) (I := fun x => Ft b (some g) gs x ∨ w.heap.size ≤ x) D1 (.inl (.inl rfl))
    generalize w7.setCell ⟨b, 1, none⟩ (.int .i64 (n + 1)) = w8 at *
    have hI2 : Ft b (some g) gs g2 ∨ w.heap.size ≤ g2 := by
      rcases hor with q | q
      · exact .inl (.inr (.inr (q ▸ hgm)))
      · exact .inr (by omega)
    have hfin : ∃ gs', TL w8 b (some g) gs' cap (ns.set i (l.take s ++ k :: l.drop s)) (n + 1) ∧ Keeps (Ft b (some g) gs) w w8 ∧ ∀ x, Ft b (some g) gs' x → Ft b (some g) gs x ∨ w.heap.size ≤ x := by
     refine ⟨gs.set i g2, h3.put hat ⟨eb, F2⟩ ⟨co, eo, hco1, ?_⟩ (c2 := cap2) ?_ (fun j x hj hx => ?_) ?_, keeps_old ?_, fun x hx => ?_⟩
     · rw [O3 g hbg', F1, hll]
     · refine ⟨_, e2, by rw [O3 g2 hgb', O2 g2 hgg']; exact G3, by simp; simp at hz5; omega, ?_, by rw [hll]; omega, by omega, by omega⟩
       intro j u hj
       have hpi : _ <+: splice _ _ [Value.int .u64 k.c, Value.int .i64 k.v, Value.int .i64 k.d] := ins_cells hsl hpre
       rw [← set3 _ _ _ _ _ (by rw [splice_length (by simp; omega)]; simp; omega)] at hpi
       obtain ⟨t, ht⟩ := hpi
       have : j < (flat (l.take s ++ k :: l.drop s)).length := (List.getElem?_eq_some_iff.1 hj).1
       simp only [List.setIfInBounds_toArray, List.getElem?_toArray]
       rw [← ht, List.getElem?_append_left this]
       exact hj
     · have hxm : x ∈ gs := List.mem_of_getElem? hx
       have x1 : x ≠ b := fun q => n2 (q ▸ hxm)
       have x2 : x ≠ g := fun q => n3 (q ▸ hxm)
       have x3 : x ≠ g' := fun q => by
         subst q
         have := (List.getElem?_inj (List.getElem?_eq_some_iff.1 hx).1 n4).1 (hx.trans hg'.symm)
         exact hj this
       have x4 := h3.lt x (.inr (.inr hxm))
       rw [O3 x x1, O2 x x2, O1 x (hg2b x x4 x3), hsame x x4 x3]
     · rcases hor with q | q
       · exact .inl (q ▸ hg')
       · refine .inr ⟨hgb', hgg', fun hm => ?_⟩
         have := h3.lt g2 (.inr (.inr hm))
         omega
     · have kd : Keeps (fun x => Ft b (some g) gs x ∨ w.heap.size ≤ x) w4 w4.drew := ⟨rfl, rfl, rfl, Nat.le_refl _, fun _ _ _ => rfl⟩
       have k4 := hK4.mono (J := fun x => Ft b (some g) gs x ∨ w.heap.size ≤ x) fun x hx => .inl (.inr (.inr (hx ▸ hgm)))
       have k5 := hK5.mono (J := fun x => Ft b (some g) gs x ∨ w.heap.size ≤ x) fun x hx => hx ▸ hI2
       have k6 := K1.mono (J := fun x => Ft b (some g) gs x ∨ w.heap.size ≤ x) fun x hx => hx ▸ hI2
       exact (((((((((keeps_al.trans (hK2 _)).trans (hK3 _)).trans keeps_al).trans k4).trans kd).trans k5).trans k6).trans K2).trans K3)
     · rcases hx with q | q | q
       · exact .inl (.inl q)
       · exact .inl (.inr (.inl q))
       · rcases List.mem_or_eq_of_mem_set q with q | q
         · exact .inl (.inr (.inr q))
         · exact q ▸ hI2
    obtain ⟨gs2, T8, K8', F8⟩ := hfin
    have hl8 : (ns.set i (l.take s ++ k :: l.drop s))[i]? = some (l.take s ++ k :: l.drop s) := by simp [hat]
    refine (split_w T8 i _ hl8 (by rw [hll]; omega) (by simpa using hm)).mono ?_
    rintro e w9 ⟨⟨v, rfl⟩, og', gs', cap', T9, K9, F9⟩
    go_wp2_with fail
    go_ret
    refine ⟨rfl, og', gs', cap', ?_, ?_, fun x hx => ?_⟩
    · have ta : (ns.set i (l.take s ++ k :: l.drop s)).take i = ns.take i := by rw [List.take_set_of_le (Nat.le_refl _)]
      have da : (ns.set i (l.take s ++ k :: l.drop s)).drop (i + 1) = ns.drop (i + 1) := by rw [List.drop_set_of_lt (by omega)]
      rw [ta, da] at T9
      exact T9
    · refine keeps_old ((K8'.mono fun x hx => .inl hx).trans (K9.mono fun x hx => F8 x hx))
    · rcases F9 x hx with q | q
      · exact F8 x q
      · have := K8'.size; exact .inr (by omega)

open Go Go.RowKit
set_option maxRecDepth 100000
theorem del0_w {w : World} {b cap : Nat} {og : Option Nat} {gs : List Nat} {n : Int} (h : TL w b og gs cap [] n) (k : Ky) : Calls Go.Proofs.Tryz.prog 106 #[.pointer (some ⟨b, 0, none⟩), k.val] w fun e w' => e = .returned (.bool false) ∧
  TL w' b og gs cap [] n ∧ ∀ I, Keeps I w w' := by
 obtain ⟨e, he⟩ := h.hd
 have hlt := h.lt b (.inl rfl)
 have hc : w.cell? ⟨b, 0, none⟩ = some (.slice (adr og) 0 cap) := by simp [World.cell?, he]
 have h1 := h.keeps (w' := w.alloc (.cells #[.int .u64 k.c, .int .i64 k.v, .int .i64 k.d] 126)) (keeps_al (I := fun _ => False)) (fun _ _ q => q)
 simp only [Ky.val]
 go_enter Go.Proofs.Tryz.func106, Go.Proofs.Tryz.ntmps106
 go_wp2_with fail
 go_ret
 exact ⟨rfl, h1, fun I => keeps_al⟩
theorem del1_w {w : World} {b cap : Nat} {og : Option Nat} {gs : List Nat} {ns : List (List Ky)} {n : Int} (h : TL w b og gs cap ns n) (k : Ky) (r s : Nat) (l : List Ky) (hN : Nod ns k r) (hl : ns[r - 1]? = some l) (hP : Plc l k s) (hs : l[s]? ≠ some k) : Calls Go.Proofs.Tryz.prog 106 #[.pointer (some ⟨b, 0, none⟩), k.val] w fun e w' => e = .returned (.bool false) ∧
  TL w' b og gs cap ns n ∧ ∀ I, Keeps I w w' := by
 obtain ⟨g, rfl⟩ := h.some_ hl
 have hat : r - 1 < ns.length := (List.getElem?_eq_some_iff.1 hl).1
 generalize hr : r - 1 = i at *
 obtain ⟨c0, c1, f0, f1, hlt⟩ := h.root
 have hne : ((ns.length : Int) == 0) = false := by rw [beq_eq_false_iff_ne]; omega
 have hk0 : ∀ x, Keeps (fun _ => False) w (w.alloc x) := fun x => keeps_al
 have i0 : (0 : Int) ≤ (i : Int) := by omega
 have i1 : (i : Int) < (ns.length : Int) := by omega
 simp only [Ky.val]
 go_enter Go.Proofs.Tryz.func106, Go.Proofs.Tryz.ntmps106
 go_wp2_with fail
 have h1 := h.keeps (hk0 (.cells #[.int .u64 k.c, .int .i64 k.v, .int .i64 k.d] 126)) (fun _ _ q => q)
 have b1 : KB (w.alloc (.cells #[.int .u64 k.c, .int .i64 k.v, .int .i64 k.d] 126)) w.heap.size k := al_new rfl
 refine (node_w h1 k r hN).mono ?_
 rintro e w2 ⟨rfl, hK2⟩
 rw [hr]
 have h2 := h1.keeps (hK2 fun _ => False) (fun _ _ q => q)
 have b2 := b1.keeps (hK2 fun _ => False) (fun q => q)
 obtain ⟨d0, d1, f2, f3, _⟩ := h2.root
 obtain ⟨g', c, hg', hrow, d2, f4⟩ := h2.node hl
 obtain ⟨k0, k1, k2⟩ := b2.cells
 go_wp2_with fail
 refine (find_w hrow k s hP).mono ?_
 rintro e w3 ⟨rfl, hK3⟩
 rw [decide_eq_false hs]
 go_wp2_with fail
 go_ret
 refine ⟨rfl, h2.keeps (hK3 fun _ => False) (fun _ _ q => q), fun I => (keeps_al.trans (hK2 I)).trans (hK3 I)⟩

open Go Go.RowKit
set_option maxRecDepth 100000
set_option maxHeartbeats 2000000 in
theorem del2_w {w : World} {b cap : Nat} {og : Option Nat} {gs : List Nat} {ns : List (List Ky)} {n : Int} (h : TL w b og gs cap ns n) (k : Ky) (r s : Nat) (l : List Ky) (hN : Nod ns k r) (hl : ns[r - 1]? = some l) (hP : Plc l k s) (hs : l[s]? = some k) (hlen : 2 ≤ l.length) (hlen3 : l.length ≤ 32) (hn0 : 0 < n) (hn1 : n < 9223372036854775807) :
    Calls Go.Proofs.Tryz.prog 106 #[.pointer (some ⟨b, 0, none⟩), k.val] w fun e w' => e = .returned (.bool true) ∧
    ∃ gs', TL w' b og gs' cap (ns.set (r - 1) (l.take s ++ l.drop (s + 1))) (n - 1) ∧ Keeps (Ft b og gs) w w' ∧ ∀ x, Ft b og gs' x → Ft b og gs x ∨ w.heap.size ≤ x := by
  obtain ⟨g, rfl⟩ := h.some_ hl
  have hat : r - 1 < ns.length := (List.getElem?_eq_some_iff.1 hl).1
  generalize hr : r - 1 = i at *
  obtain ⟨c0, c1, f0, f1, hlt⟩ := h.root
  have hne : ((ns.length : Int) == 0) = false := by rw [beq_eq_false_iff_ne]; omega
  have hk0 : ∀ x, Keeps (fun _ => False) w (w.alloc x) := fun x => keeps_al
  have i0 : (0 : Int) ≤ (i : Int) := by omega
  have i1 : (i : Int) < (ns.length : Int) := by omega
  obtain ⟨iK, hiK, hzK, hsK, hbK⟩ := info_of info_key
  simp only [Ky.val]
  go_enter Go.Proofs.Tryz.func106, Go.Proofs.Tryz.ntmps106
  go_wp2_with fail
  have h1 := h.keeps (hk0 (.cells #[.int .u64 k.c, .int .i64 k.v, .int .i64 k.d] 126)) (fun _ _ q => q)
  have b1 : KB (w.alloc (.cells #[.int .u64 k.c, .int .i64 k.v, .int .i64 k.d] 126)) w.heap.size k := al_new rfl
  refine (node_w h1 k r hN).mono ?_
  rintro e w2 ⟨rfl, hK2⟩
  rw [hr]
  have h2 := h1.keeps (hK2 fun _ => False) (fun _ _ q => q)
  have b2 := b1.keeps (hK2 fun _ => False) (fun q => q)
  obtain ⟨d0, d1, f2, f3, _⟩ := h2.root
  obtain ⟨g', c, hg', hrow, d2, f4⟩ := h2.node hl
  obtain ⟨k0, k1, k2⟩ := b2.cells
  go_wp2_with fail
  refine (find_w hrow k s hP).mono ?_
  rintro e w3 ⟨rfl, hK3⟩
  rw [decide_eq_true hs]
  have h3 := h2.keeps (hK3 fun _ => False) (fun _ _ q => q)
  have hrow3 : RowK w3 g' l c := hrow.loc ((hK3 fun _ => False).block g' hrow.lt fun q => q)
  clear d0 d1 f2 f3 d2 f4 k0 k1 k2
  obtain ⟨cs, e', hg3, hsz, hf, hlc, hc, hcm⟩ := hrow3
  have hl3 : g' < w3.heap.size := (Array.getElem?_eq_some_iff.1 hg3).1
  have hsl : s < l.length := (List.getElem?_eq_some_iff.1 hs).1
  have w1 : IntKind.i64.wrap ((s : Int) + 1) = (s : Int) + 1 := wrap_id ⟨by omega, by omega⟩
  have j0 : (0 : Int) ≤ (s : Int) := by omega
  have j1 : (s : Int) ≤ (l.length : Int) := by omega
  have j1' : (s : Int) ≤ (c : Int) := by omega
  have j2 : (0 : Int) ≤ (s : Int) + 1 := by omega
  have j3 : (s : Int) + 1 ≤ (l.length : Int) := by omega
  have hnd := h.nb
  have hgm : g' ∈ gs := List.mem_of_getElem? hg'
  simp only [Option.toList_some, List.cons_append, List.nil_append, List.nodup_cons, List.mem_cons, not_or] at hnd
  obtain ⟨⟨n1, n2⟩, n3, n4⟩ := hnd
  have l1 := h.lt g (.inr (.inl rfl))
  have l2 := h.lt g' (.inr (.inr hgm))
  have z2 : w.heap.size + 1 ≤ w3.heap.size := by
    have a1 := (hK2 fun _ => False).size
    have a2 := (hK3 fun _ => False).size
    have a3 : (w.alloc (.cells #[.int .u64 k.c, .int .i64 k.v, .int .i64 k.d] 126)).heap.size = w.heap.size + 1 := sz_al
    omega
  have m1 : b ≠ g' := fun q => n2 (q ▸ hgm)
  have m2 : g ≠ g' := fun q => n3 (q ▸ hgm)
  obtain ⟨p0, p1, q0, q1, _⟩ := h3.root
  obtain ⟨g'', c'', hg'', _, p2, q2⟩ := h3.node hl
  rw [hg'] at hg''
  cases hg''
  go_wp2_with fail
  have hnew : ∀ W : World, W.heap = w3.drew.heap → (Builtin.firstCells 3 (l.length - (s + 1)) (.slice (if c = s + 1 then some ⟨g', 0, none⟩ else some ⟨g', (s + 1) * 3, none⟩) (l.length - (s + 1)) (c - (s + 1)))).run Go.Proofs.Tryz.prog W = .ok (flat (l.drop (s + 1))).toArray W := by
    by_cases hq : c = s + 1
    · have : l.length - (s + 1) = 0 := by omega
      rw [this, List.drop_eq_nil_of_le (by omega)]
      exact fc_none
    · rw [if_neg hq]
      exact fc_block (w := w3.drew) hg3 (by rw [flat_length, List.length_drop]) fun j u hj => hf ((s + 1) * 3 + j) u (by rw [flat_drop_get (by omega)]; exact hj)
  have hw4 : ∀ (w4 : World), Keeps (· = g') w3.drew w4 → ∀ x, x < w3.heap.size → x ≠ g' → w4.heap[x]? = w3.heap[x]? := fun w4 hK x h1 h2 => hK.block x h1 h2
  have hb3 : b < w3.heap.size := by omega
  have hbg : ¬ b = g := n1
  have hbg' : ¬ g = b := fun q => n1 q.symm
  have hg3' : g < w3.heap.size := by omega
  go_region_held3 (fun w' => w'.cell? ⟨b, 0, none⟩ = some (.slice (some ⟨g, 0, none⟩) ns.length cap)) (first | exact e0 | go_keep)
    ((refine step_of rfl (wp_app (.tmp 40) (.tmp 44) _ _ rfl Go.Proofs.Tryz.underlying158 Go.Proofs.Tryz.underlying158 hiK hzK (by rw [hsK]; rfl) hsK hbK g' s c rfl hc (w := w3.drew) hg3 hsz (by omega) rfl (flat (l.drop (s + 1))) hnew (by rw [flat_length, List.length_drop]) flat_one (by simp only [maxLen]; omega) hcm (by omega) ?_); intro g2 c2 cs2 e2 w4 hor hc2 hlc2 hcm2 hg4 hsz2 hf2 hK4; have hs4 := hw4 w4 hK4; have e0 := (cell_same (hs4 b hb3 m1) 0).trans p0; have e3 := (cell_same (hs4 g hg3' m2) i).trans p2; have r2 := (frozen_same (hs4 g hg3' m2) i).trans q2))
  generalize Value.slice (if c = s + 1 then some ⟨g', 0, none⟩ else some ⟨g', (s + 1) * 3, none⟩) (l.length - (s + 1)) (c - (s + 1)) = V44
  obtain ⟨M, hM⟩ : ∃ M, M = s + (l.length - (s + 1)) := ⟨_, rfl⟩
  rw [← hM] at hlc2 hf2 ⊢
  have hMl : M + 1 = l.length := by omega
  have hll : (l.take s ++ l.drop (s + 1)).length = M := by simp; omega
  have hg2b : ∀ x, x < w3.heap.size → x ≠ g' → x ≠ g2 := fun x h1 h2 h3 => by
    rcases hor with q | q
    · omega
    · rw [show w3.drew.heap = w3.heap from rfl] at q; omega
  have hgb' : ¬ g2 = b := fun q => hg2b b hb3 m1 q.symm
  have hgg' : ¬ g2 = g := fun q => hg2b g hg3' m2 q.symm
  obtain ⟨ho0, co, eo, hco1, hco2, hco4⟩ := h3.out g rfl
  obtain ⟨eb, heb⟩ := h3.hd
  have C0 := (hs4 g hg3' m2).trans hco1
  have C1 := (hs4 b hb3 m1).trans heb
  have F1 := sc_same (o := i) (v := .slice (some ⟨g2, 0, none⟩) M c2) C0
  have O2 : ∀ x, x ≠ g → (w4.setCell ⟨g, i, none⟩ (.slice (some ⟨g2, 0, none⟩) M c2)).heap[x]? = w4.heap[x]? := fun x hx => sc_other C0 hx
  have K2 := sc_keeps (o := i) (v := .slice (some ⟨g2, 0, none⟩) M c2) (I := fun x => Ft b (some g) gs x ∨ w.heap.size ≤ x) C0 (.inl (.inr (.inl rfl)))
  generalize w4.setCell ⟨g, i, none⟩ (.slice (some ⟨g2, 0, none⟩) M c2) = w5 at *
  have D1 := (O2 b hbg).trans C1
  have a0 := (cell_same (O2 b hbg) 0).trans e0
  have a1 := (cell_same ((O2 b hbg).trans (hs4 b hb3 m1)) 1).trans p1
  have a2 := (frozen_same ((O2 b hbg).trans (hs4 b hb3 m1)) 1).trans q1
  have a3 : w5.cell? ⟨g, i, none⟩ = some (.slice (some ⟨g2, 0, none⟩) M c2) := by
    have : i < co.size := by have := h3.le; omega
    simp [World.cell?, F1, this]
  have hM0 : ((M : Int) == 0) = false := by rw [beq_eq_false_iff_ne]; omega
  have wn : IntKind.i64.wrap (n - 1) = n - 1 := wrap_id ⟨by omega, by omega⟩
  go_wp2_with fail
  go_ret
  have F2 := sc_same (o := 1) (v := .int .i64 (n - 1)) D1
  have O3 : ∀ x, x ≠ b → (w5.setCell ⟨b, 1, none⟩ (.int .i64 (n - 1))).heap[x]? = w5.heap[x]? := fun x hx => sc_other D1 hx
  have K3 := sc_keeps (o := 1) (v := .int .i64 (n - 1)) (I := fun x => Ft b (some g) gs x ∨ w.heap.size ≤ x) D1 (.inl (.inl rfl))
  generalize w5.setCell ⟨b, 1, none⟩ (.int .i64 (n - 1)) = w8 at *
  have hI2 : Ft b (some g) gs g2 ∨ w.heap.size ≤ g2 := by
    rcases hor with q | q
    · exact .inl (.inr (.inr (q ▸ hgm)))
    · rw [show w3.drew.heap = w3.heap from rfl] at q; exact .inr (by omega)
  refine ⟨rfl, gs.set i g2, h3.put hat ⟨eb, F2⟩ ⟨co, eo, hco1, ?_⟩ (c2 := c2) ?_ (fun j x hj hx => ?_) ?_, keeps_old ?_, fun x hx => ?_⟩
  · rw [O3 g hbg', F1, hll]
  · refine ⟨_, e2, by rw [O3 g2 hgb', O2 g2 hgg']; exact hg4, hsz2, fun j u hj => ?_, by rw [hll]; exact hlc2, hc2, hcm2⟩
    have hjl := (List.getElem?_eq_some_iff.1 hj).1
    rw [flat_length, hll] at hjl
    rw [hf2 j hjl, ← hj, flat_append]
    congr 2
    rw [show s * 3 = (flat (l.take s)).length by rw [flat_length, List.length_take, Nat.min_eq_left (by omega)]]
    exact pre_take fun j u hj => hf j u (flat_take_get hj)
  · have hxm : x ∈ gs := List.mem_of_getElem? hx
    have x1 : x ≠ b := fun q => n2 (q ▸ hxm)
    have x2 : x ≠ g := fun q => n3 (q ▸ hxm)
    have x3 : x ≠ g' := fun q => by
      subst q
      have := (List.getElem?_inj (List.getElem?_eq_some_iff.1 hx).1 n4).1 (hx.trans hg'.symm)
      exact hj this
    have x4 := h3.lt x (.inr (.inr hxm))
    rw [O3 x x1, O2 x x2, hs4 x x4 x3]
  · rcases hor with q | q
    · exact .inl (q ▸ hg')
    · refine .inr ⟨hgb', hgg', fun hm => ?_⟩
      have := h3.lt g2 (.inr (.inr hm))
      rw [show w3.drew.heap = w3.heap from rfl] at q
      omega
  · have kd : Keeps (fun x => Ft b (some g) gs x ∨ w.heap.size ≤ x) w3 w3.drew := ⟨rfl, rfl, rfl, Nat.le_refl _, fun _ _ _ => rfl⟩
    have k4 := hK4.mono (J := fun x => Ft b (some g) gs x ∨ w.heap.size ≤ x) fun x hx => .inl (.inr (.inr (hx ▸ hgm)))
    exact ((((((keeps_al.trans (hK2 _)).trans (hK3 _)).trans kd).trans k4).trans K2).trans K3)
  · rcases hx with q | q | q
    · exact .inl (.inl q)
    · exact .inl (.inr (.inl q))
    · rcases List.mem_or_eq_of_mem_set q with q | q
      · exact .inl (.inr (.inr q))
      · exact q ▸ hI2

open Go Go.RowKit
set_option maxRecDepth 100000
set_option maxHeartbeats 2000000 in
theorem del3_w {w : World} {b cap : Nat} {og : Option Nat} {gs : List Nat} {ns : List (List Ky)} {n : Int} (h : TL w b og gs cap ns n) (k : Ky) (r s : Nat) (l : List Ky) (hN : Nod ns k r) (hl : ns[r - 1]? = some l) (hP : Plc l k s) (hs : l[s]? = some k) (hlen3 : l.length ≤ 1) (hm : ns.length ≤ 1000000) (hn0 : 0 < n) (hn1 : n < 9223372036854775807) :
    Calls Go.Proofs.Tryz.prog 106 #[.pointer (some ⟨b, 0, none⟩), k.val] w fun e w' => e = .returned (.bool true) ∧
    ∃ og' gs' cap', TL w' b og' gs' cap' (ns.eraseIdx (r - 1)) (n - 1) ∧ Keeps (Ft b og gs) w w' ∧ ∀ x, Ft b og' gs' x → Ft b og gs x ∨ w.heap.size ≤ x := by
  obtain ⟨g, rfl⟩ := h.some_ hl
  have hat : r - 1 < ns.length := (List.getElem?_eq_some_iff.1 hl).1
  generalize hr : r - 1 = i at *
  obtain ⟨c0, c1, f0, f1, hlt⟩ := h.root
  have hne : ((ns.length : Int) == 0) = false := by rw [beq_eq_false_iff_ne]; omega
  have hk0 : ∀ x, Keeps (fun _ => False) w (w.alloc x) := fun x => keeps_al
  have i0 : (0 : Int) ≤ (i : Int) := by omega
  have i1 : (i : Int) < (ns.length : Int) := by omega
  obtain ⟨iR, hiR, hzR, hsR, hbR⟩ := info_of info_row
  obtain ⟨iK, hiK, hzK, hsK, hbK⟩ := info_of info_key
  simp only [Ky.val]
  go_enter Go.Proofs.Tryz.func106, Go.Proofs.Tryz.ntmps106
  go_wp2_with fail
  have h1 := h.keeps (hk0 (.cells #[.int .u64 k.c, .int .i64 k.v, .int .i64 k.d] 126)) (fun _ _ q => q)
  have b1 : KB (w.alloc (.cells #[.int .u64 k.c, .int .i64 k.v, .int .i64 k.d] 126)) w.heap.size k := al_new rfl
  refine (node_w h1 k r hN).mono ?_
  rintro e w2 ⟨rfl, hK2⟩
  rw [hr]
  have h2 := h1.keeps (hK2 fun _ => False) (fun _ _ q => q)
  have b2 := b1.keeps (hK2 fun _ => False) (fun q => q)
  obtain ⟨d0, d1, f2, f3, _⟩ := h2.root
  obtain ⟨g', c, hg', hrow, d2, f4⟩ := h2.node hl
  obtain ⟨k0, k1, k2⟩ := b2.cells
  go_wp2_with fail
  refine (find_w hrow k s hP).mono ?_
  rintro e w3 ⟨rfl, hK3⟩
  rw [decide_eq_true hs]
  have h3 := h2.keeps (hK3 fun _ => False) (fun _ _ q => q)
  have hrow3 : RowK w3 g' l c := hrow.loc ((hK3 fun _ => False).block g' hrow.lt fun q => q)
  clear d0 d1 f2 f3 d2 f4 k0 k1 k2
  obtain ⟨cs, e', hg3, hsz, hf, hlc, hc, hcm⟩ := hrow3
  have hl3 : g' < w3.heap.size := (Array.getElem?_eq_some_iff.1 hg3).1
  have hsl : s < l.length := (List.getElem?_eq_some_iff.1 hs).1
  have w1 : IntKind.i64.wrap ((s : Int) + 1) = (s : Int) + 1 := wrap_id ⟨by omega, by omega⟩
  have j0 : (0 : Int) ≤ (s : Int) := by omega
  have j1 : (s : Int) ≤ (l.length : Int) := by omega
  have j1' : (s : Int) ≤ (c : Int) := by omega
  have j2 : (0 : Int) ≤ (s : Int) + 1 := by omega
  have j3 : (s : Int) + 1 ≤ (l.length : Int) := by omega
  have hnd := h.nb
  have hgm : g' ∈ gs := List.mem_of_getElem? hg'
  simp only [Option.toList_some, List.cons_append, List.nil_append, List.nodup_cons, List.mem_cons, not_or] at hnd
  obtain ⟨⟨n1, n2⟩, n3, n4⟩ := hnd
  have l1 := h.lt g (.inr (.inl rfl))
  have l2 := h.lt g' (.inr (.inr hgm))
  have z2 : w.heap.size + 1 ≤ w3.heap.size := by
    have a1 := (hK2 fun _ => False).size
    have a2 := (hK3 fun _ => False).size
    have a3 : (w.alloc (.cells #[.int .u64 k.c, .int .i64 k.v, .int .i64 k.d] 126)).heap.size = w.heap.size + 1 := sz_al
    omega
  have m1 : b ≠ g' := fun q => n2 (q ▸ hgm)
  have m2 : g ≠ g' := fun q => n3 (q ▸ hgm)
  obtain ⟨p0, p1, q0, q1, _⟩ := h3.root
  obtain ⟨g'', c'', hg'', _, p2, q2⟩ := h3.node hl
  rw [hg'] at hg''
  cases hg''
  go_wp2_with fail
  have hnew : ∀ W : World, W.heap = w3.drew.heap → (Builtin.firstCells 3 (l.length - (s + 1)) (.slice (if c = s + 1 then some ⟨g', 0, none⟩ else some ⟨g', (s + 1) * 3, none⟩) (l.length - (s + 1)) (c - (s + 1)))).run Go.Proofs.Tryz.prog W = .ok (flat (l.drop (s + 1))).toArray W := by
    by_cases hq : c = s + 1
    · have : l.length - (s + 1) = 0 := by omega
      rw [this, List.drop_eq_nil_of_le (by omega)]
      exact fc_none
    · rw [if_neg hq]
      exact fc_block (w := w3.drew) hg3 (by rw [flat_length, List.length_drop]) fun j u hj => hf ((s + 1) * 3 + j) u (by rw [flat_drop_get (by omega)]; exact hj)
  have hw4 : ∀ (w4 : World), Keeps (· = g') w3.drew w4 → ∀ x, x < w3.heap.size → x ≠ g' → w4.heap[x]? = w3.heap[x]? := fun w4 hK x h1 h2 => hK.block x h1 h2
  have hb3 : b < w3.heap.size := by omega
  have hbg : ¬ b = g := n1
  have hbg' : ¬ g = b := fun q => n1 q.symm
  have hg3' : g < w3.heap.size := by omega
  go_region_held3 (fun w' => w'.cell? ⟨b, 0, none⟩ = some (.slice (some ⟨g, 0, none⟩) ns.length cap)) (first | exact e0 | go_keep)
    ((refine step_of rfl (wp_app (.tmp 40) (.tmp 44) _ _ rfl Go.Proofs.Tryz.underlying158 Go.Proofs.Tryz.underlying158 hiK hzK (by rw [hsK]; rfl) hsK hbK g' s c rfl hc (w := w3.drew) hg3 hsz (by omega) rfl (flat (l.drop (s + 1))) hnew (by rw [flat_length, List.length_drop]) flat_one (by simp only [maxLen]; omega) hcm (by omega) ?_); intro g2 c2 cs2 e2 w4 hor hc2 hlc2 hcm2 hg4 hsz2 hf2 hK4; have hs4 := hw4 w4 hK4; have e0 := (cell_same (hs4 b hb3 m1) 0).trans p0; have e3 := (cell_same (hs4 g hg3' m2) i).trans p2; have r2 := (frozen_same (hs4 g hg3' m2) i).trans q2))
  generalize Value.slice (if c = s + 1 then some ⟨g', 0, none⟩ else some ⟨g', (s + 1) * 3, none⟩) (l.length - (s + 1)) (c - (s + 1)) = V44
  obtain ⟨M, hM⟩ : ∃ M, M = s + (l.length - (s + 1)) := ⟨_, rfl⟩
  rw [← hM] at hlc2 hf2 ⊢
  have hMl : M + 1 = l.length := by omega
  have hll : (l.take s ++ l.drop (s + 1)).length = M := by simp; omega
  have hg2b : ∀ x, x < w3.heap.size → x ≠ g' → x ≠ g2 := fun x h1 h2 h3 => by
    rcases hor with q | q
    · omega
    · rw [show w3.drew.heap = w3.heap from rfl] at q; omega
  have hgb' : ¬ g2 = b := fun q => hg2b b hb3 m1 q.symm
  have hgg' : ¬ g2 = g := fun q => hg2b g hg3' m2 q.symm
  obtain ⟨ho0, co, eo, hco1, hco2, hco4⟩ := h3.out g rfl
  obtain ⟨eb, heb⟩ := h3.hd
  have C0 := (hs4 g hg3' m2).trans hco1
  have C1 := (hs4 b hb3 m1).trans heb
  have F1 := sc_same (o := i) (v := .slice (some ⟨g2, 0, none⟩) M c2) C0
  have O2 : ∀ x, x ≠ g → (w4.setCell ⟨g, i, none⟩ (.slice (some ⟨g2, 0, none⟩) M c2)).heap[x]? = w4.heap[x]? := fun x hx => sc_other C0 hx
  have K2 := sc_keeps (o := i) (v := .slice (some ⟨g2, 0, none⟩) M c2) (I := fun x => Ft b (some g) gs x ∨ w.heap.size ≤ x) C0 (.inl (.inr (.inl rfl)))
  generalize w4.setCell ⟨g, i, none⟩ (.slice (some ⟨g2, 0, none⟩) M c2) = w5 at *
  have D1 := (O2 b hbg).trans C1
  have a0 := (cell_same (O2 b hbg) 0).trans e0
  have a1 := (cell_same ((O2 b hbg).trans (hs4 b hb3 m1)) 1).trans p1
  have a2 := (frozen_same ((O2 b hbg).trans (hs4 b hb3 m1)) 1).trans q1
  have a3 : w5.cell? ⟨g, i, none⟩ = some (.slice (some ⟨g2, 0, none⟩) M c2) := by
    have : i < co.size := by have := h3.le; omega
    simp [World.cell?, F1, this]
  have hM0 : ((M : Int) == 0) = true := by rw [beq_iff_eq]; omega
  have wn : IntKind.i64.wrap (n - 1) = n - 1 := wrap_id ⟨by omega, by omega⟩
  go_wp2_with fail
  have F2 := sc_same (o := 1) (v := .int .i64 (n - 1)) D1
  have O3 : ∀ x, x ≠ b → (w5.setCell ⟨b, 1, none⟩ (.int .i64 (n - 1))).heap[x]? = w5.heap[x]? := fun x hx => sc_other D1 hx
  have K3 := sc_keeps (o := 1) (v := .int .i64 (n - 1)) (I := fun x => Ft b (some g) gs x ∨ w.heap.size ≤ x) D1 (.inl (.inl rfl))
  generalize w5.setCell ⟨b, 1, none⟩ (.int .i64 (n - 1)) = w8 at *
  have x0 : w8.cell? ⟨b, 0, none⟩ = some (.slice (some ⟨g, 0, none⟩) ns.length cap) := by simp [World.cell?, F2, adr]
  have y0 : w8.frozen? ⟨b, 0, none⟩ = false := by simp [World.frozen?, F2]
  have wi : IntKind.i64.wrap ((i : Int) + 1) = (i : Int) + 1 := wrap_id ⟨by omega, by omega⟩
  have i2 : (0 : Int) ≤ (i : Int) + 1 := by omega
  have i3 : (i : Int) + 1 ≤ (ns.length : Int) := by omega
  have i4 : (i : Int) ≤ (ns.length : Int) := by omega
  have hcl := h3.le
  have i5 : (i : Int) ≤ (cap : Int) := by omega
  have hg8 : w8.heap[g]? = some (.cells (co.setIfInBounds i (.slice (some ⟨g2, 0, none⟩) M c2)) eo (0, 0)) := (O3 g hbg').trans F1
  obtain ⟨hs, hhs⟩ : ∃ hs, hs = ((co.setIfInBounds i (.slice (some ⟨g2, 0, none⟩) M c2)).toList.drop (i + 1)).take (ns.length - (i + 1)) := ⟨_, rfl⟩
  have hsl2 : hs.length = (ns.length - (i + 1)) * 1 := by rw [hhs]; simp; omega
  have hsg : ∀ j u, hs[j]? = some u → co[i + 1 + j]? = some u := fun j u hj => by
    rw [hhs, List.getElem?_take] at hj
    split at hj
    · rw [List.getElem?_drop, Array.getElem?_toList, Array.getElem?_setIfInBounds, if_neg (by omega)] at hj
      exact hj
    · cases hj
  have hs1 : ∀ u ∈ hs, u.oneCell' = true := fun u hu => by
    obtain ⟨z, hz⟩ := List.mem_iff_getElem?.1 hu
    have hzl := (List.getElem?_eq_some_iff.1 hz).1
    rw [hsl2] at hzl
    obtain ⟨_, hy, _⟩ := hco4 (i + 1 + z) (gs[i + 1 + z]'(by rw [h.len]; omega)) (ns[i + 1 + z]'(by omega)) (by simp) (by simp)
    rw [hsg z u hz] at hy
    cases hy
    rfl
  have hnew2 : ∀ W : World, W.heap = w8.drew.heap → (Builtin.firstCells 1 (ns.length - (i + 1)) (.slice (if cap = i + 1 then some ⟨g, 0, none⟩ else some ⟨g, i + 1, none⟩) (ns.length - (i + 1)) (cap - (i + 1)))).run Go.Proofs.Tryz.prog W = .ok hs.toArray W := by
    by_cases hq : cap = i + 1
    · have h0 : ns.length - (i + 1) = 0 := by omega
      have : hs = [] := List.eq_nil_of_length_eq_zero (by rw [hsl2]; omega)
      rw [h0, this]
      exact fc_none
    · rw [if_neg hq]
      exact fc_block (w := w8.drew) hg8 hsl2 fun j u hj => by
        rw [Array.getElem?_setIfInBounds, if_neg (by omega)]
        exact hsg j u hj
  go_region_law
    ((refine step_of rfl (wp_app (.tmp 69) (.tmp 76) _ _ rfl Go.Proofs.Tryz.underlying155 Go.Proofs.Tryz.underlying155 hiR hzR (by rw [hsR]; rfl) hsR hbR g i cap rfl ho0 (w := w8.drew) hg8 (by simp; omega) (by omega) rfl hs hnew2 hsl2 hs1 (by simp only [maxLen]; omega) h3.mx (by omega) ?_); intro G cap9 cs9 e9 w9 hor9 hc9 hlc9 hcm9 hg9 hsz9 hf9 hK9; have hB9 := hK9.block b (Array.getElem?_eq_some_iff.1 F2).1 hbg; have ee0 := (cell_same hB9 0).trans x0; have rr0 := (frozen_same hB9 0).trans y0))
  all_goals
    generalize Value.slice (if cap = i + 1 then some ⟨g, 0, none⟩ else some ⟨g, i + 1, none⟩) (ns.length - (i + 1)) (cap - (i + 1)) = V76
    go_wp2_with fail
    go_ret
    obtain ⟨N, hN⟩ : ∃ N, N = i + (ns.length - (i + 1)) := ⟨_, rfl⟩
    rw [← hN] at hlc9 hf9 ⊢
    have hNl : N + 1 = ns.length := by omega
    have hll : (ns.eraseIdx i).length = N := by rw [List.length_eraseIdx, if_pos hat]; omega
    have hw8 : w8.drew.heap = w8.heap := rfl
    have s2 := hK4.size
    have s3 := K2.size
    have s4' := K3.size
    have hz8 : w3.heap.size ≤ w8.heap.size := by
      have : w3.drew.heap.size = w3.heap.size := rfl
      omega
    have hGb : ¬ G = b := fun q => by rcases hor9 with r | r; exact hbg (q ▸ r); rw [hw8] at r; omega
    have hbG : ¬ b = G := fun q => hGb q.symm
    have F3 := sc_same (o := 0) (v := .slice (some ⟨G, 0, none⟩) N cap9) (hB9.trans F2)
    have O9 : ∀ x, x ≠ b → (w9.setCell ⟨b, 0, none⟩ (.slice (some ⟨G, 0, none⟩) N cap9)).heap[x]? = w9.heap[x]? := fun x hx => sc_other (hB9.trans F2) hx
    have K10 := sc_keeps (o := 0) (v := .slice (some ⟨G, 0, none⟩) N cap9) (I := fun x => Ft b (some g) gs x ∨ w.heap.size ≤ x) (hB9.trans F2) (.inl (.inl rfl))
    generalize w9.setCell ⟨b, 0, none⟩ (.slice (some ⟨G, 0, none⟩) N cap9) = w10 at *
    have hI3 : Ft b (some g) gs G ∨ w.heap.size ≤ G := by
      rcases hor9 with q | q
      · exact .inl (.inr (.inl (by rw [q])))
      · rw [hw8] at q; exact .inr (by omega)
    have hkeep : ∀ x, x < w3.heap.size → x ≠ g' → x ≠ g → x ≠ b → w10.heap[x]? = w3.heap[x]? := fun x h1 h2 h3 h4 => by
      rw [O9 x h4, hK9.block x (by rw [hw8]; omega) h3, hw8, O3 x h4, O2 x h3, hs4 x h1 h2]
    have hgs : ∀ z x, gs[z]? = some x → z ≠ i → x < w3.heap.size ∧ x ≠ g' ∧ x ≠ g ∧ x ≠ b := fun z x hz hzi => by
      have hxm : x ∈ gs := List.mem_of_getElem? hz
      refine ⟨h3.lt x (.inr (.inr hxm)), fun q => ?_, fun q => n3 (q ▸ hxm), fun q => n2 (q ▸ hxm)⟩
      subst q
      exact hzi ((List.getElem?_inj (List.getElem?_eq_some_iff.1 hz).1 n4).1 (hz.trans hg'.symm))
    have hhl : (co.setIfInBounds i (.slice (some ⟨g2, 0, none⟩) M c2)).toList.length = co.size := by simp
    refine ⟨rfl, some G, gs.eraseIdx i, cap9, ⟨⟨eb, ?_⟩, by rw [hll]; exact hlc9, hcm9, by simp, fun G' hG' => ?_, ?_, ?_⟩, keeps_old ?_, fun x hx => ?_⟩
    · rw [F3, hll]
      rfl
    · cases hG'
      refine ⟨hc9, cs9, e9, (O9 G hGb).trans hg9, by omega, fun j x l'' hx hl'' => ?_⟩
      have hj : j < N := by rw [← hll]; exact (List.getElem?_eq_some_iff.1 hl'').1
      rw [List.getElem?_eraseIdx] at hx hl''
      have h9 := hf9 j (by omega)
      simp only [Nat.mul_one] at h9
      have htl : ((co.setIfInBounds i (.slice (some ⟨g2, 0, none⟩) M c2)).toList.take i).length = i := by rw [List.length_take, hhl]; omega
      by_cases p1 : j < i
      · rw [if_pos p1] at hx hl''
        obtain ⟨r1, r2, r3, r4⟩ := hgs j x hx (by omega)
        obtain ⟨c', q1', q2'⟩ := hco4 j x l'' hx hl''
        refine ⟨c', ?_, q2'.loc (hkeep x r1 r2 r3 r4)⟩
        rw [h9, List.getElem?_append_left (by omega), List.getElem?_take, if_pos p1, Array.getElem?_toList, Array.getElem?_setIfInBounds, if_neg (by omega)]
        exact q1'
      · rw [if_neg p1] at hx hl''
        obtain ⟨r1, r2, r3, r4⟩ := hgs (j + 1) x hx (by omega)
        obtain ⟨c', q1', q2'⟩ := hco4 (j + 1) x l'' hx hl''
        refine ⟨c', ?_, q2'.loc (hkeep x r1 r2 r3 r4)⟩
        rw [h9, List.getElem?_append_right (by omega), htl]
        have hq : hs[j - i]? = some (hs[j - i]'(by omega)) := by simp [show j - i < hs.length by omega]
        have := hsg (j - i) _ hq
        rw [show i + 1 + (j - i) = j + 1 by omega, q1'] at this
        rw [hq, this]
    · rw [List.length_eraseIdx, List.length_eraseIdx, h.len, if_pos hat]
    · simp only [Option.toList_some, List.cons_append, List.nil_append, List.nodup_cons, List.mem_cons, not_or]
      refine ⟨⟨hbG, fun hm => n2 (List.mem_of_mem_eraseIdx hm)⟩, fun hm => ?_, n4.sublist (List.eraseIdx_sublist ..)⟩
      have hm := List.mem_of_mem_eraseIdx hm
      rcases hor9 with r | r
      · exact n3 (r ▸ hm)
      · rw [hw8] at r
        have := h3.lt G (.inr (.inr hm)); omega
    · have kd : Keeps (fun x => Ft b (some g) gs x ∨ w.heap.size ≤ x) w3 w3.drew := ⟨rfl, rfl, rfl, Nat.le_refl _, fun _ _ _ => rfl⟩
      have kd8 : Keeps (fun x => Ft b (some g) gs x ∨ w.heap.size ≤ x) w8 w8.drew := ⟨rfl, rfl, rfl, Nat.le_refl _, fun _ _ _ => rfl⟩
      have k4 := hK4.mono (J := fun x => Ft b (some g) gs x ∨ w.heap.size ≤ x) fun x hx => .inl (.inr (.inr (hx ▸ hgm)))
      have k9 := hK9.mono (J := fun x => Ft b (some g) gs x ∨ w.heap.size ≤ x) fun x hx => .inl (.inr (.inl (by rw [hx])))
      exact (((((((((keeps_al.trans (hK2 _)).trans (hK3 _)).trans kd).trans k4).trans K2).trans K3).trans kd8).trans k9).trans K10)
    · rcases hx with q | q | q
      · exact .inl (.inl q)
      · cases q; exact hI3
      · exact .inl (.inr (.inr (List.mem_of_mem_eraseIdx q)))

open Go
theorem kl_irr (a : Ky) : kl a a = false := by simp [kl]
theorem kl_trans {a b c : Ky} (h1 : kl a b = true) (h2 : kl b c = true) : kl a c = true := by
 unfold kl at *
 split at h1 <;> split at h2 <;> split <;> (try split at h1) <;> (try split at h2) <;> (try split) <;> simp at * <;> omega
theorem kl_tot {a b : Ky} (h1 : kl a b = false) (h2 : kl b a = false) : a = b := by
 rcases a with ⟨a1, a2, a3⟩
 rcases b with ⟨b1, b2, b3⟩
 unfold kl at *
 simp only [Ky.mk.injEq]
 split at h1 <;> split at h2 <;> (try split at h1) <;> (try split at h2) <;> simp at * <;> omega
theorem kl_le {a b : Ky} (h1 : kl b a = false) : a = b ∨ kl a b = true := by
 cases h : kl a b
 ·exact .inl (kl_tot h h1)
 ·exact .inr rfl
abbrev Srt (l : List Ky) : Prop := l.Pairwise fun a b => kl a b = true
structure Good (ns : List (List Ky)) : Prop where
 ne : ∀ l ∈ ns, l ≠ [] ∧ l.length ≤ 32
 so : Srt ns.flatten
def nk (k : Ky) : List Ky → Bool
 | q :: _ => kl k q
 | [] => true
def nodeIx (ns : List (List Ky)) (k : Ky) : Nat := ns.findIdx (nk k)
def plc (l : List Ky) (k : Ky) : Nat := l.findIdx fun q => !kl q k
theorem srt_lt {l : List Ky} (h : Srt l) {i j : Nat} {a b : Ky} (hij : i < j) (ha : l[i]? = some a) (hb : l[j]? = some b) : kl a b = true := by
 obtain ⟨hi, rfl⟩ := List.getElem?_eq_some_iff.1 ha
 obtain ⟨hj, rfl⟩ := List.getElem?_eq_some_iff.1 hb
 exact List.pairwise_iff_getElem.1 h i j hi hj hij
theorem plc_ok {l : List Ky} (h : Srt l) (k : Ky) : Plc l k (plc l k) := by
 refine ⟨List.findIdx_le_length, fun i q hi hq => ?_, fun i q hi hq => ?_⟩
 ·obtain ⟨hl, rfl⟩ := List.getElem?_eq_some_iff.1 hq
  have := List.not_of_lt_findIdx hi
  simpa using this
 ·obtain ⟨hl, rfl⟩ := List.getElem?_eq_some_iff.1 hq
  have hs : plc l k < l.length := by omega
  have h0 : kl l[plc l k] k = false := by
   have := List.findIdx_getElem (w := hs)
   simp only [Bool.not_eq_true'] at this
   exact this
  by_cases he : plc l k = i
  ·subst he; exact h0
  ·have h1 := srt_lt h (show plc l k < i by omega) (List.getElem?_eq_getElem hs) (List.getElem?_eq_getElem hl)
   cases h2 : kl l[i] k
   ·rfl
   ·rw [kl_trans h1 h2] at h0; cases h0
theorem Good.node {ns : List (List Ky)} (h : Good ns) {i : Nat} {l : List Ky} (hl : ns[i]? = some l) : Srt l := (List.pairwise_flatten.1 h.so).1 l (List.mem_of_getElem? hl)
theorem Good.apart {ns : List (List Ky)} (h : Good ns) {i j : Nat} {l m : List Ky} (hij : i < j) (hl : ns[i]? = some l) (hm : ns[j]? = some m) : ∀ x ∈ l, ∀ y ∈ m, kl x y = true := by
 obtain ⟨hi, rfl⟩ := List.getElem?_eq_some_iff.1 hl
 obtain ⟨hj, rfl⟩ := List.getElem?_eq_some_iff.1 hm
 exact List.pairwise_iff_getElem.1 (List.pairwise_flatten.1 h.so).2 i j hi hj hij
theorem Good.len {ns : List (List Ky)} (h : ∀ l ∈ ns, l ≠ []) : ns.length ≤ ns.flatten.length := by
 induction ns with
 | nil => simp
 | cons l ns ih =>
  have h1 : l ≠ [] := h l (by simp)
  have h2 := ih fun l hl => h l (by simp [hl])
  have h3 : 0 < l.length := List.length_pos_iff.2 h1
  simp only [List.length_cons, List.flatten_cons, List.length_append]
  omega
theorem nodeIx_ok {ns : List (List Ky)} (h : Good ns) (hn : ns.flatten.length ≤ 1000000) (k : Ky) : Nod ns k (nodeIx ns k) := by
 refine ⟨List.findIdx_le_length, ?_, fun i l hl => ?_, fun i q x hi hq => ?_, fun i q x hi hq => ?_⟩
 ·have := Good.len fun l hl => (h.ne l hl).1
  simp only [maxLen]
  omega
 ·have := h.ne l (List.mem_of_getElem? hl)
  exact ⟨this.1, by simp only [maxLen]; omega⟩
 ·obtain ⟨hl, hx⟩ := List.getElem?_eq_some_iff.1 hq
  have := List.not_of_lt_findIdx hi
  rw [hx] at this
  simpa [nk] using this
 ·obtain ⟨hl, hx⟩ := List.getElem?_eq_some_iff.1 hq
  have hs : nodeIx ns k < ns.length := by omega
  have h0 : nk k ns[nodeIx ns k] = true := List.findIdx_getElem (w := hs)
  by_cases he : nodeIx ns k = i
  ·have : ns[nodeIx ns k] = q :: x := by subst he; exact hx
   rw [this] at h0
   exact h0
  ·rcases hq0 : ns[nodeIx ns k] with _ | ⟨q0, x0⟩
   ·exact absurd hq0 (h.ne _ (List.getElem_mem hs)).1
   ·rw [hq0] at h0
    have h1 := h.apart (show nodeIx ns k < i by omega) ((List.getElem?_eq_getElem hs).trans (by rw [hq0])) hq q0 (by simp) q (by simp)
    exact kl_trans h0 h1
def putN (ns : List (List Ky)) (k : Ky) : List (List Ky) × Bool :=
 if ns = [] then ([[k]], true) else
  if (ns.getD (nodeIx ns k - 1) [])[plc (ns.getD (nodeIx ns k - 1) []) k]? = some k then (ns, false) else
   if (ns.getD (nodeIx ns k - 1) []).length < 32 then
    (ns.set (nodeIx ns k - 1) ((ns.getD (nodeIx ns k - 1) []).take (plc (ns.getD (nodeIx ns k - 1) []) k) ++ k :: (ns.getD (nodeIx ns k - 1) []).drop (plc (ns.getD (nodeIx ns k - 1) []) k)), true)
   else
    (ns.take (nodeIx ns k - 1) ++ ((ns.getD (nodeIx ns k - 1) []).take (plc (ns.getD (nodeIx ns k - 1) []) k) ++ k :: (ns.getD (nodeIx ns k - 1) []).drop (plc (ns.getD (nodeIx ns k - 1) []) k)).take 16 ::
     ((ns.getD (nodeIx ns k - 1) []).take (plc (ns.getD (nodeIx ns k - 1) []) k) ++ k :: (ns.getD (nodeIx ns k - 1) []).drop (plc (ns.getD (nodeIx ns k - 1) []) k)).drop 16 :: ns.drop (nodeIx ns k - 1 + 1), true)
def delN (ns : List (List Ky)) (k : Ky) : List (List Ky) × Bool :=
 if ns = [] then (ns, false) else
  if (ns.getD (nodeIx ns k - 1) [])[plc (ns.getD (nodeIx ns k - 1) []) k]? = some k then
   if 2 ≤ (ns.getD (nodeIx ns k - 1) []).length then
    (ns.set (nodeIx ns k - 1) ((ns.getD (nodeIx ns k - 1) []).take (plc (ns.getD (nodeIx ns k - 1) []) k) ++ (ns.getD (nodeIx ns k - 1) []).drop (plc (ns.getD (nodeIx ns k - 1) []) k + 1)), true)
   else (ns.eraseIdx (nodeIx ns k - 1), true)
  else (ns, false)
structure Spt (ns : List (List Ky)) (k : Ky) (i s : Nat) (l : List Ky) : Prop where
 nx : nodeIx ns k - 1 = i
 nd : Nod ns k (nodeIx ns k)
 at_ : ns[i]? = some l
 gd : ns.getD i [] = l
 px : plc l k = s
 pl : Plc l k s
 ahead : ∀ x ∈ (ns.take i).flatten, kl x k = true
 behind : ∀ x ∈ (ns.drop (i + 1)).flatten, kl k x = true
 all : ns.flatten = (ns.take i).flatten ++ (l ++ (ns.drop (i + 1)).flatten)
 ne : l ≠ []
 le : l.length ≤ 32
theorem spt {ns : List (List Ky)} (h : Good ns) (hn : ns.flatten.length ≤ 1000000) (k : Ky) (h0 : ns ≠ []) : ∃ i s l, Spt ns k i s l := by
 have hN := nodeIx_ok h hn k
 have hpos : 0 < ns.length := List.length_pos_iff.2 h0
 have hi : nodeIx ns k - 1 < ns.length := by have := hN.le; omega
 have hl : ns[nodeIx ns k - 1]? = some ns[nodeIx ns k - 1] := List.getElem?_eq_getElem hi
 obtain ⟨l, hll⟩ : ∃ l, ns[nodeIx ns k - 1] = l := ⟨_, rfl⟩
 rw [hll] at hl
 have hne := h.ne l (List.mem_of_getElem? hl)
 refine ⟨nodeIx ns k - 1, plc l k, l, rfl, hN, hl, by simp [List.getD, hl], rfl, plc_ok (h.node hl) k, fun x hx => ?_, fun x hx => ?_, ?_, hne.1, hne.2⟩
 ·obtain ⟨m, hm, hxm⟩ := List.mem_flatten.1 hx
  obtain ⟨j, hj⟩ := List.mem_iff_getElem?.1 hm
  rw [List.getElem?_take] at hj
  split at hj
  ·rename_i hji
   obtain ⟨q, t, rfl⟩ := List.exists_cons_of_ne_nil hne.1
   have h1 := h.apart hji hj hl x hxm q (by simp)
   have h2 := hN.lo (nodeIx ns k - 1) q t (by omega) hl
   rcases kl_le h2 with rfl | h3
   ·exact h1
   ·exact kl_trans h1 h3
  ·cases hj
 ·obtain ⟨m, hm, hxm⟩ := List.mem_flatten.1 hx
  obtain ⟨j, hj⟩ := List.mem_iff_getElem?.1 hm
  rw [List.getElem?_drop] at hj
  have hnm := (h.ne m (List.mem_of_getElem? hj)).1
  obtain ⟨q, t, rfl⟩ := List.exists_cons_of_ne_nil hnm
  have h1 := hN.hi _ q t (by omega) hj
  rcases List.mem_cons.1 hxm with rfl | hxt
  ·exact h1
  ·have h2 := h.node hj
   exact kl_trans h1 (List.rel_of_pairwise_cons h2 hxt)
 ·have e1 : ns = ns.take (nodeIx ns k - 1) ++ l :: ns.drop (nodeIx ns k - 1 + 1) := by
   rw [← hll, List.getElem_cons_drop, List.take_append_drop]
  conv => lhs; rw [e1]
  simp
theorem flatten_set {ns : List (List Ky)} {i : Nat} (hi : i < ns.length) (m : List Ky) : (ns.set i m).flatten = (ns.take i).flatten ++ (m ++ (ns.drop (i + 1)).flatten) := by
 rw [List.set_eq_take_append_cons_drop, if_pos hi]
 simp

section
variable {ns : List (List Ky)} {k : Ky} {i s : Nat} {l : List Ky}
theorem Spt.mem (h : Good ns) (hs : Spt ns k i s l) : l[s]? = some k ↔ k ∈ ns.flatten := by
 constructor
 ·intro he
  rw [hs.all]
  exact List.mem_append.2 (.inr (List.mem_append.2 (.inl (List.mem_of_getElem? he))))
 ·intro hm
  rw [hs.all] at hm
  rcases List.mem_append.1 hm with q | q
  ·have := hs.ahead k q; rw [kl_irr] at this; cases this
  ·rcases List.mem_append.1 q with q | q
   ·obtain ⟨j, hj⟩ := List.mem_iff_getElem?.1 q
    rcases Nat.lt_trichotomy j s with h1 | h1 | h1
    ·have := hs.pl.lo j k h1 hj; rw [kl_irr] at this; cases this
    ·exact h1 ▸ hj
    ·have hjl := (List.getElem?_eq_some_iff.1 hj).1
     have hsl : l[s]? = some (l[s]'(by omega)) := by simp [show s < l.length by omega]
     have h2 := srt_lt (h.node hs.at_) h1 hsl hj
     rw [hs.pl.hi s _ (Nat.le_refl _) hsl] at h2
     cases h2
   ·have := hs.behind k q; rw [kl_irr] at this; cases this
theorem Spt.lt (hs : Spt ns k i s l) : i < ns.length := (List.getElem?_eq_some_iff.1 hs.at_).1
theorem Spt.lo_ (hs : Spt ns k i s l) : ∀ x ∈ l.take s, kl x k = true := fun x hx => by
 obtain ⟨j, hj⟩ := List.mem_iff_getElem?.1 hx
 rw [List.getElem?_take] at hj
 split at hj
 ·rename_i h1; exact hs.pl.lo j x h1 hj
 ·cases hj
theorem Spt.hi_ (h : Good ns) (hs : Spt ns k i s l) (hk : l[s]? ≠ some k) : ∀ x ∈ l.drop s, kl k x = true := fun x hx => by
 obtain ⟨j, hj⟩ := List.mem_iff_getElem?.1 hx
 rw [List.getElem?_drop] at hj
 have h1 := hs.pl.hi (s + j) x (by omega) hj
 rcases kl_le h1 with rfl | h2
 ·exact absurd ((hs.mem h).2 (by rw [hs.all]; exact List.mem_append.2 (.inr (List.mem_append.2 (.inl (List.mem_of_getElem? hj)))))) hk
 ·exact h2
theorem Spt.ins (h : Good ns) (hs : Spt ns k i s l) (hk : l[s]? ≠ some k) : Srt ((ns.take i).flatten ++ ((l.take s ++ k :: l.drop s) ++ (ns.drop (i + 1)).flatten)) := by
 have hso := h.so
 rw [hs.all] at hso
 have e : ∀ (X Z : List Ky), X ++ (l.take s ++ k :: l.drop s ++ Z) = (X ++ l.take s) ++ k :: (l.drop s ++ Z) := fun X Z => by simp
 have e2 : ∀ (X Z : List Ky), X ++ (l ++ Z) = (X ++ l.take s) ++ (l.drop s ++ Z) := fun X Z => by
  rw [List.append_assoc, ← List.append_assoc (l.take s), List.take_append_drop]
 rw [e]
 rw [e2] at hso
 rw [Srt, List.pairwise_append] at hso ⊢
 obtain ⟨h1, h2, h3⟩ := hso
 have lo : ∀ x ∈ (ns.take i).flatten ++ l.take s, kl x k = true := fun x hx => (List.mem_append.1 hx).elim (hs.ahead x) (hs.lo_ x)
 have hi : ∀ x ∈ l.drop s ++ (ns.drop (i + 1)).flatten, kl k x = true := fun x hx => (List.mem_append.1 hx).elim (hs.hi_ h hk x) (hs.behind x)
 refine ⟨h1, List.pairwise_cons.2 ⟨hi, h2⟩, fun a ha b hb => ?_⟩
 rcases List.mem_cons.1 hb with rfl | hb
 ·exact lo a ha
 ·exact h3 a ha b hb
end
structure PutL (ns ns' : List (List Ky)) (k : Ky) (f : Bool) : Prop where
 good : Good ns'
 flag : f = !decide (k ∈ ns.flatten)
 mem : ∀ x, x ∈ ns'.flatten ↔ x = k ∨ x ∈ ns.flatten
 len : ns'.flatten.length = ns.flatten.length + f.toNat
theorem put_law {ns : List (List Ky)} (h : Good ns) (hn : ns.flatten.length ≤ 1000000) (k : Ky) : PutL ns (putN ns k).1 k (putN ns k).2 := by
 by_cases h0 : ns = []
 ·subst h0
  refine ⟨⟨by simp [putN], by simp [putN, Srt]⟩, by simp [putN], by simp [putN], by simp [putN]⟩
 ·obtain ⟨i, s, l, hs⟩ := spt h hn k h0
  have hm := hs.mem h
  unfold putN
  rw [if_neg h0, hs.nx, hs.gd, hs.px]
  by_cases hk : l[s]? = some k
  ·rw [if_pos hk]
   refine ⟨h, by simp [hm.1 hk], fun x => ⟨.inr, ?_⟩, by simp⟩
   rintro (rfl | hx)
   ·exact hm.1 hk
   ·exact hx
  ·rw [if_neg hk]
   have hk' : k ∉ ns.flatten := fun q => hk (hm.2 q)
   have hso := hs.ins h hk
   have key : ∀ N : List (List Ky), (∀ m ∈ N, m ≠ [] ∧ m.length ≤ 32) → N.flatten = (ns.take i).flatten ++ ((l.take s ++ k :: l.drop s) ++ (ns.drop (i + 1)).flatten) → PutL ns N k true := fun N hN hf => by
    refine ⟨⟨hN, by rw [hf]; exact hso⟩, by simp [hk'], fun x => ?_, ?_⟩
    ·rw [hf, hs.all]
     conv => rhs; rw [← List.take_append_drop s l]
     simp only [List.mem_append, List.mem_cons]
     constructor
     ·rintro (q | (q | q | q) | q) <;> simp [q]
     ·rintro (q | q | (q | q) | q) <;> simp [q]
    ·rw [hf, hs.all]
     conv => rhs; rw [← List.take_append_drop s l]
     simp only [List.length_append, List.length_cons, Bool.toNat_true]
     omega
   have hll : (l.take s ++ k :: l.drop s).length = l.length + 1 := by
    have := hs.pl.le
    simp
    omega
   split
   ·refine key _ (fun m hm => ?_) (flatten_set hs.lt _)
    rcases List.mem_or_eq_of_mem_set hm with q | rfl
    ·exact h.ne m q
    ·exact ⟨by simp, by rw [hll]; omega⟩
   ·refine key _ (fun m hm => ?_) ?_
    ·rcases List.mem_append.1 hm with q | q
     ·exact h.ne m (List.mem_of_mem_take q)
     ·have hle := hs.le
      rcases List.mem_cons.1 q with rfl | q
      ·refine ⟨fun e => ?_, by rw [List.length_take]; omega⟩
       have := congrArg List.length e
       rw [List.length_take, hll] at this
       simp at this
      ·rcases List.mem_cons.1 q with rfl | q
       ·refine ⟨fun e => ?_, by rw [List.length_drop, hll]; omega⟩
        have := congrArg List.length e
        rw [List.length_drop, hll] at this
        simp at this
        omega
       ·exact h.ne m (List.mem_of_mem_drop q)
    ·rw [List.flatten_append, List.flatten_cons, List.flatten_cons, ← List.append_assoc (List.take 16 _), List.take_append_drop]
structure DelL (ns ns' : List (List Ky)) (k : Ky) (f : Bool) : Prop where
 good : Good ns'
 flag : f = decide (k ∈ ns.flatten)
 mem : ∀ x, x ∈ ns'.flatten ↔ x ≠ k ∧ x ∈ ns.flatten
 len : ns'.flatten.length + f.toNat = ns.flatten.length
theorem del_law {ns : List (List Ky)} (h : Good ns) (hn : ns.flatten.length ≤ 1000000) (k : Ky) : DelL ns (delN ns k).1 k (delN ns k).2 := by
 by_cases h0 : ns = []
 ·subst h0
  exact ⟨h, by simp [delN], by simp [delN], by simp [delN]⟩
 ·obtain ⟨i, s, l, hs⟩ := spt h hn k h0
  have hm := hs.mem h
  unfold delN
  rw [if_neg h0, hs.nx, hs.gd, hs.px]
  by_cases hk : l[s]? = some k
  ·rw [if_pos hk]
   have hsl := (List.getElem?_eq_some_iff.1 hk).1
   have hl : l = l.take s ++ k :: l.drop (s + 1) := by
    have : l[s] = k := (List.getElem?_eq_some_iff.1 hk).2
    conv => lhs; rw [← List.take_append_drop s l, ← List.getElem_cons_drop hsl, this]
   have hall := hs.all
   have hso := h.so
   rw [hall] at hso
   have key : ∀ N : List (List Ky), (∀ m ∈ N, m ≠ [] ∧ m.length ≤ 32) → N.flatten = (ns.take i).flatten ++ ((l.take s ++ l.drop (s + 1)) ++ (ns.drop (i + 1)).flatten) → DelL ns N k true := fun N hN hf => by
    have hsub : ((ns.take i).flatten ++ ((l.take s ++ l.drop (s + 1)) ++ (ns.drop (i + 1)).flatten)).Sublist ((ns.take i).flatten ++ (l ++ (ns.drop (i + 1)).flatten)) := by
     refine List.Sublist.append_left (List.Sublist.append_right ?_ _) _
     conv => rhs; rw [hl]
     exact List.Sublist.append_left (List.sublist_cons_self _ _) _
    refine ⟨⟨hN, by rw [hf]; exact hso.sublist hsub⟩, by simp [hm.1 hk], fun x => ?_, ?_⟩
    ·rw [hf, hall]
     have hx : ∀ x, x ∈ (ns.take i).flatten ++ ((l.take s ++ l.drop (s + 1)) ++ (ns.drop (i + 1)).flatten) → x ≠ k := fun x hx e => by
      subst e
      rw [hl] at hso
      have e : (ns.take i).flatten ++ (l.take s ++ x :: l.drop (s + 1) ++ (ns.drop (i + 1)).flatten) = ((ns.take i).flatten ++ l.take s) ++ x :: (l.drop (s + 1) ++ (ns.drop (i + 1)).flatten) := by simp
      simp only [← hl] at hso
      rw [show (ns.take i).flatten ++ (l ++ (ns.drop (i + 1)).flatten) = ((ns.take i).flatten ++ l.take s) ++ x :: (l.drop (s + 1) ++ (ns.drop (i + 1)).flatten) by rw [← e, ← hl], Srt, List.pairwise_append] at hso
      obtain ⟨_, h2, h3⟩ := hso
      have h2' := (List.pairwise_cons.1 h2).1
      have : x ∈ ((ns.take i).flatten ++ l.take s) ∨ x ∈ (l.drop (s + 1) ++ (ns.drop (i + 1)).flatten) := by
       simp only [List.mem_append] at hx ⊢
       rcases hx with q | (q | q) | q
       ·exact .inl (.inl q)
       ·exact .inl (.inr q)
       ·exact .inr (.inl q)
       ·exact .inr (.inr q)
      rcases this with q | q
      ·have := h3 x q x (by simp); rw [kl_irr] at this; cases this
      ·have := h2' x q; rw [kl_irr] at this; cases this
     constructor
     ·intro q
      exact ⟨hx x q, hsub.subset q⟩
     ·rintro ⟨h1, q⟩
      have hlm : x ∈ l → x ∈ l.take s ∨ x ∈ l.drop (s + 1) := fun q => by
       rw [hl] at q
       simp only [List.mem_append, List.mem_cons] at q
       rcases q with q | q | q
       ·exact .inl q
       ·exact absurd q h1
       ·exact .inr q
      simp only [List.mem_append] at q ⊢
      rcases q with q | q | q
      ·exact .inl q
      ·exact .inr (.inl (hlm q))
      ·exact .inr (.inr q)
    ·have e1 := congrArg List.length hl
     rw [hf, hall]
     simp only [List.length_append, List.length_cons, Bool.toNat_true] at e1 ⊢
     omega
   split
   ·refine key _ (fun m hm => ?_) (flatten_set hs.lt _)
    rcases List.mem_or_eq_of_mem_set hm with q | rfl
    ·exact h.ne m q
    ·have e1 := congrArg List.length hl
     have hle := hs.le
     simp only [List.length_append, List.length_cons] at e1
     refine ⟨fun e => ?_, by rw [List.length_append]; omega⟩
     have := congrArg List.length e
     rw [List.length_append] at this
     simp only [List.length_nil] at this
     omega
   ·have hl1 : l.length = 1 := by omega
    have hs0 : s = 0 := by omega
    refine key _ (fun m hm => h.ne m (List.mem_of_mem_eraseIdx hm)) ?_
    rw [hs0, List.drop_eq_nil_of_le (by omega), List.take_zero, List.append_nil, List.nil_append, List.eraseIdx_eq_take_drop_succ, List.flatten_append]
  ·rw [if_neg hk]
   refine ⟨h, (decide_eq_false fun q => hk (hm.2 q)).symm, fun x => ⟨fun q => ⟨fun e => hk (hm.2 (e ▸ q)), q⟩, fun q => q.2⟩, by simp⟩

open Go Go.RowKit
def tr (ns : List (List Ky)) : AbsT := treeT ns ns.flatten.length
theorem fpt_out {b : Nat} {og og' : Option Nat} {gs gs' : List Nat} {w : World} (h : ∀ x, Ft b og' gs' x → Ft b og gs x ∨ w.heap.size ≤ x) (hb : (b :: (og'.toList ++ gs')).Nodup) : ∀ j c, fpt og' gs' j = some c → (∃ j', fpt og gs j' = some c) ∨ w.heap.size ≤ c := fun j c hj => by
 have h1 := fpt_iff.1 ⟨j, hj⟩
 rcases h c (.inr h1) with h2 | h2
 ·rcases h2 with rfl | h2
  ·exfalso
   have := (List.nodup_cons.1 hb).1
   apply this
   rcases h1 with q | q
   ·exact List.mem_append.2 (.inl (by rw [q]; simp))
   ·exact List.mem_append.2 (.inr q)
  ·exact .inl (fpt_iff.2 h2)
 ·exact .inr h2
theorem ft_fpt {w w' : World} {b : Nat} {og : Option Nat} {gs : List Nat} (h : Keeps (Ft b og gs) w w') : Keeps (fun x => x = b ∨ ∃ j, fpt og gs j = some x) w w' := h.mono fun x hx => by
 rcases hx with q | q
 ·exact .inl q
 ·exact .inr (fpt_iff.2 q)
theorem put_t {ns : List (List Ky)} (h : Good ns) (hn : ns.flatten.length ≤ 100000) (k : Ky) : Triple Go.Proofs.Tryz.prog 72 [.ptr 1000000 0 0, k.av] [.abs (tr ns)] (bl (putN ns k).2) [.abs (tr (putN ns k).1)] := by
 refine triple_abs rfl fun w b φ hQ => ?_
 obtain ⟨og, gs, cap, hT, rfl⟩ := hQ
 have hL := put_law h (by omega) k
 by_cases h0 : ns = []
 ·subst h0
  refine (put0_w hT k).mono ?_
  rintro e w' ⟨rfl, og', gs', cap', hT', hK, hF⟩
  exact ⟨rfl, fpt og' gs', ⟨og', gs', cap', hT', rfl⟩, ft_fpt hK, fpt_out hF hT'.nb⟩
 ·obtain ⟨i, s, l, hs⟩ := spt h (by omega) k h0
  have hlen := Good.len fun l hl => (h.ne l hl).1
  have hnd := hs.nd
  have hat := hs.at_
  rw [← hs.nx] at hat
  by_cases hk : l[s]? = some k
  ·refine (put1_w hT k _ s l hnd hat hs.pl hk).mono ?_
   rintro e w' ⟨rfl, hT', hK⟩
   have hp : putN ns k = (ns, false) := by
    unfold putN
    rw [if_neg h0, hs.nx, hs.gd, hs.px, if_pos hk]
   rw [hp]
   exact ⟨rfl, fpt og gs, ⟨og, gs, cap, hT', rfl⟩, hK _, fun j c hj => .inl ⟨j, hj⟩⟩
  ·by_cases hl : l.length < 32
   ·refine (put2_w hT k _ s l hnd hat hs.pl hk hl (by omega) (by omega)).mono ?_
    rintro e w' ⟨rfl, gs', hT', hK, hF⟩
    have hp : putN ns k = (ns.set (nodeIx ns k - 1) (l.take s ++ k :: l.drop s), true) := by
     unfold putN
     rw [if_neg h0, hs.nx, hs.gd, hs.px, if_neg hk, if_pos hl]
    rw [hp] at hL ⊢
    refine ⟨rfl, fpt og gs', ⟨og, gs', cap, ?_, rfl⟩, ft_fpt hK, fpt_out hF hT'.nb⟩
    have := hL.len
    simp only [Bool.toNat_true] at this
    rw [this]
    exact hT'
   ·refine (put3_w hT k _ s l hnd hat hs.pl hk hs.le (by omega) (by omega) (by omega) (by omega)).mono ?_
    rintro e w' ⟨rfl, og', gs', cap', hT', hK, hF⟩
    have hp : putN ns k = (ns.take (nodeIx ns k - 1) ++ (l.take s ++ k :: l.drop s).take 16 :: (l.take s ++ k :: l.drop s).drop 16 :: ns.drop (nodeIx ns k - 1 + 1), true) := by
     unfold putN
     rw [if_neg h0, hs.nx, hs.gd, hs.px, if_neg hk, if_neg hl]
    rw [hp] at hL ⊢
    refine ⟨rfl, fpt og' gs', ⟨og', gs', cap', ?_, rfl⟩, ft_fpt hK, fpt_out hF hT'.nb⟩
    have := hL.len
    simp only [Bool.toNat_true] at this
    rw [this]
    exact hT'
theorem del_t {ns : List (List Ky)} (h : Good ns) (hn : ns.flatten.length ≤ 100000) (k : Ky) : Triple Go.Proofs.Tryz.prog 106 [.ptr 1000000 0 0, k.av] [.abs (tr ns)] (bl (delN ns k).2) [.abs (tr (delN ns k).1)] := by
 refine triple_abs rfl fun w b φ hQ => ?_
 obtain ⟨og, gs, cap, hT, rfl⟩ := hQ
 have hL := del_law h (by omega) k
 by_cases h0 : ns = []
 ·subst h0
  refine (del0_w hT k).mono ?_
  rintro e w' ⟨rfl, hT', hK⟩
  exact ⟨rfl, fpt og gs, ⟨og, gs, cap, hT', rfl⟩, hK _, fun j c hj => .inl ⟨j, hj⟩⟩
 ·obtain ⟨i, s, l, hs⟩ := spt h (by omega) k h0
  have hlen := Good.len fun l hl => (h.ne l hl).1
  have hnd := hs.nd
  have hat := hs.at_
  rw [← hs.nx] at hat
  by_cases hk : l[s]? = some k
  ·have hpos : 0 < ns.flatten.length := List.length_pos_iff.2 (List.ne_nil_of_mem ((hs.mem h).1 hk))
   by_cases hl : 2 ≤ l.length
   ·refine (del2_w hT k _ s l hnd hat hs.pl hk hl hs.le (by omega) (by omega)).mono ?_
    rintro e w' ⟨rfl, gs', hT', hK, hF⟩
    have hp : delN ns k = (ns.set (nodeIx ns k - 1) (l.take s ++ l.drop (s + 1)), true) := by
     unfold delN
     rw [if_neg h0, hs.nx, hs.gd, hs.px, if_pos hk, if_pos hl]
    rw [hp] at hL ⊢
    refine ⟨rfl, fpt og gs', ⟨og, gs', cap, ?_, rfl⟩, ft_fpt hK, fpt_out hF hT'.nb⟩
    have := hL.len
    simp only [Bool.toNat_true] at this
    rw [show ((ns.set (nodeIx ns k - 1) (l.take s ++ l.drop (s + 1))).flatten.length : Int) = (ns.flatten.length : Int) - 1 by omega]
    exact hT'
   ·refine (del3_w hT k _ s l hnd hat hs.pl hk (by omega) (by omega) (by omega) (by omega)).mono ?_
    rintro e w' ⟨rfl, og', gs', cap', hT', hK, hF⟩
    have hp : delN ns k = (ns.eraseIdx (nodeIx ns k - 1), true) := by
     unfold delN
     rw [if_neg h0, hs.nx, hs.gd, hs.px, if_pos hk, if_neg hl]
    rw [hp] at hL ⊢
    refine ⟨rfl, fpt og' gs', ⟨og', gs', cap', ?_, rfl⟩, ft_fpt hK, fpt_out hF hT'.nb⟩
    have := hL.len
    simp only [Bool.toNat_true] at this
    rw [show ((ns.eraseIdx (nodeIx ns k - 1)).flatten.length : Int) = (ns.flatten.length : Int) - 1 by omega]
    exact hT'
  ·refine (del1_w hT k _ s l hnd hat hs.pl hk).mono ?_
   rintro e w' ⟨rfl, hT', hK⟩
   have hp : delN ns k = (ns, false) := by
    unfold delN
    rw [if_neg h0, hs.nx, hs.gd, hs.px, if_neg hk]
   rw [hp]
   exact ⟨rfl, fpt og gs, ⟨og, gs, cap, hT', rfl⟩, hK _, fun j c hj => .inl ⟨j, hj⟩⟩
theorem new_w (w : World) : Calls Go.Proofs.Tryz.prog 69 #[] w fun e w' => e = .returned (.pointer (some ⟨w.heap.size, 0, none⟩)) ∧ TL w' w.heap.size none [] 0 [] 0 ∧ ∀ I, Keeps I w w' := by
 go_enter Go.Proofs.Tryz.func69, Go.Proofs.Tryz.ntmps69
 go_wp2_with fail
 go_ret
 refine ⟨rfl, ⟨⟨_, al_new rfl⟩, by simp, by simp, by simp, by simp, rfl, by simp⟩, fun I => keeps_al⟩
theorem new_t : Triple Go.Proofs.Tryz.prog 69 [] [] (.ptr 1000000 0 0) [.abs (tr [])] := by
 intro w cargs ρ B hgl hB hM hcs hargs
 have hc : cargs = #[] := by simpa using hcs
 subst hc
 refine (new_w w).mono ?_
 rintro e w' ⟨rfl, hT, hK⟩
 have hno : ∀ b, ¬ Held (ob0 []) ρ b := fun b ⟨_, _, h, _⟩ => by simp [ob0, obs] at h
 have hid : ∀ (T0 : AbsT) id x, ob0 [Ob.abs T0] id = some x → id = 1000000 ∧ x = (0, .abs T0) := fun T0 id x hx => by
  obtain ⟨h1, h2, h3⟩ := ob0_some hx
  have : id - 1000000 = 0 := by
   have := (List.getElem?_eq_some_iff.1 h2).1
   simpa using this
  have hid : id = 1000000 := by omega
  subst hid
  have hob0 : ob0 [Ob.abs T0] 1000000 = some (0, .abs T0) := by simp [ob0, obs, upd]
  rw [hob0] at hx
  exact ⟨rfl, (Option.some.inj hx).symm⟩
 obtain ⟨ρ', h1, h2⟩ : ∃ ρ' : Pl → Option Nat, ρ' (.o 1000000) = some w.heap.size ∧ ∀ j, ρ' (.s 1000000 j) = none := ⟨fun | .o i => if i = 1000000 then some w.heap.size else none | .s i j => none, by simp, by simp⟩
 refine ⟨_, ρ', rfl, ⟨fun id v o hx => ?_, fun id id' x x' c hx hx' _ _ => ?_, hK _, fun id v o c hx hf => ?_, fun id c hp => ?_⟩, ?_⟩
 ·obtain ⟨rfl, hx⟩ := hid _ id _ hx
  cases hx
  refine ⟨w.heap.size, h1, none, [], 0, hT, ?_⟩
  funext j
  rw [h2]
  cases j <;> rfl
 ·rw [(hid _ id _ hx).1, (hid _ id' _ hx').1]
 ·obtain ⟨rfl, hx⟩ := hid _ id _ hx
  cases hx
  rcases hf with hf | ⟨_, j, hf⟩
  ·rw [h1] at hf; cases hf; exact .inr (Nat.le_refl _)
  ·rw [h2] at hf; cases hf
 ·simp [pinOf, obs] at hp
 ·exact .ptr 1000000 0 0 _ rfl ⟨0, .abs (tr []), by simp [ob0, obs, upd], Nat.le_refl _, fun _ => ⟨w.heap.size, h1, rfl⟩⟩

structure Pt where
 k : Int
 x : Int
 y : Int
 v : Int
deriving DecidableEq
def Pt.rv (p : Pt) : RV := .agg [.v (.int .i64 p.k), .v (.int .i64 p.x), .v (.int .i64 p.y), .v (.int .i64 p.v)]
def Pt.av (p : Pt) : AV := .r p.rv
def Pt.val (p : Pt) : Value := .agg #[.int .i64 p.k, .int .i64 p.x, .int .i64 p.y, .int .i64 p.v]
def Pt.ok (p : Pt) : Prop := (1 ≤ p.k ∧ p.k ≤ 2147483648) ∧ inW p.x p.y ∧ (-2147483648 ≤ p.v ∧ p.v ≤ 2147483647)
instance (p : Pt) : Decidable p.ok := inferInstanceAs (Decidable (_ ∧ _ ∧ _))
def Pt.w (p : Pt) (r : Nat) : Nat := wordOf p.x p.y r
structure MapL (l : List (Value × Value)) (es : List MapEntry) (c : Nat) : Prop where
 kv : es.map (fun e => (e.key, e.val)) = l
 nd : (es.map (·.born)).Nodup
 lt : ∀ e ∈ es, e.born < c
theorem MapL.len {l : List (Value × Value)} {es : List MapEntry} {c : Nat} (h : MapL l es c) : es.length = l.length := by rw [← h.kv]; simp
theorem mapL_nil : MapL [] [] 0 := ⟨rfl, by simp, by simp⟩
section
variable {α : Type} (kd : IntKind) (kf : α → Int) (vf : α → Value)
def ent (a : α) : Value × Value := (.int kd (kf a), vf a)
theorem mfind_at {l : List α} {k : Int} : ∀ {es : List MapEntry} (i : Nat), es.map (fun e => (e.key, e.val)) = l.map (ent kd kf vf) →
  mfind (.int kd k) es i = some ((l.findIdx? fun a => k == kf a).bind fun j => (l[j]?).map fun a => (i + j, vf a)) := by
 induction l with
 | nil =>
  intro es i h
  have : es = [] := by simpa using h
  subst this
  rfl
 | cons a l ih =>
  intro es i h
  cases es with
  | nil => simp at h
  | cons e es =>
   simp only [List.map_cons, List.cons.injEq, ent, Prod.mk.injEq] at h
   obtain ⟨⟨h1, h2⟩, h3⟩ := h
   simp only [mfind, h1, sameK, if_true]
   by_cases hka : k = kf a
   ·simp [hka, List.findIdx?_cons, h2]
   ·have hb : (k == kf a) = false := by simp [hka]
    rw [hb]
    simp only
    rw [ih (i + 1) h3, List.findIdx?_cons]
    simp only [hb, Bool.false_eq_true, if_false]
    congr 1
    cases hf : l.findIdx? fun a => k == kf a with
    | none => rfl
    | some j =>
     simp only [Option.map_some, Option.bind_some, List.getElem?_cons_succ]
     congr 1
     funext b
     congr 1
     omega
variable {kd kf vf}
theorem mput_new {l : List α} {es : List MapEntry} {c : Nat} {k : Int} {v : Value} (h : MapL (l.map (ent kd kf vf)) es c) (hn : ∀ a ∈ l, k ≠ kf a) :
  okK es (.int kd k) = true ∧ lkB es (.int kd k) = false ∧ (∀ z, lkR es (.int kd k) z = z) ∧ MapL (l.map (ent kd kf vf) ++ [(.int kd k, v)]) (mputE es c (.int kd k) v) (mputC es c (.int kd k)) ∧ mdelE es (.int kd k) = es := by
 have hf : mfind (.int kd k) es 0 = some none := by
  rw [mfind_at kd kf vf 0 h.kv, show (l.findIdx? fun a => k == kf a) = none from List.findIdx?_eq_none_iff.2 fun a ha => by simp [hn a ha]]
  rfl
 refine ⟨by simp [okK, hf], by simp [lkB, hf], fun z => by simp [lkR, hf], ?_, by simp [mdelE, hf]⟩
 simp only [mputE, mputC, hf]
 refine ⟨by simp [h.kv], ?_, ?_⟩
 ·rw [List.map_append, List.nodup_append]
  refine ⟨h.nd, by simp, fun b hb b' hb' => ?_⟩
  simp at hb'
  obtain ⟨e, he, rfl⟩ := List.mem_map.1 hb
  have := h.lt e he
  omega
 ·intro e he
  rcases List.mem_append.1 he with he | he
  ·have := h.lt e he; omega
  ·simp at he; subst he; simp
theorem map_modify {β γ : Type} (f : β → γ) (g : β → β) (g' : γ → γ) (hg : ∀ b, f (g b) = g' (f b)) (l : List β) (i : Nat) : (l.modify i g).map f = (l.map f).modify i g' := by
 induction l generalizing i with
 | nil => simp
 | cons a l ih => cases i with
  | zero => simp [hg]
  | succ i => simp [ih]
theorem map_eraseIdx' {β γ : Type} (f : β → γ) (l : List β) (i : Nat) : (l.eraseIdx i).map f = (l.map f).eraseIdx i := by
 induction l generalizing i with
 | nil => simp
 | cons a l ih => cases i with
  | zero => simp
  | succ i => simp [ih]
theorem mput_old {l : List α} {es : List MapEntry} {c : Nat} {k : Int} {v : Value} {i : Nat} {a : α} (h : MapL (l.map (ent kd kf vf)) es c) (hi : (l.findIdx? fun a => k == kf a) = some i) (ha : l[i]? = some a) :
  okK es (.int kd k) = true ∧ lkB es (.int kd k) = true ∧ (∀ z, lkR es (.int kd k) z = rvOf (vf a)) ∧ MapL ((l.map (ent kd kf vf)).set i (.int kd k, v)) (mputE es c (.int kd k) v) (mputC es c (.int kd k)) ∧ MapL ((l.eraseIdx i).map (ent kd kf vf)) (mdelE es (.int kd k)) c := by
 have hf : mfind (.int kd k) es 0 = some (some (i, vf a)) := by
  rw [mfind_at kd kf vf 0 h.kv, hi]
  simp [ha]
 have hlt := (List.getElem?_eq_some_iff.1 ha).1
 simp only [mputE, mputC, mdelE, hf]
 refine ⟨by simp [okK, hf], by simp [lkB, hf], fun z => by simp [lkR, hf], ⟨?_, ?_, ?_⟩, ⟨?_, ?_, ?_⟩⟩
 ·rw [map_modify (fun e : MapEntry => (e.key, e.val)) _ (fun _ => (.int kd k, v)) (fun b => rfl), h.kv]
  apply List.ext_getElem?
  intro j
  rw [List.getElem?_modify, List.getElem?_set]
  by_cases hij : i = j
  ·subst hij
   simp [hlt]
  ·simp [hij]
 ·have : (es.modify i fun e => { e with key := .int kd k, val := v }).map (·.born) = es.map (·.born) := by
   rw [map_modify (fun e : MapEntry => e.born) (fun e => { e with key := Value.int kd k, val := v }) id (fun b => rfl)]
   apply List.ext_getElem?
   intro j
   rw [List.getElem?_modify]
   split <;> simp
  rw [this]
  exact h.nd
 ·intro e he
  obtain ⟨j, hj⟩ := List.mem_iff_getElem?.1 he
  rw [List.getElem?_modify] at hj
  obtain ⟨e0, he0, he1⟩ := Option.map_eq_some_iff.1 hj
  have := h.lt e0 (List.mem_of_getElem? he0)
  rw [← he1]
  split <;> exact this
 ·rw [map_eraseIdx', h.kv, map_eraseIdx']
 ·rw [map_eraseIdx']
  exact h.nd.sublist (List.eraseIdx_sublist _ _)
 ·intro e he
  exact h.lt e ((List.eraseIdx_sublist _ _).mem he)
end

abbrev ptE : Pt → Value × Value := ent .i64 (·.k) Pt.val
structure PM (L : List Pt) (es : List MapEntry) (c : Nat) : Prop where
 m : MapL (L.map ptE) es c
 nd : (L.map (·.k)).Nodup
def without (k : Int) (L : List Pt) : List Pt := L.filter fun q => q.k != k
theorem pm_no {L : List Pt} {es : List MapEntry} {c : Nat} (h : PM L es c) {k : Int} (hn : ∀ q ∈ L, q.k ≠ k) : okK es (.int .i64 k) = true ∧ lkB es (.int .i64 k) = false ∧ (∀ z, lkR es (.int .i64 k) z = z) ∧ mdelE es (.int .i64 k) = es := by
 obtain ⟨h1, h2, h3, h4, h5⟩ := mput_new (v := .int .i64 0) h.m (fun a ha e => hn a ha e.symm)
 exact ⟨h1, h2, h3, h5⟩
theorem pm_add {L : List Pt} {es : List MapEntry} {c : Nat} (h : PM L es c) {p : Pt} (hn : ∀ q ∈ L, q.k ≠ p.k) : okK es (.int .i64 p.k) = true ∧ PM (L ++ [p]) (mputE es c (.int .i64 p.k) p.val) (mputC es c (.int .i64 p.k)) := by
 obtain ⟨h1, h2, h3, h4, h5⟩ := mput_new (v := p.val) h.m (fun a ha e => hn a ha e.symm)
 refine ⟨h1, by rw [List.map_append]; exact h4, ?_⟩
 rw [List.map_append, List.nodup_append]
 refine ⟨h.nd, by simp, fun a ha b hb => ?_⟩
 simp at hb
 subst hb
 obtain ⟨q, hq, rfl⟩ := List.mem_map.1 ha
 exact hn q hq
theorem find_key {L : List Pt} (hnd : (L.map (·.k)).Nodup) {p : Pt} (hp : p ∈ L) : ∃ i, (L.findIdx? fun a => p.k == a.k) = some i ∧ L[i]? = some p ∧ L.eraseIdx i = without p.k L := by
 induction L with
 | nil => simp at hp
 | cons a L ih =>
  rw [List.map_cons, List.nodup_cons] at hnd
  by_cases ha : a = p
  ·subst ha
   refine ⟨0, by simp [List.findIdx?_cons], rfl, ?_⟩
   simp only [List.eraseIdx_cons_zero, without, List.filter_cons, bne_self_eq_false, Bool.false_eq_true, if_false]
   rw [List.filter_eq_self.2 fun q hq => ?_]
   simp only [bne_iff_ne]
   intro e
   exact hnd.1 (List.mem_map.2 ⟨q, hq, e⟩)
  ·have hp' : p ∈ L := by
    rcases List.mem_cons.1 hp with h | h
    ·exact absurd h.symm ha
    ·exact h
   obtain ⟨i, h1, h2, h3⟩ := ih hnd.2 hp'
   have hk : a.k ≠ p.k := fun e => hnd.1 (List.mem_map.2 ⟨p, hp', e.symm⟩)
   refine ⟨i + 1, ?_, by simpa using h2, ?_⟩
   ·rw [List.findIdx?_cons, h1]
    have : (p.k == a.k) = false := by simp; exact fun e => hk e.symm
    simp [this]
   ·simp only [List.eraseIdx_cons_succ, h3, without, List.filter_cons]
    have : (a.k != p.k) = true := by simp [hk]
    simp [this]
theorem pm_yes {L : List Pt} {es : List MapEntry} {c : Nat} (h : PM L es c) {p : Pt} (hp : p ∈ L) : okK es (.int .i64 p.k) = true ∧ lkB es (.int .i64 p.k) = true ∧ (∀ z, lkR es (.int .i64 p.k) z = p.rv) ∧ PM (without p.k L) (mdelE es (.int .i64 p.k)) c := by
 obtain ⟨i, h1, h2, h3⟩ := find_key h.nd hp
 obtain ⟨g1, g2, g3, g4, g5⟩ := mput_old (v := .int .i64 0) h.m h1 h2
 refine ⟨g1, g2, fun z => by rw [g3]; rfl, by rw [← h3]; exact g5, ?_⟩
 exact h.nd.sublist (List.Sublist.map _ List.filter_sublist)
theorem pm_len {L : List Pt} {es : List MapEntry} {c : Nat} (h : PM L es c) : es.length = L.length := by rw [h.m.len]; simp
abbrev cnE : Nat × Int → Value × Value := ent .u64 (fun q => (q.1 : Int)) (fun q => .int .i64 q.2)
structure CM (f : Nat → Nat) (es : List MapEntry) (c : Nat) : Prop where
 ex : ∃ ws : List (Nat × Int), MapL (ws.map cnE) es c ∧ (ws.map (·.1)).Nodup ∧ ∀ w n, (w, n) ∈ ws ↔ n = (f w : Int) ∧ 0 < f w
theorem cm_nil : CM (fun _ => 0) [] 0 := ⟨[], mapL_nil, by simp, by simp⟩
theorem find_cn {ws : List (Nat × Int)} (hnd : (ws.map (·.1)).Nodup) {w : Nat} {n : Int} (h : (w, n) ∈ ws) : ∃ i, (ws.findIdx? fun a => ((w : Int)) == ((a.1 : Nat) : Int)) = some i ∧ ws[i]? = some (w, n) := by
 induction ws with
 | nil => simp at h
 | cons a ws ih =>
  rw [List.map_cons, List.nodup_cons] at hnd
  by_cases ha : a = (w, n)
  ·subst ha
   exact ⟨0, by simp [List.findIdx?_cons], rfl⟩
  ·have h' : (w, n) ∈ ws := by
    rcases List.mem_cons.1 h with h | h
    ·exact absurd h.symm ha
    ·exact h
   obtain ⟨i, h1, h2⟩ := ih hnd.2 h'
   have hk : a.1 ≠ w := fun e => hnd.1 (List.mem_map.2 ⟨_, h', e.symm⟩)
   refine ⟨i + 1, ?_, by simpa using h2⟩
   rw [List.findIdx?_cons, h1]
   have : (((w : Int)) == ((a.1 : Nat) : Int)) = false := by simp; omega
   simp [this]
theorem cm_no {f : Nat → Nat} {ws : List (Nat × Int)} (h : ∀ w n, (w, n) ∈ ws ↔ n = (f w : Int) ∧ 0 < f w) {w : Nat} (h0 : f w = 0) : ∀ a ∈ ws, (w : Int) ≠ ((a.1 : Nat) : Int) := fun a ha e => by
 have e' : w = a.1 := by omega
 subst e'
 have := ((h a.1 a.2).1 ha).2
 omega
theorem cm_get {f : Nat → Nat} {es : List MapEntry} {c : Nat} (h : CM f es c) (w : Nat) : okK es (.int .u64 w) = true ∧ lkR es (.int .u64 w) (.v (.int .i64 0)) = .v (.int .i64 (f w)) := by
 obtain ⟨ws, h1, h2, h3⟩ := h.ex
 by_cases h0 : f w = 0
 ·obtain ⟨g1, g2, g3, _⟩ := mput_new (v := .int .i64 0) h1 (cm_no h3 h0)
  exact ⟨g1, by rw [g3, h0]; rfl⟩
 ·obtain ⟨i, hi, ha⟩ := find_cn h2 ((h3 w (f w)).2 ⟨rfl, by omega⟩)
  obtain ⟨g1, g2, g3, _⟩ := mput_old (v := .int .i64 0) h1 hi ha
  exact ⟨g1, by rw [g3]; rfl⟩
theorem nodup_set {ws : List (Nat × Int)} (h : (ws.map (·.1)).Nodup) {i : Nat} {w : Nat} {n m : Int} (hi : ws[i]? = some (w, n)) : ((ws.set i (w, m)).map (·.1)).Nodup ∧ ∀ u k, (u, k) ∈ ws.set i (w, m) ↔ (u = w ∧ k = m) ∨ (u ≠ w ∧ (u, k) ∈ ws) := by
 have e : (ws.set i (w, m)).map (·.1) = ws.map (·.1) := by
  apply List.ext_getElem?
  intro j
  rw [List.getElem?_map, List.getElem?_set, List.getElem?_map]
  by_cases hij : i = j
  ·subst hij
   have := (List.getElem?_eq_some_iff.1 hi).1
   rw [if_pos rfl, if_pos this, hi]
   rfl
  ·simp [hij]
 refine ⟨by rw [e]; exact h, fun u k => ?_⟩
 have hlt := (List.getElem?_eq_some_iff.1 hi).1
 constructor
 ·intro hm
  obtain ⟨j, hj⟩ := List.mem_iff_getElem?.1 hm
  rw [List.getElem?_set] at hj
  by_cases hij : i = j
  ·subst hij
   simp [hlt] at hj
   exact .inl ⟨hj.1.symm, hj.2.symm⟩
  ·simp [hij] at hj
   refine .inr ⟨fun e => ?_, List.mem_of_getElem? hj⟩
   subst e
   have a1 : (ws.map (·.1))[i]? = some u := by simp [hi]
   have a2 : (ws.map (·.1))[j]? = some u := by simp [hj]
   exact hij (nodup_get h a1 a2)
 ·rintro (⟨rfl, rfl⟩ | ⟨hne, hm⟩)
  ·exact List.mem_iff_getElem?.2 ⟨i, by simp [hlt]⟩
  ·obtain ⟨j, hj⟩ := List.mem_iff_getElem?.1 hm
   refine List.mem_iff_getElem?.2 ⟨j, ?_⟩
   rw [List.getElem?_set]
   by_cases hij : i = j
   ·subst hij
    rw [hi] at hj
    cases hj
    exact absurd rfl hne
   ·simp [hij, hj]
theorem mem_erase {ws : List (Nat × Int)} (h : (ws.map (·.1)).Nodup) {i : Nat} {w : Nat} {n : Int} (hi : ws[i]? = some (w, n)) : ((ws.eraseIdx i).map (·.1)).Nodup ∧ ∀ u k, (u, k) ∈ ws.eraseIdx i ↔ u ≠ w ∧ (u, k) ∈ ws := by
 refine ⟨h.sublist ((List.eraseIdx_sublist _ _).map _), fun u k => ⟨fun hm => ⟨fun e => ?_, (List.eraseIdx_sublist _ _).mem hm⟩, fun ⟨hne, hm⟩ => ?_⟩⟩
 ·subst e
  obtain ⟨j, hj⟩ := List.mem_iff_getElem?.1 hm
  have a1 : (ws.map (·.1))[i]? = some u := by simp [hi]
  rw [List.getElem?_eraseIdx] at hj
  split at hj
  ·have := nodup_get h a1 (show (ws.map (·.1))[j]? = some u by simp [hj]); omega
  ·have := nodup_get h a1 (show (ws.map (·.1))[j + 1]? = some u by simp [hj]); omega
 ·obtain ⟨j, hj⟩ := List.mem_iff_getElem?.1 hm
  have hij : i ≠ j := fun e => by
   subst e
   rw [hi] at hj
   cases hj
   exact hne rfl
  refine List.mem_iff_getElem?.2 ?_
  by_cases hlt : j < i
  ·exact ⟨j, by rw [List.getElem?_eraseIdx, if_pos hlt]; exact hj⟩
  ·exact ⟨j - 1, by rw [List.getElem?_eraseIdx, if_neg (by omega), show j - 1 + 1 = j by omega]; exact hj⟩
def upw (f : Nat → Nat) (w n : Nat) : Nat → Nat := fun u => if u = w then n else f u
theorem cm_put {f : Nat → Nat} {es : List MapEntry} {c : Nat} (h : CM f es c) (w n : Nat) (hn : 0 < n) : CM (upw f w n) (mputE es c (.int .u64 w) (.int .i64 n)) (mputC es c (.int .u64 w)) := by
 obtain ⟨ws, h1, h2, h3⟩ := h.ex
 by_cases h0 : f w = 0
 ·obtain ⟨g1, g2, g3, g4, _⟩ := mput_new (v := .int .i64 n) h1 (cm_no h3 h0)
  refine ⟨ws ++ [(w, (n : Int))], by simpa [ent] using g4, ?_, fun u k => ?_⟩
  ·rw [List.map_append, List.nodup_append]
   refine ⟨h2, by simp, fun a ha b hb => ?_⟩
   simp at hb
   subst hb
   obtain ⟨q, hq, rfl⟩ := List.mem_map.1 ha
   have := cm_no h3 h0 q hq
   omega
  ·simp only [List.mem_append, List.mem_singleton, Prod.mk.injEq, h3, upw]
   by_cases hu : u = w
   ·subst hu; simp [h0]; omega
   ·simp [hu]
 ·obtain ⟨i, hi, ha⟩ := find_cn h2 ((h3 w (f w)).2 ⟨rfl, by omega⟩)
  obtain ⟨g1, g2, g3, g4, _⟩ := mput_old (v := .int .i64 n) h1 hi ha
  obtain ⟨k1, k2⟩ := nodup_set (m := (n : Int)) h2 ha
  refine ⟨ws.set i (w, (n : Int)), ?_, k1, fun u k => ?_⟩
  ·rw [List.map_set]; exact g4
  ·rw [k2]
   simp only [h3, upw]
   by_cases hu : u = w
   ·subst hu; simp; omega
   ·simp [hu]
theorem cm_zero {f : Nat → Nat} {es : List MapEntry} {c : Nat} (h : CM f es c) (w : Nat) (h0 : 0 < f w) :
  okK (mputE es c (.int .u64 w) (.int .i64 0)) (.int .u64 w) = true ∧ lkR (mputE es c (.int .u64 w) (.int .i64 0)) (.int .u64 w) (.v (.int .i64 0)) = .v (.int .i64 0) ∧
  CM (upw f w 0) (mdelE (mputE es c (.int .u64 w) (.int .i64 0)) (.int .u64 w)) (mputC es c (.int .u64 w)) := by
 obtain ⟨ws, h1, h2, h3⟩ := h.ex
 obtain ⟨i, hi, ha⟩ := find_cn h2 ((h3 w (f w)).2 ⟨rfl, h0⟩)
 obtain ⟨g1, g2, g3, g4, _⟩ := mput_old (v := .int .i64 0) h1 hi ha
 obtain ⟨k1, k2⟩ := nodup_set (m := 0) h2 ha
 have g4' : MapL ((ws.set i (w, 0)).map cnE) (mputE es c (.int .u64 w) (.int .i64 0)) (mputC es c (.int .u64 w)) := by rw [List.map_set]; exact g4
 have hlt := (List.getElem?_eq_some_iff.1 ha).1
 obtain ⟨i', hi', ha'⟩ := find_cn k1 ((k2 w 0).2 (.inl ⟨rfl, rfl⟩))
 obtain ⟨q1, q2, q3, _, q5⟩ := mput_old (v := .int .i64 0) g4' hi' ha'
 refine ⟨q1, by rw [q3]; rfl, ?_⟩
 obtain ⟨e1, e2⟩ := mem_erase k1 ha'
 refine ⟨(ws.set i (w, 0)).eraseIdx i', q5, e1, fun u k => ?_⟩
 rw [e2, k2]
 simp only [h3, upw]
 by_cases hu : u = w
 ·subst hu; simp
 ·simp [hu]

theorem nodup_getG {α : Type} {l : List α} (h : l.Nodup) {i j : Nat} {x : α} (hi : l[i]? = some x) (hj : l[j]? = some x) : i = j := by
 obtain ⟨a1, b1⟩ := List.getElem?_eq_some_iff.1 hi
 obtain ⟨a2, b2⟩ := List.getElem?_eq_some_iff.1 hj
 rcases Nat.lt_trichotomy i j with hlt | rfl | hlt
 ·exact absurd (by rw [b1, b2]) (List.pairwise_iff_getElem.1 h i j a1 a2 hlt)
 ·rfl
 ·exact absurd (by rw [b1, b2]) (List.pairwise_iff_getElem.1 h j i a2 a1 hlt)
def cnt (L : List Pt) (r : Nat) : Nat → Nat := fun w => L.countP fun p => p.w r == w
theorem cnt_add (L : List Pt) (p : Pt) (r : Nat) : cnt (L ++ [p]) r = upw (cnt L r) (p.w r) (cnt L r (p.w r) + 1) := by
 funext w
 simp only [cnt, upw, List.countP_append, List.countP_cons, List.countP_nil, Nat.zero_add]
 by_cases h : p.w r = w
 ·subst h; simp
 ·have : ¬ w = p.w r := fun e => h e.symm
  simp [h, this]
theorem cnt_without {L : List Pt} (hnd : (L.map (·.k)).Nodup) {p : Pt} (hp : p ∈ L) (r : Nat) : 0 < cnt L r (p.w r) ∧ cnt (without p.k L) r = upw (cnt L r) (p.w r) (cnt L r (p.w r) - 1) := by
 have key : ∀ w, cnt (without p.k L) r w + (if p.w r = w then 1 else 0) = cnt L r w := by
  intro w
  induction L with
  | nil => simp at hp
  | cons a L ih =>
   rw [List.map_cons, List.nodup_cons] at hnd
   by_cases ha : a = p
   ·subst ha
    have e : without a.k (a :: L) = L := by
     simp only [without, List.filter_cons, bne_self_eq_false, Bool.false_eq_true, if_false]
     exact List.filter_eq_self.2 fun q hq => by
      simp only [bne_iff_ne]
      intro e
      exact hnd.1 (List.mem_map.2 ⟨q, hq, e⟩)
    rw [e]
    simp only [cnt, List.countP_cons, beq_iff_eq]
   ·have hp' : p ∈ L := by
     rcases List.mem_cons.1 hp with h | h
     ·exact absurd h.symm ha
     ·exact h
    have hk : (a.k != p.k) = true := by
     simp only [bne_iff_ne]
     exact fun e => hnd.1 (List.mem_map.2 ⟨p, hp', e.symm⟩)
    have e : without p.k (a :: L) = a :: without p.k L := by simp [without, List.filter_cons, hk]
    have := ih hnd.2 hp'
    rw [e]
    simp only [cnt, List.countP_cons] at this ⊢
    omega
 have h0 : 0 < cnt L r (p.w r) := by
  have := key (p.w r)
  simp at this
  omega
 refine ⟨h0, ?_⟩
 funext w
 have := key w
 unfold upw
 by_cases h : p.w r = w
 ·subst h; simp at this ⊢; omega
 ·have h' : ¬ w = p.w r := fun e => h e.symm
  simp [h] at this
  simp [h', this]
theorem upw_self (f : Nat → Nat) (w n : Nat) : upw f w n w = n := by simp [upw]
def Pt.ky (p : Pt) (r : Nat) : Ky := ⟨p.w r, p.v, p.k⟩
theorem Pt.w_res {p : Pt} (h : p.ok) {r : Nat} (hr : r < 13) : isWB (p.w r) = true ∧ resW (p.w r) = r ∧ p.w r < 18446744073709551616 := by
 have hk := near_okc p.x p.y r h.2.1.1 h.2.1.2 (by omega)
 exact ⟨isWB_word hk, (word_isW r _ hk).2, word_lt r _ hk⟩
theorem Pt.ky_inj {p q : Pt} (hp : p.ok) (hq : q.ok) {r s : Nat} (hr : r < 13) (hs : s < 13) (h : p.ky r = q.ky s) : r = s ∧ p.k = q.k := by
 simp only [Pt.ky, Ky.mk.injEq] at h
 obtain ⟨h1, h2, h3⟩ := h
 have e : p.w r = q.w s := by omega
 have a := (Pt.w_res hp hr).2.1
 have b := (Pt.w_res hq hs).2.1
 rw [e, b] at a
 exact ⟨a.symm, h3⟩
structure TK (K : Ky → Prop) (n : Nat) (ns : List (List Ky)) : Prop where
 g : Good ns
 m : ∀ x, x ∈ ns.flatten ↔ K x
 l : ns.flatten.length = n
theorem TK.put {K : Ky → Prop} {n : Nat} {ns : List (List Ky)} (h : TK K n ns) (hn : n ≤ 100000) {k : Ky} (hk : ¬ K k) : TK (fun x => x = k ∨ K x) (n + 1) (putN ns k).1 ∧ (putN ns k).2 = true := by
 have hp := put_law h.g (by rw [h.l]; omega) k
 have hf : (putN ns k).2 = true := by rw [hp.flag]; simp [h.m, hk]
 refine ⟨⟨hp.good, fun x => by rw [hp.mem, h.m], ?_⟩, hf⟩
 rw [hp.len, h.l, hf]
 rfl
theorem TK.del {K : Ky → Prop} {n : Nat} {ns : List (List Ky)} (h : TK K (n + 1) ns) (hn : n ≤ 100000) {k : Ky} (hk : K k) : TK (fun x => x ≠ k ∧ K x) n (delN ns k).1 ∧ (delN ns k).2 = true := by
 have hp := del_law h.g (by rw [h.l]; omega) k
 have hf : (delN ns k).2 = true := by rw [hp.flag]; simp [h.m, hk]
 refine ⟨⟨hp.good, fun x => by rw [hp.mem, h.m], ?_⟩, hf⟩
 have := hp.len
 rw [h.l, hf] at this
 have e : Bool.toNat true = 1 := rfl
 omega
theorem TK.congr {K K' : Ky → Prop} {n : Nat} {ns : List (List Ky)} (h : TK K n ns) (hk : ∀ x, K x ↔ K' x) : TK K' n ns := ⟨h.g, fun x => (h.m x).trans (hk x), h.l⟩
def KL (L : List Pt) (x : Ky) : Prop := ∃ p, p ∈ L ∧ ∃ r, r < 13 ∧ x = p.ky r
def nsP (ns : List (List Ky)) (p : Pt) : Nat → List (List Ky)
 | 0 => ns
 | r + 1 => (putN (nsP ns p r) (p.ky r)).1
def nsD (ns : List (List Ky)) (p : Pt) : Nat → List (List Ky)
 | 0 => ns
 | r + 1 => (delN (nsD ns p r) (p.ky r)).1
theorem nsP_ok {L : List Pt} {p : Pt} {n : Nat} {ns : List (List Ky)} (hp : p.ok) (hL : ∀ q ∈ L, q.ok ∧ q.k ≠ p.k) (h : TK (KL L) n ns) (hn : n ≤ 50000) : ∀ r, r ≤ 13 → TK (fun x => KL L x ∨ ∃ s, s < r ∧ x = p.ky s) (n + r) (nsP ns p r)
 | 0, _ => h.congr fun x => by simp
 | r + 1, hr => by
  have ih := nsP_ok hp hL h hn r (by omega)
  have hno : ¬ (KL L (p.ky r) ∨ ∃ s, s < r ∧ p.ky r = p.ky s) := by
   rintro (⟨q, hq, s, hs, e⟩ | ⟨s, hs, e⟩)
   ·exact (hL q hq).2 (Pt.ky_inj hp (hL q hq).1 (by omega) hs e).2.symm
   ·have := (Pt.ky_inj hp hp (by omega) (by omega) e).1; omega
  refine ((ih.put (by omega) hno).1).congr fun x => ?_
  constructor
  ·rintro (rfl | h | ⟨s, hs, rfl⟩)
   ·exact .inr ⟨r, by omega, rfl⟩
   ·exact .inl h
   ·exact .inr ⟨s, by omega, rfl⟩
  ·rintro (h | ⟨s, hs, rfl⟩)
   ·exact .inr (.inl h)
   ·by_cases hsr : s = r
    ·subst hsr; exact .inl rfl
    ·exact .inr (.inr ⟨s, by omega, rfl⟩)
theorem nsD_ok {L : List Pt} {p : Pt} {n : Nat} {ns : List (List Ky)} (hp : p ∈ L) (hL : ∀ q ∈ L, q.ok) (hnd : (L.map (·.k)).Nodup) (h : TK (KL L) (n + 13) ns) (hn : n ≤ 50000) : ∀ r, r ≤ 13 → TK (fun x => KL (without p.k L) x ∨ ∃ s, r ≤ s ∧ s < 13 ∧ x = p.ky s) (n + (13 - r)) (nsD ns p r)
 | 0, _ => h.congr fun x => by
  constructor
  ·rintro ⟨q, hq, r, hr, rfl⟩
   by_cases hk : q.k = p.k
   ·have : q = p := by
     obtain ⟨i, hi⟩ := List.mem_iff_getElem?.1 hq
     obtain ⟨j, hj⟩ := List.mem_iff_getElem?.1 hp
     have := nodup_getG hnd (show (L.map (·.k))[i]? = some p.k by simp [hi, hk]) (show (L.map (·.k))[j]? = some p.k by simp [hj])
     subst this
     rw [hi] at hj
     exact Option.some.inj hj
    subst this
    exact .inr ⟨r, by omega, hr, rfl⟩
   ·exact .inl ⟨q, List.mem_filter.2 ⟨hq, by simp [hk]⟩, r, hr, rfl⟩
  ·rintro (⟨q, hq, r, hr, rfl⟩ | ⟨s, _, hs, rfl⟩)
   ·exact ⟨q, (List.mem_filter.1 hq).1, r, hr, rfl⟩
   ·exact ⟨p, hp, s, hs, rfl⟩
 | r + 1, hr => by
  have ih := nsD_ok hp hL hnd h hn r (by omega)
  have hpo := hL p hp
  rw [show n + (13 - r) = n + (13 - (r + 1)) + 1 by omega] at ih
  refine ((ih.del (by omega) (.inr ⟨r, Nat.le_refl _, by omega, rfl⟩)).1).congr fun x => ?_
  constructor
  ·rintro ⟨hne, h | ⟨s, h1, h2, rfl⟩⟩
   ·exact .inl h
   ·by_cases hsr : s = r
    ·subst hsr; exact absurd rfl hne
    ·exact .inr ⟨s, by omega, h2, rfl⟩
  ·rintro (⟨q, hq, s, hs, rfl⟩ | ⟨s, h1, h2, rfl⟩)
   ·obtain ⟨hq1, hq2⟩ := List.mem_filter.1 hq
    refine ⟨fun e => ?_, .inl ⟨q, hq, s, hs, rfl⟩⟩
    have := (Pt.ky_inj (hL q hq1) hpo hs (by omega) e).2
    simp [this] at hq2
   ·refine ⟨fun e => ?_, .inr ⟨s, by omega, h2, rfl⟩⟩
    have := (Pt.ky_inj hpo hpo h2 (by omega) e).1
    omega

open Nat (reduceEqDiff reduceAdd reduceSub reduceLT reduceLeDiff reduceMul)
noncomputable def stats_word_pc : PC :=
  (.seq (.reg [p_a 2 (.box (.t 0)), p_s 4 (.mov (.c (.r (.v (.int .u64 0)))))])
 (.seq (.reg [p_s 10 (.fa 1 (.t 2)), p_s 11 (.ld none (.t 10)), p_s 12 (.fa 2 (.t 2)), p_s 13 (.ld none (.t 12)), p_m 14 1, p_c 15 1 110 [.t 11, .t 13, .t 14], p_m 9 15, p_s 16 (.ext (.t 9) 0),
 p_s 17 (.ext (.t 9) 1), p_a 5 (.new [(.r (.v (.int .i64 0))), (.r (.v (.int .i64 0))), (.r (.v (.int .i64 0)))]), ⟨none, none, 0, .act (.st 3 (.t 5) (.t 16))⟩, p_m 6 17])
 (.seq (.reg [p_s 19 (.ld (some 3) (.t 5)), p_c 20 2 111 [.t 19], p_m 18 20, p_s 21 (.ext (.t 18) 0), p_s 22 (.ext (.t 18) 1), p_m 7 21, p_m 8 22])
 (.seq (.reg [p_m 23 7, p_m 4 23])
 .ret))))
theorem stats_word_triple : Fun Go.Proofs.Tryz.prog 73 2 [(4, false, none)] stats_word_pc := fun_mk Go.Proofs.Tryz.func73 rfl (by decide) (by kernel_rfl) (by decide) rfl (by kernel_rfl) (by kernel_rfl) (by decide)
noncomputable def stats_Stats_Del_pc : PC :=
  (.seq (.reg [p_s 4 (.mov (.c (.r (.v (.bool false)))))])
 (.seq (.reg [p_m 10 0, p_s 11 (.nck (.t 10)), p_s 12 (.fa 0 (.t 11)), p_s 13 (.ld none (.t 12)), p_m 14 1, p_s 15 (.lkp false (.agg [(.v (.int .i64 0)), (.v (.int .i64 0)), (.v (.int .i64 0)), (.v (.int .i64 0))]) true (.t 13) (.t 14)),
 p_m 9 15, p_s 16 (.ext (.t 9) 0), p_s 17 (.ext (.t 9) 1), p_a 5 (.new [(.r (.v (.int .i64 0))), (.r (.v (.int .i64 0))), (.r (.v (.int .i64 0))), (.r (.v (.int .i64 0)))]),
 ⟨none, none, 0, .act (.st 4 (.t 5) (.t 16))⟩, p_m 6 17])
 (.seq (.seq (.reg [p_m 18 6, p_s 19 (.un .not (.t 18))])
 (.cond (.t 19)
 (.seq (.reg [p_s 4 (.mov (.c (.r (.v (.bool false)))))])
 .ret)
 .skip))
 (.seq (.reg [p_m 20 0, p_s 21 (.nck (.t 20)), p_s 22 (.fa 0 (.t 21)), p_s 23 (.ld none (.t 22)), p_m 24 1, ⟨none, none, 0, .act (.mdel false (.t 23) (.t 24))⟩])
 (.seq (.seq (.reg [p_s 25 (.mov (o_i 0))])
 (.block 0 (.loop (.seq (.reg [p_s 26 (.bin .lss (.t 25) (o_i 13))])
 (.seq (.cond (.t 26)
 .skip
 (.exit 0))
 (.seq (.block 1 (.seq (.reg [p_m 27 25, p_m 7 27])
 (.seq (.reg [p_s 28 (.ld (some 4) (.t 5)), p_m 29 7, p_c 30 1 73 [.t 28, .t 29], p_m 8 30])
 (.seq (.drw [p_m 31 0, p_s 32 (.nck (.t 31)), p_s 33 (.fa 1 (.t 32)), p_s 34 (.ld none (.t 33)), p_m 35 8, p_s 36 (.fa 3 (.t 5)), p_s 37 (.ld none (.t 36)), p_m 38 1, p_s 39 (.build [(.r (.v (.int .u64 0))), (.r (.v (.int .i64 0))), (.r (.v (.int .i64 0)))] [(0, 1, (.t 35)), (1, 1, (.t 37)), (2, 1, (.t 38))]),
 p_c 40 2 106 [.t 34, .t 39]]
 [[], [0], [0, 1], [0, 1, 2], [], [], [5], [], [4, 5, 6, 7], [0, 1, 2, 3, 4, 5, 6, 7, 8]])
 (.seq (.reg [p_m 41 0, p_m 42 7, p_s 43 (.nck (.t 41)), p_s 44 (.fa 2 (.t 43)), p_s 45 (.iaa 13 1 (.t 44) (.t 42)), p_s 46 (.ld none (.t 45)), p_m 47 8, p_s 48 (.lkp false (.v (.int .i64 0)) false (.t 46) (.t 47)),
 p_s 49 (.bin .sub (.t 48) (o_i 1)), ⟨none, none, 0, .act (.mset false (.t 46) (.t 47) (.t 49))⟩])
 (.seq (.reg [p_m 50 0, p_m 51 7, p_s 52 (.nck (.t 50)), p_s 53 (.fa 2 (.t 52)), p_s 54 (.iaa 13 1 (.t 53) (.t 51)), p_s 55 (.ld none (.t 54)), p_m 56 8, p_s 57 (.lkp false (.v (.int .i64 0)) false (.t 55) (.t 56)),
 p_s 58 (.bin .eql (.t 57) (o_i 0))])
 (.cond (.t 58)
 (.reg [p_m 59 0, p_m 60 7, p_s 61 (.nck (.t 59)), p_s 62 (.fa 2 (.t 61)), p_s 63 (.iaa 13 1 (.t 62) (.t 60)), p_s 64 (.ld none (.t 63)), p_m 65 8, ⟨none, none, 0, .act (.mdel false (.t 64) (.t 65))⟩])
 .skip)))))))
 (.reg [p_s 66 (.bin .add (.t 25) (o_i 1)), p_m 25 66])))))))
 (.seq (.reg [p_s 4 (.mov (.c (.r (.v (.bool true)))))])
 .ret))))))
theorem stats_Stats_Del_triple : Fun Go.Proofs.Tryz.prog 71 2 [(4, false, none)] stats_Stats_Del_pc := fun_mk Go.Proofs.Tryz.func71 rfl (by decide) (by kernel_rfl) (by decide) rfl (by kernel_rfl) (by kernel_rfl) (by decide)
theorem wordp_t (p : Pt) (r : Int) (h : p.ok) (hr : 0 ≤ r ∧ r ≤ 12) : Triple Go.Proofs.Tryz.prog 73 [p.av, int .i64 r] [] (uw (p.w r.toNat)) [] := by
 refine stats_word_triple rfl (by decide) ?_
 simp only [stats_word_pc, Pt.av, Pt.rv, List.length_nil, push_cast, ↓reduceIte, reduceCtorEq, Nat.reduceBEq, reduceEqDiff, reduceAdd, reduceSub, reduceLT, reduceLeDiff, reduceMul]
 refine call_mk (cof_t p.x p.y r h.2.1 hr) rfl trivial ?_
 simp only [cel, push_cast, ↓reduceIte, reduceCtorEq, Nat.reduceBEq, reduceEqDiff, reduceAdd, reduceSub, reduceLT, reduceLeDiff, reduceMul]
 refine call_as (as' := [cel r (near p.x p.y r.toNat)]) rfl ?_
 refine call_mk (word_t r (near p.x p.y r.toNat) hr.1 (near_okc p.x p.y r.toNat h.2.1.1 h.2.1.2 (by omega))) rfl trivial ?_
 simp only [uw, push_cast, ↓reduceIte, reduceCtorEq, Nat.reduceBEq, reduceEqDiff, reduceAdd, reduceSub, reduceLT, reduceLeDiff, reduceMul]
 rfl
def stOs (es : List MapEntry) (c : Nat) (ns : List (List Ky)) (ce : Nat → List MapEntry) (cc : Nat → Nat) : List Ob :=
 [.box [.mp 1000001 0, .ptr 1000002 0 0, .mp 1000003 0, .mp 1000004 0, .mp 1000005 0, .mp 1000006 0, .mp 1000007 0, .mp 1000008 0, .mp 1000009 0, .mp 1000010 0, .mp 1000011 0, .mp 1000012 0, .mp 1000013 0, .mp 1000014 0, .mp 1000015 0], .map es c, .abs (tr ns), .map (ce 0) (cc 0), .map (ce 1) (cc 1), .map (ce 2) (cc 2), .map (ce 3) (cc 3), .map (ce 4) (cc 4), .map (ce 5) (cc 5), .map (ce 6) (cc 6), .map (ce 7) (cc 7), .map (ce 8) (cc 8), .map (ce 9) (cc 9), .map (ce 10) (cc 10), .map (ce 11) (cc 11), .map (ce 12) (cc 12)]
theorem tr_size (a b : List (List Ky)) : (tr a).size = (tr b).size := rfl
def stg {α : Type} (new old : Nat → α) (r j : Nat) : α := if j < r then new j else old j
theorem stg_0 {α : Type} (new old : Nat → α) : stg new old 0 = old := by funext j; simp [stg]
structure StL (L : List Pt) (es : List MapEntry) (c : Nat) (ns : List (List Ky)) (ce : Nat → List MapEntry) (cc : Nat → Nat) : Prop where
 ok : ∀ q ∈ L, q.ok
 le : L.length ≤ 2000
 pm : PM L es c
 tk : TK (KL L) (13 * L.length) ns
 cm : ∀ r, r < 13 → CM (cnt L r) (ce r) (cc r)
def decE (L : List Pt) (p : Pt) (ce : Nat → List MapEntry) (cc : Nat → Nat) (r : Nat) : List MapEntry :=
 if cnt L r (p.w r) = 1 then mdelE (mputE (ce r) (cc r) (.int .u64 (p.w r)) (.int .i64 0)) (.int .u64 (p.w r)) else mputE (ce r) (cc r) (.int .u64 (p.w r)) (.int .i64 ((cnt L r (p.w r) - 1 : Nat) : Int))
def decC (p : Pt) (ce : Nat → List MapEntry) (cc : Nat → Nat) (r : Nat) : Nat := mputC (ce r) (cc r) (.int .u64 (p.w r))
theorem dc_ok {L : List Pt} {p : Pt} {ce : Nat → List MapEntry} {cc : Nat → Nat} {r : Nat} (hnd : (L.map (·.k)).Nodup) (hp : p ∈ L) (h : CM (cnt L r) (ce r) (cc r)) : CM (cnt (without p.k L) r) (decE L p ce cc r) (decC p ce cc r) := by
 obtain ⟨h0, e⟩ := cnt_without hnd hp r
 rw [e]
 unfold decE decC
 split
 ·rename_i h1
  rw [h1]
  exact (cm_zero h (p.w r) h0).2.2
 ·exact cm_put h (p.w r) _ (by omega)
theorem len_without {L : List Pt} (hnd : (L.map (·.k)).Nodup) {p : Pt} (hp : p ∈ L) : (without p.k L).length + 1 = L.length := by
 obtain ⟨i, h1, h2, h3⟩ := find_key hnd hp
 have hlt := (List.getElem?_eq_some_iff.1 h2).1
 rw [← h3, List.length_eraseIdx]
 simp [hlt]
 omega
theorem StL.del {L : List Pt} {es : List MapEntry} {c : Nat} {ns : List (List Ky)} {ce : Nat → List MapEntry} {cc : Nat → Nat} (h : StL L es c ns ce cc) {p : Pt} (hp : p ∈ L) :
  StL (without p.k L) (mdelE es (.int .i64 p.k)) c (nsD ns p 13) (decE L p ce cc) (decC p ce cc) := by
 have hl := len_without h.pm.nd hp
 have hk := h.tk
 rw [show 13 * L.length = 13 * (without p.k L).length + 13 by omega] at hk
 refine ⟨fun q hq => h.ok q (List.mem_filter.1 hq).1, by have := h.le; omega, (pm_yes h.pm hp).2.2.2, ?_, fun r hr => dc_ok h.pm.nd hp (h.cm r hr)⟩
 have := nsD_ok hp h.ok h.pm.nd hk (by have := h.le; omega) 13 (Nat.le_refl _)
 refine this.congr fun x => ?_
 constructor
 ·rintro (h | ⟨s, h1, h2, _⟩)
  ·exact h
  ·omega
 ·exact .inl
section
variable {L : List Pt} {es : List MapEntry} {c : Nat} {ns : List (List Ky)} {ce : Nat → List MapEntry} {cc : Nat → Nat}
theorem del_no (h : StL L es c ns ce cc) (k : Int) (hn : ∀ q ∈ L, q.k ≠ k) : Triple Go.Proofs.Tryz.prog 71 [.ptr 1000000 0 0, int .i64 k] (stOs es c ns ce cc) (bl false) (stOs es c ns ce cc) := by
 obtain ⟨g1, g2, g3, g4⟩ := pm_no h.pm hn
 refine stats_Stats_Del_triple rfl (by simp [stOs]) ?_
 simp only [stats_Stats_Del_pc, stOs, List.length_cons, List.length_nil, g1, g2, g3, push_cast, ↓reduceIte, reduceCtorEq, Nat.reduceBEq, reduceEqDiff, reduceAdd, reduceSub, reduceLT, reduceLeDiff, reduceMul]
 repeat refine And.intro (by first | decide | omega | exact fun _ => by decide | (simp +contextual; done) | kernel_rfl) ?_
set_option maxHeartbeats 4000000 in
theorem del_yes (h : StL L es c ns ce cc) {p : Pt} (hp : p ∈ L) : Triple Go.Proofs.Tryz.prog 71 [.ptr 1000000 0 0, int .i64 p.k] (stOs es c ns ce cc) (bl true) (stOs (mdelE es (.int .i64 p.k)) c (nsD ns p 13) (decE L p ce cc) (decC p ce cc)) := by
 obtain ⟨g1, g2, g3, g4⟩ := pm_yes h.pm hp
 have hpo := h.ok p hp
 have hl := len_without h.pm.nd hp
 have hle := h.le
 have hk := h.tk
 rw [show 13 * L.length = 13 * (without p.k L).length + 13 by omega] at hk
 have hD := nsD_ok hp h.ok h.pm.nd hk (by omega)
 refine stats_Stats_Del_triple rfl (by simp [stOs]) ?_
 simp only [stats_Stats_Del_pc, stOs, List.length_cons, List.length_nil, g1, g2, g3, Pt.rv, push_cast, ↓reduceIte, reduceCtorEq, Nat.reduceBEq, reduceEqDiff, reduceAdd, reduceSub, reduceLT, reduceLeDiff, reduceMul]
 repeat refine And.intro (by first | decide | omega | exact fun _ => by decide | (simp +contextual; done) | kernel_rfl) ?_
 refine run_loop [(25, false), (0, false), (5, false), (1, false)] (fun vs pos los => ∃ r : Nat, r ≤ 13 ∧ vs = [int .i64 r, .ptr 1000000 0 0, .ptr 2000000 0 0, int .i64 p.k] ∧ pos = stOs (mdelE es (.int .i64 p.k)) c (nsD ns p r) (stg (decE L p ce cc) ce r) (stg (decC p ce cc) cc r) ∧ los = [.box [int .i64 p.k, int .i64 p.x, int .i64 p.y, int .i64 p.v]])
  (fun vs _ _ => match vs with | .r (.v (.int _ j)) :: _ => (13 - j).toNat | _ => 0) rfl ?_ ?_
 ·simp only [stg_0, stOs, push_cast, ↓reduceIte, reduceCtorEq, Nat.reduceBEq, reduceEqDiff, reduceAdd, reduceSub, reduceLT, reduceLeDiff, reduceMul]
  refine ⟨0, by omega, ?_⟩
  simp only [stg_0, nsD, stOs]
  exact ⟨rfl, trivial⟩
 ·rintro vs pos los ⟨r, hr, rfl, hpos, rfl⟩
  by_cases h13 : r = 13
  ·subst h13
   have hlit : stOs (mdelE es (.int .i64 p.k)) c (nsD ns p 13) (stg (decE L p ce cc) ce 13) (stg (decC p ce cc) cc 13) = stOs (mdelE es (.int .i64 p.k)) c (nsD ns p 13) (decE L p ce cc) (decC p ce cc) := rfl
   rw [hlit] at hpos
   subst hpos
   simp only [stOs, show decide ((13 : Int) < 13) = false from rfl, push_cast, ↓reduceIte, reduceCtorEq, Nat.reduceBEq, reduceEqDiff, reduceAdd, reduceSub, reduceLT, reduceLeDiff, reduceMul]
  have hr3 : r < 13 := by omega
  have hcm := h.cm r hr3
  obtain ⟨q1, q2⟩ := cm_get hcm (p.w r)
  obtain ⟨n0, _⟩ := cnt_without h.pm.nd hp r
  have hw := (Pt.w_res hpo hr3).2.2
  have cle : cnt L r (p.w r) ≤ 2000 := Nat.le_trans List.countP_le_length hle
  have hdt := del_t (hD r (by omega)).g (by rw [(hD r (by omega)).l]; omega) (p.ky r)
  by_cases c1 : cnt L r (p.w r) = 1
  ·obtain ⟨z1, z2, z3⟩ := cm_zero hcm (p.w r) n0
   rw [c1] at q2
   have hE : decE L p ce cc r = mdelE (mputE (ce r) (cc r) (.int .u64 (p.w r)) (.int .i64 0)) (.int .u64 (p.w r)) := by unfold decE; rw [if_pos c1]
   rcases (show r = 0 ∨ r = 1 ∨ r = 2 ∨ r = 3 ∨ r = 4 ∨ r = 5 ∨ r = 6 ∨ r = 7 ∨ r = 8 ∨ r = 9 ∨ r = 10 ∨ r = 11 ∨ r = 12 by omega) with rfl | rfl | rfl | rfl | rfl | rfl | rfl | rfl | rfl | rfl | rfl | rfl | rfl <;> (
    simp only [stOs, stg, Nat.reduceLT, ↓reduceIte] at hpos
    subst hpos
    simp only [Int.reduceLT, decide_true, push_cast, ↓reduceIte, reduceCtorEq, Nat.reduceBEq, reduceEqDiff, reduceAdd, reduceSub, reduceLT, reduceLeDiff, reduceMul]
    refine call_as (as' := [p.av, int .i64 _]) rfl ?_
    refine call_mk (wordp_t p _ hpo (by decide)) rfl trivial ?_
    simp only [Int.reduceToNat, uw, push_cast, ↓reduceIte, reduceCtorEq, Nat.reduceBEq, reduceEqDiff, reduceAdd, reduceSub, reduceLT, reduceLeDiff, reduceMul]
    repeat refine And.intro (by first | decide | omega | exact fun _ => by decide | (simp +contextual; done) | kernel_rfl) ?_
    refine dcall_as (as' := [.ptr 1000000 0 0, (p.ky _).av]) rfl ?_
    refine dcall_mk hdt rfl ⟨tr_size _ _, trivial⟩ ?_
    simp only [q1, q2, push_cast, ↓reduceIte, reduceCtorEq, Nat.reduceBEq, reduceEqDiff, reduceAdd, reduceSub, reduceLT, reduceLeDiff, reduceMul]
    refine ⟨by kernel_rfl, ?_⟩
    simp only [q1, q2, z1, z2, Int.reduceToNat, show IntKind.i64.wrap ((1 : Int) - 1) = 0 from by decide, show ((0 : Int) == 0) = true from rfl, push_cast, ↓reduceIte, reduceCtorEq, Nat.reduceBEq, reduceEqDiff, reduceAdd, reduceSub, reduceLT, reduceLeDiff, reduceMul]
    repeat refine And.intro (by first | decide | omega | exact fun _ => by decide | (simp +contextual; done) | kernel_rfl) ?_
    refine ⟨⟨_ + 1, by decide, rfl, ?_⟩, by decide⟩
    simp only [stOs, stg, Nat.reduceLT, Nat.reduceAdd, ↓reduceIte, hE]
    rfl)
  ·have hn : 0 < cnt L r (p.w r) - 1 := by omega
   have hE : decE L p ce cc r = mputE (ce r) (cc r) (.int .u64 (p.w r)) (.int .i64 ((cnt L r (p.w r) - 1 : Nat) : Int)) := by unfold decE; rw [if_neg c1]
   obtain ⟨z1, z2⟩ := cm_get (cm_put hcm (p.w r) _ hn) (p.w r)
   rw [upw_self] at z2
   have z3 : (((cnt L r (p.w r) - 1 : Nat) : Int) == 0) = false := by simp; omega
   have z4 : IntKind.i64.wrap ((cnt L r (p.w r) : Int) - 1) = ((cnt L r (p.w r) - 1 : Nat) : Int) := by rw [wrap_id (by omega)]; omega
   rcases (show r = 0 ∨ r = 1 ∨ r = 2 ∨ r = 3 ∨ r = 4 ∨ r = 5 ∨ r = 6 ∨ r = 7 ∨ r = 8 ∨ r = 9 ∨ r = 10 ∨ r = 11 ∨ r = 12 by omega) with rfl | rfl | rfl | rfl | rfl | rfl | rfl | rfl | rfl | rfl | rfl | rfl | rfl <;> (
    simp only [stOs, stg, Nat.reduceLT, ↓reduceIte] at hpos
    subst hpos
    simp only [Int.reduceLT, decide_true, push_cast, ↓reduceIte, reduceCtorEq, Nat.reduceBEq, reduceEqDiff, reduceAdd, reduceSub, reduceLT, reduceLeDiff, reduceMul]
    refine call_as (as' := [p.av, int .i64 _]) rfl ?_
    refine call_mk (wordp_t p _ hpo (by decide)) rfl trivial ?_
    simp only [Int.reduceToNat, uw, push_cast, ↓reduceIte, reduceCtorEq, Nat.reduceBEq, reduceEqDiff, reduceAdd, reduceSub, reduceLT, reduceLeDiff, reduceMul]
    repeat refine And.intro (by first | decide | omega | exact fun _ => by decide | (simp +contextual; done) | kernel_rfl) ?_
    refine dcall_as (as' := [.ptr 1000000 0 0, (p.ky _).av]) rfl ?_
    refine dcall_mk hdt rfl ⟨tr_size _ _, trivial⟩ ?_
    simp only [q1, q2, push_cast, ↓reduceIte, reduceCtorEq, Nat.reduceBEq, reduceEqDiff, reduceAdd, reduceSub, reduceLT, reduceLeDiff, reduceMul]
    refine ⟨by kernel_rfl, ?_⟩
    simp only [q1, q2, z1, z2, z3, z4, Int.reduceToNat, push_cast, ↓reduceIte, reduceCtorEq, Nat.reduceBEq, reduceEqDiff, reduceAdd, reduceSub, reduceLT, reduceLeDiff, reduceMul]
    repeat refine And.intro (by first | decide | omega | exact fun _ => by decide | (simp +contextual; done) | kernel_rfl) ?_
    refine ⟨⟨_ + 1, by decide, rfl, ?_⟩, by decide⟩
    simp only [stOs, stg, Nat.reduceLT, Nat.reduceAdd, ↓reduceIte, hE]
    rfl)
end

noncomputable def rec_Ok_1_pc : PC :=
  (.seq (.reg [p_s 2 (.mov (.c (.r (.v (.bool false)))))])
 (.seq (.reg [p_m 3 0, p_s 4 (.bin .geq (.t 3) (o_i 0)), p_m 5 4, p_g 6 5 true (.mov (.t 0)), p_g 7 5 true (.bin .lss (.t 6) (o_i 1073741824)), p_s 8 (.pick (.t 5) (.t 7) (.c (.r (.v (.bool false))))),
 p_m 2 8])
 .ret))
theorem rec_Ok_1_triple : Fun Go.Proofs.Tryz.prog 104 1 [(2, false, none)] rec_Ok_1_pc := fun_mk Go.Proofs.Tryz.func104 rfl (by decide) (by kernel_rfl) (by decide) rfl (by kernel_rfl) (by kernel_rfl) (by decide)
noncomputable def rec_okKey_pc : PC :=
  (.seq (.reg [p_s 2 (.mov (.c (.r (.v (.bool false)))))])
 (.seq (.reg [p_m 3 0, p_s 4 (.bin .geq (.t 3) (o_i 1)), p_m 5 4, p_g 6 5 true (.mov (.t 0)), p_g 7 5 true (.bin .leq (.t 6) (o_i 2147483648)), p_s 8 (.pick (.t 5) (.t 7) (.c (.r (.v (.bool false))))),
 p_m 2 8])
 .ret))
theorem rec_okKey_triple : Fun Go.Proofs.Tryz.prog 105 1 [(2, false, none)] rec_okKey_pc := fun_mk Go.Proofs.Tryz.func105 rfl (by decide) (by kernel_rfl) (by decide) rfl (by kernel_rfl) (by kernel_rfl) (by decide)
noncomputable def rec_Ok_pc : PC :=
  (.seq (.reg [p_a 1 (.box (.t 0)), p_s 2 (.mov (.c (.r (.v (.bool false)))))])
 (.seq (.reg [p_s 3 (.mov (.c (.fn (.func 104) [])))])
 (.seq (.reg [p_s 4 (.fa 0 (.t 1)), p_s 5 (.ld none (.t 4)), p_c 6 1 105 [.t 5], p_m 7 6, p_g 8 7 true (.mov (.t 3)), p_g 9 7 true (.fa 1 (.t 1)), p_g 10 7 true (.ld none (.t 9)),
 ⟨(some 11), (some (7, true)), 2, .callv (.t 8) [(.t 10)]⟩, p_s 12 (.pick (.t 7) (.t 11) (.c (.r (.v (.bool false))))), p_m 13 12, p_g 14 13 true (.mov (.t 3)), p_g 15 13 true (.fa 2 (.t 1)),
 p_g 16 13 true (.ld none (.t 15)), ⟨(some 17), (some (13, true)), 3, .callv (.t 14) [(.t 16)]⟩, p_s 18 (.pick (.t 13) (.t 17) (.c (.r (.v (.bool false))))), p_m 19 18,
 p_g 20 19 true (.fa 3 (.t 1)), p_g 21 19 true (.ld none (.t 20)), p_g 22 19 true (.bin .geq (.t 21) (o_i (-2147483648))), p_s 23 (.pick (.t 19) (.t 22) (.c (.r (.v (.bool false))))),
 p_m 24 23, p_g 25 24 true (.fa 3 (.t 1)), p_g 26 24 true (.ld none (.t 25)), p_g 27 24 true (.bin .leq (.t 26) (o_i 2147483647)), p_s 28 (.pick (.t 24) (.t 27) (.c (.r (.v (.bool false))))),
 p_m 2 28])
 .ret)))
theorem rec_Ok_triple : Fun Go.Proofs.Tryz.prog 70 1 [(2, false, none)] rec_Ok_pc := fun_mk Go.Proofs.Tryz.func70 rfl (by decide) (by kernel_rfl) (by decide) rfl (by kernel_rfl) (by kernel_rfl) (by decide)
theorem okin_t (n : Int) : Triple Go.Proofs.Tryz.prog 104 [int .i64 n] [] (bl (decide (0 ≤ n ∧ n < 1073741824))) [] := by
 refine rec_Ok_1_triple rfl (by decide) ?_
 simp only [rec_Ok_1_pc, List.length_nil, push_cast, ↓reduceIte, reduceCtorEq, Nat.reduceBEq, reduceEqDiff, reduceAdd, reduceSub, reduceLT, reduceLeDiff, reduceMul]
 by_cases h : 0 ≤ n <;> by_cases h' : n < 1073741824 <;> simp [h, h', push_cast, ↓reduceIte, reduceCtorEq, Nat.reduceBEq, reduceEqDiff, reduceAdd, reduceSub, reduceLT, reduceLeDiff, reduceMul]
theorem okkey_t (n : Int) : Triple Go.Proofs.Tryz.prog 105 [int .i64 n] [] (bl (decide (1 ≤ n ∧ n ≤ 2147483648))) [] := by
 refine rec_okKey_triple rfl (by decide) ?_
 simp only [rec_okKey_pc, List.length_nil, push_cast, ↓reduceIte, reduceCtorEq, Nat.reduceBEq, reduceEqDiff, reduceAdd, reduceSub, reduceLT, reduceLeDiff, reduceMul]
 by_cases h : 1 ≤ n <;> by_cases h' : n ≤ 2147483648 <;> simp [h, h', push_cast, ↓reduceIte, reduceCtorEq, Nat.reduceBEq, reduceEqDiff, reduceAdd, reduceSub, reduceLT, reduceLeDiff, reduceMul]
theorem recok_t (p : Pt) : Triple Go.Proofs.Tryz.prog 70 [p.av] [] (bl (decide p.ok)) [] := by
 refine rec_Ok_triple rfl (by decide) ?_
 simp only [rec_Ok_pc, Pt.av, Pt.rv, List.length_nil, push_cast, ↓reduceIte, reduceCtorEq, Nat.reduceBEq, reduceEqDiff, reduceAdd, reduceSub, reduceLT, reduceLeDiff, reduceMul]
 refine call_mk (okkey_t p.k) rfl trivial ?_
 simp only [push_cast, ↓reduceIte, reduceCtorEq, Nat.reduceBEq, reduceEqDiff, reduceAdd, reduceSub, reduceLT, reduceLeDiff, reduceMul]
 by_cases h : 1 ≤ p.k ∧ p.k ≤ 2147483648
 ·rw [decide_eq_true h]
  simp only [push_cast, ↓reduceIte, reduceCtorEq, Nat.reduceBEq, reduceEqDiff, reduceAdd, reduceSub, reduceLT, reduceLeDiff, reduceMul]
  refine ⟨by kernel_rfl, ?_⟩
  refine call_mk (okin_t p.x) rfl trivial ?_
  simp only [push_cast, ↓reduceIte, reduceCtorEq, Nat.reduceBEq, reduceEqDiff, reduceAdd, reduceSub, reduceLT, reduceLeDiff, reduceMul]
  by_cases hx : 0 ≤ p.x ∧ p.x < 1073741824
  ·rw [decide_eq_true hx]
   simp only [push_cast, ↓reduceIte, reduceCtorEq, Nat.reduceBEq, reduceEqDiff, reduceAdd, reduceSub, reduceLT, reduceLeDiff, reduceMul]
   refine ⟨by kernel_rfl, ?_⟩
   refine call_mk (okin_t p.y) rfl trivial ?_
   simp only [push_cast, ↓reduceIte, reduceCtorEq, Nat.reduceBEq, reduceEqDiff, reduceAdd, reduceSub, reduceLT, reduceLeDiff, reduceMul]
   by_cases hy : 0 ≤ p.y ∧ p.y < 1073741824
   ·rw [decide_eq_true hy]
    by_cases h1 : -2147483648 ≤ p.v <;> by_cases h2 : p.v ≤ 2147483647 <;> simp [h1, h2, h, hx, hy, Pt.ok, inW, push_cast, ↓reduceIte, reduceCtorEq, Nat.reduceBEq, reduceEqDiff, reduceAdd, reduceSub, reduceLT, reduceLeDiff, reduceMul]
   ·rw [decide_eq_false hy, decide_eq_false (p := p.ok) (fun h' => hy h'.2.1.2)]
    simp only [push_cast, ↓reduceIte, reduceCtorEq, Nat.reduceBEq, reduceEqDiff, reduceAdd, reduceSub, reduceLT, reduceLeDiff, reduceMul]
  ·rw [decide_eq_false hx, decide_eq_false (p := p.ok) (fun h' => hx h'.2.1.1)]
   simp only [push_cast, ↓reduceIte, reduceCtorEq, Nat.reduceBEq, reduceEqDiff, reduceAdd, reduceSub, reduceLT, reduceLeDiff, reduceMul]
 ·rw [decide_eq_false h, decide_eq_false (p := p.ok) (fun h' => h h'.1)]
  simp only [push_cast, ↓reduceIte, reduceCtorEq, Nat.reduceBEq, reduceEqDiff, reduceAdd, reduceSub, reduceLT, reduceLeDiff, reduceMul]

noncomputable def stats_Stats_Put_pc : PC :=
  (.seq (.reg [p_a 3 (.box (.t 1)), p_s 4 (.mov (.c (.r (.v (.bool false)))))])
 (.seq (.drw [p_m 11 0, p_s 12 (.nck (.t 11)), p_s 13 (.fa 0 (.t 12)), p_s 14 (.ld none (.t 13)), p_s 15 (.fa 0 (.t 3)), p_s 16 (.ld none (.t 15)), p_s 17 (.lkp false (.agg [(.v (.int .i64 0)), (.v (.int .i64 0)), (.v (.int .i64 0)), (.v (.int .i64 0))]) true (.t 14) (.t 16)),
 p_m 10 17, p_s 18 (.ext (.t 10) 0), p_s 19 (.ext (.t 10) 1), p_a 5 (.new [(.r (.v (.int .i64 0))), (.r (.v (.int .i64 0))), (.r (.v (.int .i64 0))), (.r (.v (.int .i64 0)))]),
 ⟨none, none, 0, .act (.st 4 (.t 5) (.t 18))⟩, p_m 6 19]
 [[], [0], [0, 1], [0, 1, 2], [], [4], [0, 1, 2, 3, 4, 5], [0, 1, 2, 3, 4, 5, 6], [0, 1, 2, 3, 4, 5, 6, 7], [0, 1, 2, 3, 4, 5, 6, 7], [], [0, 1, 2, 3, 4, 5, 6, 7, 8, 10], [0, 1, 2, 3, 4, 5, 6, 7, 8, 9, 10, 11]])
 (.seq (.seq (.reg [p_s 20 (.ld (some 4) (.t 3)), p_c 21 1 70 [.t 20], p_s 22 (.un .not (.t 21)), p_m 23 22, p_g 24 23 false (.mov (.t 6)), p_g 25 23 false (.un .not (.t 24)), p_g 26 23 false (.mov (.t 25)),
 p_g 27 26 true (.mov (.t 0)), p_g 28 26 true (.nck (.t 27)), p_g 29 26 true (.fa 0 (.t 28)), p_g 30 26 true (.ld none (.t 29)), p_g 31 26 true (.lenm (.t 30)), p_g 32 26 true (.bin .geq (.t 31) (o_i 2000)),
 p_g 33 23 false (.pick (.t 26) (.t 32) (.c (.r (.v (.bool false))))), p_s 34 (.pick (.t 23) (.c (.r (.v (.bool true)))) (.t 33))])
 (.cond (.t 34)
 (.seq (.reg [p_s 4 (.mov (.c (.r (.v (.bool false)))))])
 .ret)
 .skip))
 (.seq (.reg [p_m 35 0, p_s 36 (.fa 0 (.t 3)), p_s 37 (.ld none (.t 36)), p_c 38 2 71 [.t 35, .t 37]])
 (.seq (.drw [p_m 39 0, p_s 40 (.nck (.t 39)), p_s 41 (.fa 0 (.t 40)), p_s 42 (.ld none (.t 41)), p_s 43 (.fa 0 (.t 3)), p_s 44 (.ld none (.t 43)), p_s 45 (.ld (some 4) (.t 3)),
 ⟨none, none, 0, .act (.mset false (.t 42) (.t 44) (.t 45))⟩]
 [[], [0], [0, 1], [0, 1, 2], [], [4], [], [0, 1, 2, 3, 4, 5, 6]])
 (.seq (.reg [p_m 46 0, p_s 47 (.nck (.t 46)), p_s 48 (.fa 1 (.t 47)), p_s 49 (.ld none (.t 48)), p_s 50 (.mkf (.func 72) [(.t 49)] 1), p_m 7 50])
 (.seq (.seq (.reg [p_s 51 (.mov (o_i 0))])
 (.block 0 (.loop (.seq (.reg [p_s 52 (.bin .lss (.t 51) (o_i 13))])
 (.seq (.cond (.t 52)
 .skip
 (.exit 0))
 (.seq (.block 1 (.seq (.reg [p_m 53 51, p_m 8 53])
 (.seq (.reg [p_s 54 (.ld (some 4) (.t 3)), p_m 55 8, p_c 56 3 73 [.t 54, .t 55], p_m 9 56])
 (.seq (.reg [p_m 57 7, p_m 58 9, p_s 59 (.fa 3 (.t 3)), p_s 60 (.ld none (.t 59)), p_s 61 (.fa 0 (.t 3)), p_s 62 (.ld none (.t 61)), p_s 63 (.build [(.r (.v (.int .u64 0))), (.r (.v (.int .i64 0))), (.r (.v (.int .i64 0)))] [(0, 1, (.t 58)), (1, 1, (.t 60)), (2, 1, (.t 62))]),
 ⟨(some 64), none, 4, .callv (.t 57) [(.t 63)]⟩])
 (.reg [p_m 65 0, p_m 66 8, p_s 67 (.nck (.t 65)), p_s 68 (.fa 2 (.t 67)), p_s 69 (.iaa 13 1 (.t 68) (.t 66)), p_s 70 (.ld none (.t 69)), p_m 71 9, p_s 72 (.lkp false (.v (.int .i64 0)) false (.t 70) (.t 71)),
 p_s 73 (.bin .add (.t 72) (o_i 1)), ⟨none, none, 0, .act (.mset false (.t 70) (.t 71) (.t 73))⟩])))))
 (.reg [p_s 74 (.bin .add (.t 51) (o_i 1)), p_m 51 74])))))))
 (.seq (.reg [p_s 4 (.mov (.c (.r (.v (.bool true)))))])
 .ret))))))))
theorem stats_Stats_Put_triple : Fun Go.Proofs.Tryz.prog 37 2 [(4, false, none)] stats_Stats_Put_pc := fun_mk Go.Proofs.Tryz.func37 rfl (by decide) (by kernel_rfl) (by decide) rfl (by kernel_rfl) (by kernel_rfl) (by decide)
def incE (L : List Pt) (p : Pt) (ce : Nat → List MapEntry) (cc : Nat → Nat) (r : Nat) : List MapEntry := mputE (ce r) (cc r) (.int .u64 (p.w r)) (.int .i64 ((cnt L r (p.w r) : Int) + 1))
def incC (p : Pt) (ce : Nat → List MapEntry) (cc : Nat → Nat) (r : Nat) : Nat := mputC (ce r) (cc r) (.int .u64 (p.w r))
theorem StL.put {L : List Pt} {es : List MapEntry} {c : Nat} {ns : List (List Ky)} {ce : Nat → List MapEntry} {cc : Nat → Nat} (h : StL L es c ns ce cc) {p : Pt} (hp : p.ok) (hn : ∀ q ∈ L, q.k ≠ p.k) (hl : L.length < 2000) :
  StL (L ++ [p]) (mputE es c (.int .i64 p.k) p.val) (mputC es c (.int .i64 p.k)) (nsP ns p 13) (incE L p ce cc) (incC p ce cc) := by
 refine ⟨fun q hq => ?_, by simp; omega, (pm_add h.pm hn).2, ?_, fun r hr => ?_⟩
 ·rcases List.mem_append.1 hq with hq | hq
  ·exact h.ok q hq
  ·rw [List.mem_singleton.1 hq]; exact hp
 ·have := nsP_ok hp (fun q hq => ⟨h.ok q hq, hn q hq⟩) h.tk (by omega) 13 (Nat.le_refl _)
  rw [List.length_append, List.length_singleton, Nat.mul_add]
  refine this.congr fun x => ?_
  unfold KL
  constructor
  ·rintro (⟨q, hq, r, hr, rfl⟩ | ⟨s, hs, rfl⟩)
   ·exact ⟨q, List.mem_append_left _ hq, r, hr, rfl⟩
   ·exact ⟨p, by simp, s, hs, rfl⟩
  ·rintro ⟨q, hq, r, hr, rfl⟩
   rcases List.mem_append.1 hq with hq | hq
   ·exact .inl ⟨q, hq, r, hr, rfl⟩
   ·rw [List.mem_singleton.1 hq]; exact .inr ⟨r, hr, rfl⟩
 ·rw [cnt_add]
  have := cm_put (h.cm r hr) (p.w r) (cnt L r (p.w r) + 1) (by omega)
  exact this
theorem nsP_new {L : List Pt} {p : Pt} {n : Nat} {ns : List (List Ky)} (hp : p.ok) (hL : ∀ q ∈ L, q.ok ∧ q.k ≠ p.k) (h : TK (KL L) n ns) (hn : n ≤ 50000) {r : Nat} (hr : r < 13) : (putN (nsP ns p r) (p.ky r)).2 = true := by
 have := nsP_ok hp hL h hn r (by omega)
 refine (this.put (by omega) ?_).2
 rintro (⟨q, hq, s, hs, e⟩ | ⟨s, hs, e⟩)
 ·exact (hL q hq).2 (Pt.ky_inj hp (hL q hq).1 hr hs e).2.symm
 ·have := (Pt.ky_inj hp hp hr (by omega) e).1
  omega
section
variable {L : List Pt} {es es1 : List MapEntry} {c c1 : Nat} {ns ns1 : List (List Ky)} {ce ce1 : Nat → List MapEntry} {cc cc1 : Nat → Nat}
set_option maxHeartbeats 4000000 in
theorem put_core {b : Bool} (h : StL L es1 c1 ns1 ce1 cc1) {p : Pt} (hpo : p.ok) (hn : ∀ q ∈ L, q.k ≠ p.k) (hlt : L.length < 2000)
  (hdel : Triple Go.Proofs.Tryz.prog 71 [.ptr 1000000 0 0, int .i64 p.k] (stOs es c ns ce cc) (bl b) (stOs es1 c1 ns1 ce1 cc1))
  (g1 : okK es (.int .i64 p.k) = true) (g2 : ∃ v, lkR es (.int .i64 p.k) (.agg [.v (.int .i64 0), .v (.int .i64 0), .v (.int .i64 0), .v (.int .i64 0)]) = Pt.rv v) (g3 : lkB es (.int .i64 p.k) = true ∨ (lkB es (.int .i64 p.k) = false ∧ es.length < 2000)) :
  Triple Go.Proofs.Tryz.prog 37 [.ptr 1000000 0 0, p.av] (stOs es c ns ce cc) (bl true) (stOs (mputE es1 c1 (.int .i64 p.k) p.val) (mputC es1 c1 (.int .i64 p.k)) (nsP ns1 p 13) (incE L p ce1 cc1) (incC p ce1 cc1)) := by
 obtain ⟨f1, _⟩ := pm_add h.pm hn
 have hP := nsP_ok hpo (fun q hq => ⟨h.ok q hq, hn q hq⟩) h.tk (by omega)
 obtain ⟨v, g2⟩ := g2
 refine stats_Stats_Put_triple rfl (by simp [stOs]) ?_
 simp only [stats_Stats_Put_pc, stOs, Pt.av, Pt.rv, List.length_cons, List.length_nil, g1, g2, push_cast, ↓reduceIte, reduceCtorEq, Nat.reduceBEq, reduceEqDiff, reduceAdd, reduceSub, reduceLT, reduceLeDiff, reduceMul]
 repeat refine And.intro (by first | decide | omega | exact fun _ => by decide | (simp +contextual; done) | kernel_rfl) ?_
 refine call_as (as' := [p.av]) rfl ?_
 refine call_mk (recok_t p) rfl trivial ?_
 rw [decide_eq_true hpo]
 simp only [push_cast, ↓reduceIte, reduceCtorEq, Nat.reduceBEq, reduceEqDiff, reduceAdd, reduceSub, reduceLT, reduceLeDiff, reduceMul]
 refine cnd_mk (fun hc => ?_) (fun hc => ?_)
 ·exfalso
  rcases g3 with g3 | ⟨g3, g4⟩ <;> simp [g3] at hc
  omega
 simp only [stOs] at hdel
 simp only [push_cast, ↓reduceIte, reduceCtorEq, Nat.reduceBEq, reduceEqDiff, reduceAdd, reduceSub, reduceLT, reduceLeDiff, reduceMul]
 refine call_mk hdel rfl ⟨rfl, trivial, tr_size _ _, trivial, trivial, trivial, trivial, trivial, trivial, trivial, trivial, trivial, trivial, trivial, trivial, trivial, trivial⟩ ?_
 have tv : ∀ a b c d : Int, toV (.r (.agg [.v (.int .i64 a), .v (.int .i64 b), .v (.int .i64 c), .v (.int .i64 d)])) = some (Pt.val ⟨a, b, c, d⟩) := fun _ _ _ _ => rfl
 simp only [f1, tv, push_cast, ↓reduceIte, reduceCtorEq, Nat.reduceBEq, reduceEqDiff, reduceAdd, reduceSub, reduceLT, reduceLeDiff, reduceMul]
 repeat refine And.intro (by first | decide | omega | exact fun _ => by decide | (simp +contextual; done) | kernel_rfl) ?_
 refine run_loop [(51, false), (0, false), (3, false), (7, false)] (fun vs pos los => ∃ r : Nat, r ≤ 13 ∧ vs = [int .i64 r, .ptr 1000000 0 0, .ptr 2000000 0 0, .fn (.func 72) [.ptr 1000002 0 0] 1] ∧ pos = stOs (mputE es1 c1 (.int .i64 p.k) p.val) (mputC es1 c1 (.int .i64 p.k)) (nsP ns1 p r) (stg (incE L p ce1 cc1) ce1 r) (stg (incC p ce1 cc1) cc1 r) ∧ los = [.box [int .i64 p.k, int .i64 p.x, int .i64 p.y, int .i64 p.v]])
  (fun vs _ _ => match vs with | .r (.v (.int _ j)) :: _ => (13 - j).toNat | _ => 0) rfl ?_ ?_
 ·simp only [push_cast, ↓reduceIte, reduceCtorEq, Nat.reduceBEq, reduceEqDiff, reduceAdd, reduceSub, reduceLT, reduceLeDiff, reduceMul]
  refine ⟨0, by omega, ?_⟩
  simp only [stg_0, nsP, stOs]
  exact ⟨rfl, rfl⟩
 ·rintro vs pos los ⟨r, hr, rfl, hpos, rfl⟩
  by_cases h13 : r = 13
  ·subst h13
   have hlit : stOs (mputE es1 c1 (.int .i64 p.k) p.val) (mputC es1 c1 (.int .i64 p.k)) (nsP ns1 p 13) (stg (incE L p ce1 cc1) ce1 13) (stg (incC p ce1 cc1) cc1 13) = stOs (mputE es1 c1 (.int .i64 p.k) p.val) (mputC es1 c1 (.int .i64 p.k)) (nsP ns1 p 13) (incE L p ce1 cc1) (incC p ce1 cc1) := rfl
   rw [hlit] at hpos
   subst hpos
   simp only [stOs, show decide ((13 : Int) < 13) = false from rfl, push_cast, ↓reduceIte, reduceCtorEq, Nat.reduceBEq, reduceEqDiff, reduceAdd, reduceSub, reduceLT, reduceLeDiff, reduceMul]
  have hr3 : r < 13 := by omega
  have hcm := h.cm r hr3
  obtain ⟨q1, q2⟩ := cm_get hcm (p.w r)
  have hw := (Pt.w_res hpo hr3).2.2
  have hk := hP r (by omega)
  have hf : (putN (nsP ns1 p r) (p.ky r)).2 = true := (nsP_new hpo (fun q hq => ⟨h.ok q hq, hn q hq⟩) h.tk (by omega) hr3)
  have cle : cnt L r (p.w r) ≤ 2000 := Nat.le_trans List.countP_le_length (by omega)
  have z4 : IntKind.i64.wrap ((cnt L r (p.w r) : Int) + 1) = (cnt L r (p.w r) : Int) + 1 := wrap_id (by omega)
  have hpt := put_t hk.g (by rw [hk.l]; omega) (p.ky r)
  rcases (show r = 0 ∨ r = 1 ∨ r = 2 ∨ r = 3 ∨ r = 4 ∨ r = 5 ∨ r = 6 ∨ r = 7 ∨ r = 8 ∨ r = 9 ∨ r = 10 ∨ r = 11 ∨ r = 12 by omega) with rfl | rfl | rfl | rfl | rfl | rfl | rfl | rfl | rfl | rfl | rfl | rfl | rfl <;> (
   simp only [stOs, stg, Nat.reduceLT, ↓reduceIte] at hpos
   subst hpos
   simp only [Int.reduceLT, decide_true, push_cast, ↓reduceIte, reduceCtorEq, Nat.reduceBEq, reduceEqDiff, reduceAdd, reduceSub, reduceLT, reduceLeDiff, reduceMul]
   refine call_as (as' := [p.av, int .i64 _]) rfl ?_
   refine call_mk (wordp_t p _ hpo (by decide)) rfl trivial ?_
   simp only [Int.reduceToNat, uw, push_cast, ↓reduceIte, reduceCtorEq, Nat.reduceBEq, reduceEqDiff, reduceAdd, reduceSub, reduceLT, reduceLeDiff, reduceMul]
   repeat refine And.intro (by first | decide | omega | exact fun _ => by decide | (simp +contextual; done) | kernel_rfl) ?_
   refine call_as (as' := [.ptr 1000000 0 0, (p.ky _).av]) rfl ?_
   refine call_mk hpt rfl ⟨tr_size _ _, trivial⟩ ?_
   simp only [q1, q2, z4, Int.reduceToNat, push_cast, ↓reduceIte, reduceCtorEq, Nat.reduceBEq, reduceEqDiff, reduceAdd, reduceSub, reduceLT, reduceLeDiff, reduceMul]
   repeat refine And.intro (by first | decide | omega | exact fun _ => by decide | (simp +contextual; done) | kernel_rfl) ?_
   refine ⟨⟨_ + 1, by decide, rfl, ?_⟩, by decide⟩
   simp only [stOs, stg, Nat.reduceLT, Nat.reduceAdd, ↓reduceIte]
   rfl)
end

section
variable {L : List Pt} {es : List MapEntry} {c : Nat} {ns : List (List Ky)} {ce : Nat → List MapEntry} {cc : Nat → Nat}
set_option maxHeartbeats 4000000 in
theorem put_bad {p : Pt} (hpo : ¬ p.ok) (g1 : okK es (.int .i64 p.k) = true) (g2 : ∃ v, lkR es (.int .i64 p.k) (.agg [.v (.int .i64 0), .v (.int .i64 0), .v (.int .i64 0), .v (.int .i64 0)]) = Pt.rv v) :
  Triple Go.Proofs.Tryz.prog 37 [.ptr 1000000 0 0, p.av] (stOs es c ns ce cc) (bl false) (stOs es c ns ce cc) := by
 obtain ⟨v, g2⟩ := g2
 refine stats_Stats_Put_triple rfl (by simp [stOs]) ?_
 simp only [stats_Stats_Put_pc, stOs, Pt.av, Pt.rv, List.length_cons, List.length_nil, g1, g2, push_cast, ↓reduceIte, reduceCtorEq, Nat.reduceBEq, reduceEqDiff, reduceAdd, reduceSub, reduceLT, reduceLeDiff, reduceMul]
 repeat refine And.intro (by first | decide | omega | exact fun _ => by decide | (simp +contextual; done) | kernel_rfl) ?_
 refine call_as (as' := [p.av]) rfl ?_
 refine call_mk (recok_t p) rfl trivial ?_
 rw [decide_eq_false hpo]
 simp only [push_cast, ↓reduceIte, reduceCtorEq, Nat.reduceBEq, reduceEqDiff, reduceAdd, reduceSub, reduceLT, reduceLeDiff, reduceMul]
set_option maxHeartbeats 4000000 in
theorem put_full {p : Pt} (hpo : p.ok) (g1 : okK es (.int .i64 p.k) = true) (g2 : ∃ v, lkR es (.int .i64 p.k) (.agg [.v (.int .i64 0), .v (.int .i64 0), .v (.int .i64 0), .v (.int .i64 0)]) = Pt.rv v)
  (g3 : lkB es (.int .i64 p.k) = false) (g4 : 2000 ≤ es.length) :
  Triple Go.Proofs.Tryz.prog 37 [.ptr 1000000 0 0, p.av] (stOs es c ns ce cc) (bl false) (stOs es c ns ce cc) := by
 obtain ⟨v, g2⟩ := g2
 refine stats_Stats_Put_triple rfl (by simp [stOs]) ?_
 simp only [stats_Stats_Put_pc, stOs, Pt.av, Pt.rv, List.length_cons, List.length_nil, g1, g2, push_cast, ↓reduceIte, reduceCtorEq, Nat.reduceBEq, reduceEqDiff, reduceAdd, reduceSub, reduceLT, reduceLeDiff, reduceMul]
 repeat refine And.intro (by first | decide | omega | exact fun _ => by decide | (simp +contextual; done) | kernel_rfl) ?_
 refine call_as (as' := [p.av]) rfl ?_
 refine call_mk (recok_t p) rfl trivial ?_
 rw [decide_eq_true hpo]
 simp only [push_cast, ↓reduceIte, reduceCtorEq, Nat.reduceBEq, reduceEqDiff, reduceAdd, reduceSub, reduceLT, reduceLeDiff, reduceMul]
 refine cnd_mk (fun hc => ?_) (fun hc => ?_)
 ·simp only [push_cast, ↓reduceIte, reduceCtorEq, Nat.reduceBEq, reduceEqDiff, reduceAdd, reduceSub, reduceLT, reduceLeDiff, reduceMul]
 ·exfalso
  simp [g3] at hc
  omega
end
def SS (L : List Pt) (os : List Ob) : Prop := ∃ es c ns ce cc, StL L es c ns ce cc ∧ os = stOs es c ns ce cc
def has (L : List Pt) (k : Int) : Bool := L.any fun q => q.k == k
def plusP (L : List Pt) (p : Pt) : List Pt := without p.k L ++ [p]
def canPut (L : List Pt) (p : Pt) : Bool := decide p.ok && (has L p.k || decide (L.length < 2000))
theorem has_iff {L : List Pt} {k : Int} : has L k = true ↔ ∃ p ∈ L, p.k = k := by simp [has]
theorem has_not {L : List Pt} {k : Int} : has L k = false ↔ ∀ p ∈ L, p.k ≠ k := by simp [has]
theorem without_no {L : List Pt} {k : Int} (h : has L k = false) : without k L = L := by
 rw [has_not] at h
 unfold without
 rw [List.filter_eq_self]
 intro q hq
 simpa using h q hq
theorem without_mem {L : List Pt} {k : Int} {q : Pt} : q ∈ without k L ↔ q ∈ L ∧ q.k ≠ k := by simp [without]
theorem delS {L : List Pt} {os : List Ob} (h : SS L os) (k : Int) : ∃ os', SS (without k L) os' ∧ Triple Go.Proofs.Tryz.prog 71 [.ptr 1000000 0 0, int .i64 k] os (bl (has L k)) (os' ++ []) := by
 obtain ⟨es, c, ns, ce, cc, h, rfl⟩ := h
 cases hk : has L k with
 | true =>
  obtain ⟨p, hp, rfl⟩ := has_iff.1 hk
  exact ⟨_, ⟨_, _, _, _, _, h.del hp, rfl⟩, by rw [List.append_nil]; exact del_yes h hp⟩
 | false =>
  rw [without_no hk]
  exact ⟨_, ⟨_, _, _, _, _, h, rfl⟩, by rw [List.append_nil]; exact del_no h k (has_not.1 hk)⟩
theorem lk_any {L : List Pt} {es : List MapEntry} {c : Nat} (h : PM L es c) (k : Int) : okK es (.int .i64 k) = true ∧ (∃ v, lkR es (.int .i64 k) (.agg [.v (.int .i64 0), .v (.int .i64 0), .v (.int .i64 0), .v (.int .i64 0)]) = Pt.rv v) ∧ lkB es (.int .i64 k) = has L k := by
 cases hk : has L k with
 | true =>
  obtain ⟨p, hp, rfl⟩ := has_iff.1 hk
  obtain ⟨a, b, c, d⟩ := pm_yes h hp
  exact ⟨a, ⟨p, c _⟩, b⟩
 | false =>
  obtain ⟨a, b, c, d⟩ := pm_no h (has_not.1 hk)
  exact ⟨a, ⟨⟨0, 0, 0, 0⟩, c _⟩, b⟩
theorem putS {L : List Pt} {os : List Ob} (h : SS L os) (p : Pt) : ∃ os', SS (if canPut L p then plusP L p else L) os' ∧ Triple Go.Proofs.Tryz.prog 37 [.ptr 1000000 0 0, p.av] os (bl (canPut L p)) (os' ++ []) := by
 have h0 := h
 obtain ⟨es, c, ns, ce, cc, h, rfl⟩ := h
 obtain ⟨g1, g2, g3⟩ := lk_any h.pm p.k
 by_cases hpo : p.ok
 ·by_cases hc : has L p.k = true ∨ L.length < 2000
  ·have hcp : canPut L p = true := by simp [canPut, hpo, hc]
   rw [hcp, if_pos rfl]
   obtain ⟨os1, ⟨es1, c1, ns1, ce1, cc1, h1, rfl⟩, hT⟩ := delS h0 p.k
   rw [List.append_nil] at hT
   have hn : ∀ q ∈ without p.k L, q.k ≠ p.k := fun q hq => (without_mem.1 hq).2
   have hlt : (without p.k L).length < 2000 := by
    cases hk : has L p.k with
    | true =>
     obtain ⟨q, hq, e⟩ := has_iff.1 hk
     have := len_without h.pm.nd hq
     rw [e] at this
     have := h.le
     omega
    | false =>
     rw [without_no hk]
     simpa [hk] using hc
   refine ⟨_, ⟨_, _, _, _, _, h1.put hpo hn hlt, rfl⟩, ?_⟩
   rw [List.append_nil]
   refine put_core h1 hpo hn hlt hT g1 g2 ?_
   rw [g3, pm_len h.pm]
   cases hk : has L p.k with
   | true => exact .inl rfl
   | false => exact .inr ⟨rfl, by simpa [hk] using hc⟩
  ·have hcp : canPut L p = false := by
    simp only [not_or] at hc
    simp [canPut, hc.1, hc.2]
   rw [hcp, if_neg (by simp)]
   simp only [not_or, Bool.not_eq_true] at hc
   exact ⟨_, h0, by rw [List.append_nil]; exact put_full hpo g1 g2 (g3.trans hc.1) (by rw [pm_len h.pm]; omega)⟩
 ·have hcp : canPut L p = false := by simp [canPut, hpo]
  rw [hcp, if_neg (by simp)]
  exact ⟨_, h0, by rw [List.append_nil]; exact put_bad hpo g1 g2⟩
def SF (L : List Pt) : Fam where
 S := SS L
 N := 16
 n := 15
 pos := by decide
 len := by rintro os ⟨es, c, ns, ce, cc, h, rfl⟩; rfl
 flat := by
  rintro os ⟨es, c, ns, ce, cc, h, rfl⟩ o ho
  simp only [stOs, List.mem_cons, List.not_mem_nil, or_false] at ho
  rcases ho with rfl | rfl | rfl | rfl | rfl | rfl | rfl | rfl | rfl | rfl | rfl | rfl | rfl | rfl | rfl | rfl
  ·exact ⟨by simp [FlatO, Flats, Flat], rfl⟩
  all_goals exact ⟨trivial, rfl⟩
 shut := by
  rintro os ⟨es, c, ns, ce, cc, h, rfl⟩ o ho
  simp only [stOs, List.mem_cons, List.not_mem_nil, or_false] at ho
  rcases ho with rfl | rfl | rfl | rfl | rfl | rfl | rfl | rfl | rfl | rfl | rfl | rfl | rfl | rfl | rfl | rfl
  ·simp [imO, imL, imV, keepF]
  all_goals rfl
 root := by
  rintro os ⟨es, c, ns, ce, cc, h, rfl⟩
  exact ⟨_, rfl, rfl⟩
def sT (L : List Pt) : AbsT := (SF L).T
theorem put_a (L : List Pt) (p : Pt) : Triple Go.Proofs.Tryz.prog 37 [.ptr 1000000 0 0, p.av] [.abs (sT L)] (bl (canPut L p)) [.abs (sT (if canPut L p then plusP L p else L))] :=
 pack (F := SF L) (F' := SF (if canPut L p then plusP L p else L)) rfl (fun os h => putS h p) rfl (by simp) (by simp [Flat, FlatR])

noncomputable def stats_New_pc : PC :=
  (.seq (.reg [p_s 0 (.mov (.c (.r (.v (.pointer none)))))])
 (.seq (.reg [p_a 3 (.mkm), p_c 4 1 69 [], p_s 5 (.build [(.r (.v (.map none))), (.r (.v (.pointer none))), (.r (.v (.map none))), (.r (.v (.map none))), (.r (.v (.map none))), (.r (.v (.map none))), (.r (.v (.map none))), (.r (.v (.map none))), (.r (.v (.map none))), (.r (.v (.map none))), (.r (.v (.map none))), (.r (.v (.map none))), (.r (.v (.map none))), (.r (.v (.map none))), (.r (.v (.map none)))] [(0, 1, (.t 3)), (1, 1, (.t 4))]),
 p_a 6 (.box (.t 5)), p_m 1 6])
 (.seq (.seq (.reg [p_s 7 (.mov (o_i 0))])
 (.block 0 (.loop (.seq (.reg [p_s 8 (.bin .lss (.t 7) (o_i 13))])
 (.seq (.cond (.t 8)
 .skip
 (.exit 0))
 (.seq (.block 1 (.seq (.reg [p_m 9 7, p_m 2 9])
 (.reg [p_m 10 1, p_m 11 2, p_a 12 (.mkm), p_s 13 (.nck (.t 10)), p_s 14 (.fa 2 (.t 13)), p_s 15 (.iaa 13 1 (.t 14) (.t 11)), ⟨none, none, 0, .act (.st 1 (.t 15) (.t 12))⟩])))
 (.reg [p_s 16 (.bin .add (.t 7) (o_i 1)), p_m 7 16])))))))
 (.seq (.reg [p_m 17 1, p_m 0 17])
 .ret))))
theorem stats_New_triple : Fun Go.Proofs.Tryz.prog 36 0 [(0, false, none)] stats_New_pc := fun_mk Go.Proofs.Tryz.func36 rfl (by decide) (by kernel_rfl) (by decide) rfl (by kernel_rfl) (by kernel_rfl) (by decide)
def newOs : Nat → List Ob
 | 0 => [.box [.mp 2000001 0, .ptr 2000002 0 0, .r (.v (.map none)), .r (.v (.map none)), .r (.v (.map none)), .r (.v (.map none)), .r (.v (.map none)), .r (.v (.map none)), .r (.v (.map none)), .r (.v (.map none)), .r (.v (.map none)), .r (.v (.map none)), .r (.v (.map none)), .r (.v (.map none)), .r (.v (.map none))], .map [] 0, .abs (tr [])]
 | 1 => [.box [.mp 2000001 0, .ptr 2000002 0 0, .mp 2000003 0, .r (.v (.map none)), .r (.v (.map none)), .r (.v (.map none)), .r (.v (.map none)), .r (.v (.map none)), .r (.v (.map none)), .r (.v (.map none)), .r (.v (.map none)), .r (.v (.map none)), .r (.v (.map none)), .r (.v (.map none)), .r (.v (.map none))], .map [] 0, .abs (tr []), .map [] 0]
 | 2 => [.box [.mp 2000001 0, .ptr 2000002 0 0, .mp 2000003 0, .mp 2000004 0, .r (.v (.map none)), .r (.v (.map none)), .r (.v (.map none)), .r (.v (.map none)), .r (.v (.map none)), .r (.v (.map none)), .r (.v (.map none)), .r (.v (.map none)), .r (.v (.map none)), .r (.v (.map none)), .r (.v (.map none))], .map [] 0, .abs (tr []), .map [] 0, .map [] 0]
 | 3 => [.box [.mp 2000001 0, .ptr 2000002 0 0, .mp 2000003 0, .mp 2000004 0, .mp 2000005 0, .r (.v (.map none)), .r (.v (.map none)), .r (.v (.map none)), .r (.v (.map none)), .r (.v (.map none)), .r (.v (.map none)), .r (.v (.map none)), .r (.v (.map none)), .r (.v (.map none)), .r (.v (.map none))], .map [] 0, .abs (tr []), .map [] 0, .map [] 0, .map [] 0]
 | 4 => [.box [.mp 2000001 0, .ptr 2000002 0 0, .mp 2000003 0, .mp 2000004 0, .mp 2000005 0, .mp 2000006 0, .r (.v (.map none)), .r (.v (.map none)), .r (.v (.map none)), .r (.v (.map none)), .r (.v (.map none)), .r (.v (.map none)), .r (.v (.map none)), .r (.v (.map none)), .r (.v (.map none))], .map [] 0, .abs (tr []), .map [] 0, .map [] 0, .map [] 0, .map [] 0]
 | 5 => [.box [.mp 2000001 0, .ptr 2000002 0 0, .mp 2000003 0, .mp 2000004 0, .mp 2000005 0, .mp 2000006 0, .mp 2000007 0, .r (.v (.map none)), .r (.v (.map none)), .r (.v (.map none)), .r (.v (.map none)), .r (.v (.map none)), .r (.v (.map none)), .r (.v (.map none)), .r (.v (.map none))], .map [] 0, .abs (tr []), .map [] 0, .map [] 0, .map [] 0, .map [] 0, .map [] 0]
 | 6 => [.box [.mp 2000001 0, .ptr 2000002 0 0, .mp 2000003 0, .mp 2000004 0, .mp 2000005 0, .mp 2000006 0, .mp 2000007 0, .mp 2000008 0, .r (.v (.map none)), .r (.v (.map none)), .r (.v (.map none)), .r (.v (.map none)), .r (.v (.map none)), .r (.v (.map none)), .r (.v (.map none))], .map [] 0, .abs (tr []), .map [] 0, .map [] 0, .map [] 0, .map [] 0, .map [] 0, .map [] 0]
 | 7 => [.box [.mp 2000001 0, .ptr 2000002 0 0, .mp 2000003 0, .mp 2000004 0, .mp 2000005 0, .mp 2000006 0, .mp 2000007 0, .mp 2000008 0, .mp 2000009 0, .r (.v (.map none)), .r (.v (.map none)), .r (.v (.map none)), .r (.v (.map none)), .r (.v (.map none)), .r (.v (.map none))], .map [] 0, .abs (tr []), .map [] 0, .map [] 0, .map [] 0, .map [] 0, .map [] 0, .map [] 0, .map [] 0]
 | 8 => [.box [.mp 2000001 0, .ptr 2000002 0 0, .mp 2000003 0, .mp 2000004 0, .mp 2000005 0, .mp 2000006 0, .mp 2000007 0, .mp 2000008 0, .mp 2000009 0, .mp 2000010 0, .r (.v (.map none)), .r (.v (.map none)), .r (.v (.map none)), .r (.v (.map none)), .r (.v (.map none))], .map [] 0, .abs (tr []), .map [] 0, .map [] 0, .map [] 0, .map [] 0, .map [] 0, .map [] 0, .map [] 0, .map [] 0]
 | 9 => [.box [.mp 2000001 0, .ptr 2000002 0 0, .mp 2000003 0, .mp 2000004 0, .mp 2000005 0, .mp 2000006 0, .mp 2000007 0, .mp 2000008 0, .mp 2000009 0, .mp 2000010 0, .mp 2000011 0, .r (.v (.map none)), .r (.v (.map none)), .r (.v (.map none)), .r (.v (.map none))], .map [] 0, .abs (tr []), .map [] 0, .map [] 0, .map [] 0, .map [] 0, .map [] 0, .map [] 0, .map [] 0, .map [] 0, .map [] 0]
 | 10 => [.box [.mp 2000001 0, .ptr 2000002 0 0, .mp 2000003 0, .mp 2000004 0, .mp 2000005 0, .mp 2000006 0, .mp 2000007 0, .mp 2000008 0, .mp 2000009 0, .mp 2000010 0, .mp 2000011 0, .mp 2000012 0, .r (.v (.map none)), .r (.v (.map none)), .r (.v (.map none))], .map [] 0, .abs (tr []), .map [] 0, .map [] 0, .map [] 0, .map [] 0, .map [] 0, .map [] 0, .map [] 0, .map [] 0, .map [] 0, .map [] 0]
 | 11 => [.box [.mp 2000001 0, .ptr 2000002 0 0, .mp 2000003 0, .mp 2000004 0, .mp 2000005 0, .mp 2000006 0, .mp 2000007 0, .mp 2000008 0, .mp 2000009 0, .mp 2000010 0, .mp 2000011 0, .mp 2000012 0, .mp 2000013 0, .r (.v (.map none)), .r (.v (.map none))], .map [] 0, .abs (tr []), .map [] 0, .map [] 0, .map [] 0, .map [] 0, .map [] 0, .map [] 0, .map [] 0, .map [] 0, .map [] 0, .map [] 0, .map [] 0]
 | 12 => [.box [.mp 2000001 0, .ptr 2000002 0 0, .mp 2000003 0, .mp 2000004 0, .mp 2000005 0, .mp 2000006 0, .mp 2000007 0, .mp 2000008 0, .mp 2000009 0, .mp 2000010 0, .mp 2000011 0, .mp 2000012 0, .mp 2000013 0, .mp 2000014 0, .r (.v (.map none))], .map [] 0, .abs (tr []), .map [] 0, .map [] 0, .map [] 0, .map [] 0, .map [] 0, .map [] 0, .map [] 0, .map [] 0, .map [] 0, .map [] 0, .map [] 0, .map [] 0]
 | _ => [.box [.mp 2000001 0, .ptr 2000002 0 0, .mp 2000003 0, .mp 2000004 0, .mp 2000005 0, .mp 2000006 0, .mp 2000007 0, .mp 2000008 0, .mp 2000009 0, .mp 2000010 0, .mp 2000011 0, .mp 2000012 0, .mp 2000013 0, .mp 2000014 0, .mp 2000015 0], .map [] 0, .abs (tr []), .map [] 0, .map [] 0, .map [] 0, .map [] 0, .map [] 0, .map [] 0, .map [] 0, .map [] 0, .map [] 0, .map [] 0, .map [] 0, .map [] 0, .map [] 0]
theorem pm_nil : PM [] [] 0 := ⟨mapL_nil, by simp⟩
theorem tk_nil : TK (KL []) 0 [] := ⟨⟨by simp, by simp [Srt]⟩, fun x => by simp [KL], rfl⟩
theorem stL_nil : StL [] [] 0 [] (fun _ => []) (fun _ => 0) :=
 ⟨by simp, by simp, pm_nil, tk_nil, fun r hr => by
  have : cnt [] r = fun _ => 0 := by funext w; simp [cnt]
  rw [this]; exact cm_nil⟩
set_option maxHeartbeats 4000000 in
theorem new_os : Triple Go.Proofs.Tryz.prog 36 [] [] (.ptr 1000000 0 0) (stOs [] 0 [] (fun _ => []) (fun _ => 0)) := by
 refine stats_New_triple rfl (by decide) ?_
 simp only [stats_New_pc, List.length_nil, push_cast, ↓reduceIte, reduceCtorEq, Nat.reduceBEq, reduceEqDiff, reduceAdd, reduceSub, reduceLT, reduceLeDiff, reduceMul]
 repeat refine And.intro (by first | decide | omega | exact fun _ => by decide | (simp +contextual; done) | kernel_rfl) ?_
 refine call_mk new_t rfl trivial ?_
 simp only [push_cast, ↓reduceIte, reduceCtorEq, Nat.reduceBEq, reduceEqDiff, reduceAdd, reduceSub, reduceLT, reduceLeDiff, reduceMul]
 repeat refine And.intro (by first | decide | omega | exact fun _ => by decide | (simp +contextual; done) | kernel_rfl) ?_
 refine run_loop [(7, false), (1, false)] (fun vs pos los => ∃ r : Nat, r ≤ 13 ∧ vs = [int .i64 r, .ptr 2000000 0 0] ∧ pos = [] ∧ los = newOs r)
  (fun vs _ _ => match vs with | .r (.v (.int _ j)) :: _ => (13 - j).toNat | _ => 0) rfl ?_ ?_
 ·simp only [push_cast, ↓reduceIte, reduceCtorEq, Nat.reduceBEq, reduceEqDiff, reduceAdd, reduceSub, reduceLT, reduceLeDiff, reduceMul]
  refine ⟨0, by omega, ?_⟩
  simp only [newOs]
  exact ⟨rfl, trivial⟩
 ·rintro vs pos los ⟨r, hr, rfl, rfl, hlos⟩
  rcases (show r = 0 ∨ r = 1 ∨ r = 2 ∨ r = 3 ∨ r = 4 ∨ r = 5 ∨ r = 6 ∨ r = 7 ∨ r = 8 ∨ r = 9 ∨ r = 10 ∨ r = 11 ∨ r = 12 ∨ r = 13 by omega) with rfl | rfl | rfl | rfl | rfl | rfl | rfl | rfl | rfl | rfl | rfl | rfl | rfl | rfl
  ·simp only [newOs] at hlos
   subst hlos
   simp only [show decide ((0 : Int) < 13) = true from rfl, Int.reduceToNat, push_cast, ↓reduceIte, reduceCtorEq, Nat.reduceBEq, reduceEqDiff, reduceAdd, reduceSub, reduceLT, reduceLeDiff, reduceMul]
   repeat refine And.intro (by first | decide | omega | exact fun _ => by decide | (simp +contextual; done) | kernel_rfl) ?_
   refine ⟨⟨0 + 1, by omega, rfl, rfl⟩, by decide⟩
  ·simp only [newOs] at hlos
   subst hlos
   simp only [show decide ((1 : Int) < 13) = true from rfl, Int.reduceToNat, push_cast, ↓reduceIte, reduceCtorEq, Nat.reduceBEq, reduceEqDiff, reduceAdd, reduceSub, reduceLT, reduceLeDiff, reduceMul]
   repeat refine And.intro (by first | decide | omega | exact fun _ => by decide | (simp +contextual; done) | kernel_rfl) ?_
   refine ⟨⟨1 + 1, by omega, rfl, rfl⟩, by decide⟩
  ·simp only [newOs] at hlos
   subst hlos
   simp only [show decide ((2 : Int) < 13) = true from rfl, Int.reduceToNat, push_cast, ↓reduceIte, reduceCtorEq, Nat.reduceBEq, reduceEqDiff, reduceAdd, reduceSub, reduceLT, reduceLeDiff, reduceMul]
   repeat refine And.intro (by first | decide | omega | exact fun _ => by decide | (simp +contextual; done) | kernel_rfl) ?_
   refine ⟨⟨2 + 1, by omega, rfl, rfl⟩, by decide⟩
  ·simp only [newOs] at hlos
   subst hlos
   simp only [show decide ((3 : Int) < 13) = true from rfl, Int.reduceToNat, push_cast, ↓reduceIte, reduceCtorEq, Nat.reduceBEq, reduceEqDiff, reduceAdd, reduceSub, reduceLT, reduceLeDiff, reduceMul]
   repeat refine And.intro (by first | decide | omega | exact fun _ => by decide | (simp +contextual; done) | kernel_rfl) ?_
   refine ⟨⟨3 + 1, by omega, rfl, rfl⟩, by decide⟩
  ·simp only [newOs] at hlos
   subst hlos
   simp only [show decide ((4 : Int) < 13) = true from rfl, Int.reduceToNat, push_cast, ↓reduceIte, reduceCtorEq, Nat.reduceBEq, reduceEqDiff, reduceAdd, reduceSub, reduceLT, reduceLeDiff, reduceMul]
   repeat refine And.intro (by first | decide | omega | exact fun _ => by decide | (simp +contextual; done) | kernel_rfl) ?_
   refine ⟨⟨4 + 1, by omega, rfl, rfl⟩, by decide⟩
  ·simp only [newOs] at hlos
   subst hlos
   simp only [show decide ((5 : Int) < 13) = true from rfl, Int.reduceToNat, push_cast, ↓reduceIte, reduceCtorEq, Nat.reduceBEq, reduceEqDiff, reduceAdd, reduceSub, reduceLT, reduceLeDiff, reduceMul]
   repeat refine And.intro (by first | decide | omega | exact fun _ => by decide | (simp +contextual; done) | kernel_rfl) ?_
   refine ⟨⟨5 + 1, by omega, rfl, rfl⟩, by decide⟩
  ·simp only [newOs] at hlos
   subst hlos
   simp only [show decide ((6 : Int) < 13) = true from rfl, Int.reduceToNat, push_cast, ↓reduceIte, reduceCtorEq, Nat.reduceBEq, reduceEqDiff, reduceAdd, reduceSub, reduceLT, reduceLeDiff, reduceMul]
   repeat refine And.intro (by first | decide | omega | exact fun _ => by decide | (simp +contextual; done) | kernel_rfl) ?_
   refine ⟨⟨6 + 1, by omega, rfl, rfl⟩, by decide⟩
  ·simp only [newOs] at hlos
   subst hlos
   simp only [show decide ((7 : Int) < 13) = true from rfl, Int.reduceToNat, push_cast, ↓reduceIte, reduceCtorEq, Nat.reduceBEq, reduceEqDiff, reduceAdd, reduceSub, reduceLT, reduceLeDiff, reduceMul]
   repeat refine And.intro (by first | decide | omega | exact fun _ => by decide | (simp +contextual; done) | kernel_rfl) ?_
   refine ⟨⟨7 + 1, by omega, rfl, rfl⟩, by decide⟩
  ·simp only [newOs] at hlos
   subst hlos
   simp only [show decide ((8 : Int) < 13) = true from rfl, Int.reduceToNat, push_cast, ↓reduceIte, reduceCtorEq, Nat.reduceBEq, reduceEqDiff, reduceAdd, reduceSub, reduceLT, reduceLeDiff, reduceMul]
   repeat refine And.intro (by first | decide | omega | exact fun _ => by decide | (simp +contextual; done) | kernel_rfl) ?_
   refine ⟨⟨8 + 1, by omega, rfl, rfl⟩, by decide⟩
  ·simp only [newOs] at hlos
   subst hlos
   simp only [show decide ((9 : Int) < 13) = true from rfl, Int.reduceToNat, push_cast, ↓reduceIte, reduceCtorEq, Nat.reduceBEq, reduceEqDiff, reduceAdd, reduceSub, reduceLT, reduceLeDiff, reduceMul]
   repeat refine And.intro (by first | decide | omega | exact fun _ => by decide | (simp +contextual; done) | kernel_rfl) ?_
   refine ⟨⟨9 + 1, by omega, rfl, rfl⟩, by decide⟩
  ·simp only [newOs] at hlos
   subst hlos
   simp only [show decide ((10 : Int) < 13) = true from rfl, Int.reduceToNat, push_cast, ↓reduceIte, reduceCtorEq, Nat.reduceBEq, reduceEqDiff, reduceAdd, reduceSub, reduceLT, reduceLeDiff, reduceMul]
   repeat refine And.intro (by first | decide | omega | exact fun _ => by decide | (simp +contextual; done) | kernel_rfl) ?_
   refine ⟨⟨10 + 1, by omega, rfl, rfl⟩, by decide⟩
  ·simp only [newOs] at hlos
   subst hlos
   simp only [show decide ((11 : Int) < 13) = true from rfl, Int.reduceToNat, push_cast, ↓reduceIte, reduceCtorEq, Nat.reduceBEq, reduceEqDiff, reduceAdd, reduceSub, reduceLT, reduceLeDiff, reduceMul]
   repeat refine And.intro (by first | decide | omega | exact fun _ => by decide | (simp +contextual; done) | kernel_rfl) ?_
   refine ⟨⟨11 + 1, by omega, rfl, rfl⟩, by decide⟩
  ·simp only [newOs] at hlos
   subst hlos
   simp only [show decide ((12 : Int) < 13) = true from rfl, Int.reduceToNat, push_cast, ↓reduceIte, reduceCtorEq, Nat.reduceBEq, reduceEqDiff, reduceAdd, reduceSub, reduceLT, reduceLeDiff, reduceMul]
   repeat refine And.intro (by first | decide | omega | exact fun _ => by decide | (simp +contextual; done) | kernel_rfl) ?_
   refine ⟨⟨12 + 1, by omega, rfl, rfl⟩, by decide⟩
  ·simp only [newOs] at hlos
   subst hlos
   simp only [show decide ((13 : Int) < 13) = false from rfl, push_cast, ↓reduceIte, reduceCtorEq, Nat.reduceBEq, reduceEqDiff, reduceAdd, reduceSub, reduceLT, reduceLeDiff, reduceMul]
   rfl
theorem new_a : Triple Go.Proofs.Tryz.prog 36 [] [] (.ptr 1000000 0 0) [.abs (sT [])] :=
 packNew (F := SF []) ⟨_, _, _, _, _, stL_nil, rfl⟩ new_os

structure Sa where
 w : Int
 n : Int
 s : Int
 lo : Int
 hi : Int
deriving DecidableEq
def Sa.cs (s : Sa) : List AV := [int .u64 s.w, int .i64 s.n, int .i64 s.s, int .i64 s.lo, int .i64 s.hi]
def Sa.rv (s : Sa) : RV := .agg [.v (.int .u64 s.w), .v (.int .i64 s.n), .v (.int .i64 s.s), .v (.int .i64 s.lo), .v (.int .i64 s.hi)]
def Sa.add (s : Sa) (v : Int) : Sa := ⟨s.w, IntKind.i64.wrap (s.n + 1), IntKind.i64.wrap (s.s + v), if s.n = 0 then v else s.lo, v⟩

def kz : RV := .agg [.v (.int .u64 0), .v (.int .i64 0), .v (.int .i64 0)]
def tc (lo : Ky) (w : Int) (r : List Ky) : List Ky := (r.filter fun k => !kl k lo).takeWhile fun k => k.c == w
def addL (s : Sa) (l : List Ky) : Sa := l.foldl (fun s k => s.add k.v) s


def cellV (s : Sa) : AV := if s.n = 0 then .tup [.r (Sa.rv ⟨0, 0, 0, 0, 0⟩), bl false] else .tup [.r s.rv, bl true]
section
variable {L : List Pt} {es : List MapEntry} {c : Nat} {ns : List (List Ky)} {ce : Nat → List MapEntry} {cc : Nat → Nat}
def saOf (ns : List (List Ky)) (w : Int) : Sa := addL ⟨w, 0, 0, 0, 0⟩ (tc ⟨w, -9223372036854775808, -9223372036854775808⟩ w ns.flatten)
def CellIs (L : List Pt) (w : Int) (s : Sa) : Prop := ∃ ns, TK (KL L) (13 * L.length) ns ∧ s = saOf ns w
end

def inC (w : Nat) (p : Pt) : Bool := (List.range 13).any fun r => p.w r == w
def mem (L : List Pt) (w : Nat) : List Pt := L.filter (inC w)
def sumV (M : List Pt) : Int := (M.map (·.v)).sum
def loV : List Pt → Int
 | [] => 0
 | p :: l => l.foldl (fun a q => min a q.v) p.v
def hiV : List Pt → Int
 | [] => 0
 | p :: l => l.foldl (fun a q => max a q.v) p.v
def vSum (F : List Ky) : Int := (F.map (·.v)).sum
def cellS (L : List Pt) (w : Nat) : Sa := if mem L w = [] then ⟨w, 0, 0, 0, 0⟩ else ⟨w, (mem L w).length, sumV (mem L w), loV (mem L w), hiV (mem L w)⟩
def cellR (L : List Pt) (w : Nat) : AV := if mem L w = [] then .tup [.r (Sa.rv ⟨0, 0, 0, 0, 0⟩), bl false] else .tup [.r (cellS L w).rv, bl true]

noncomputable def stats_Of_pc : PC :=
  (.seq (.reg [p_s 2 (.mov (.c (.r (.v (.pointer none)))))])
 (.seq (.reg [p_c 6 1 36 [], p_m 3 6])
 (.seq (.seq (.reg [p_m 7 0, p_s 8 (.len false (.t 7)), p_s 9 (.mov (o_i 0))])
 (.block 0 (.loop (.seq (.reg [p_s 10 (.bin .lss (.t 9) (.t 8))])
 (.seq (.cond (.t 10)
 .skip
 (.exit 0))
 (.seq (.block 1 (.seq (.reg [p_s 11 (.ia 4 (.agg [(.v (.int .i64 0)), (.v (.int .i64 0)), (.v (.int .i64 0)), (.v (.int .i64 0))]) (.t 7) (.t 9)), p_s 12 (.ld (some 4) (.t 11)), p_a 5 (.new [(.r (.v (.int .i64 0))), (.r (.v (.int .i64 0))), (.r (.v (.int .i64 0))), (.r (.v (.int .i64 0)))]),
 ⟨none, none, 0, .act (.st 4 (.t 5) (.t 12))⟩])
 (.reg [p_m 13 3, p_s 14 (.ld (some 4) (.t 5)), p_c 15 2 37 [.t 13, .t 14]])))
 (.reg [p_s 16 (.bin .add (.t 9) (o_i 1)), p_m 9 16])))))))
 (.seq (.reg [p_m 17 3, p_m 2 17])
 .ret))))
theorem stats_Of_triple : Fun Go.Proofs.Tryz.prog 15 1 [(2, false, none)] stats_Of_pc := fun_mk Go.Proofs.Tryz.func15 rfl (by decide) (by kernel_rfl) (by decide) rfl (by kernel_rfl) (by kernel_rfl) (by decide)
def stepL (L : List Pt) (p : Pt) : List Pt := if canPut L p then plusP L p else L
def ofL (l : List Pt) : List Pt := l.foldl stepL []
def pts (l : List Pt) : RV := .sl 4 (l.map Pt.rv)
theorem pts_get {l : List Pt} {i : Nat} {p : Pt} (h : l[i]? = some p) (z : RV) : (l.map Pt.rv).getD ((i : Int)).toNat z = .agg [.v (.int .i64 p.k), .v (.int .i64 p.x), .v (.int .i64 p.y), .v (.int .i64 p.v)] := by
 simp [List.getD, h, Pt.rv]
theorem of_t (l : List Pt) (hl : l.length ≤ 100000) : Triple Go.Proofs.Tryz.prog 15 [.r (pts l)] [] (.ptr 1000000 0 0) [.abs (sT (ofL l))] := by
 refine stats_Of_triple rfl (by decide) ?_
 simp only [stats_Of_pc, pts, List.length_nil, List.length_map, push_cast, ↓reduceIte, reduceCtorEq, Nat.reduceBEq, reduceEqDiff, reduceAdd, reduceSub, reduceLT, reduceLeDiff, reduceMul]
 refine call_mk new_a rfl trivial ?_
 simp only [List.length_map, push_cast, ↓reduceIte, reduceCtorEq, Nat.reduceBEq, reduceEqDiff, reduceAdd, reduceSub, reduceLT, reduceLeDiff, reduceMul]
 refine run_loop [(3, false), (7, false), (8, false), (9, false)] (fun vs pos los => ∃ (i : Nat) (L : List Pt), i ≤ l.length ∧ ofL l = (l.drop i).foldl stepL L ∧ vs = [.ptr 2000000 0 0, .r (pts l), int .i64 l.length, int .i64 i] ∧ pos = [] ∧ los = [.abs (sT L)])
  (fun vs _ _ => match vs with | [_, _, _, .r (.v (.int _ j))] => (l.length - j).toNat | _ => 0) rfl ?_ ?_
 ·simp only [pts, push_cast, ↓reduceIte, reduceCtorEq, Nat.reduceBEq, reduceEqDiff, reduceAdd, reduceSub, reduceLT, reduceLeDiff, reduceMul]
  exact ⟨0, [], by omega, rfl, by simp⟩
 ·rintro vs pos los ⟨i, L, hi, hf, rfl, rfl, rfl⟩
  simp only [pts, List.length_map, push_cast, ↓reduceIte, reduceCtorEq, Nat.reduceBEq, reduceEqDiff, reduceAdd, reduceSub, reduceLT, reduceLeDiff, reduceMul]
  refine cnd_mk (fun h => ?_) (fun h => ?_)
  ·have h' : i < l.length := by simpa using h
   obtain ⟨p, hp⟩ : ∃ p, l[i]? = some p := ⟨l[i], by simp [h']⟩
   have hd : l.drop i = p :: l.drop (i + 1) := by
    rw [List.drop_eq_getElem_cons h', (List.getElem?_eq_some_iff.1 hp).2]
   have hj1 : IntKind.i64.wrap ((i : Int) + 1) = (i : Int) + 1 := wrap_id ⟨by omega, by omega⟩
   simp only [pts_get hp, List.length_map, push_cast, ↓reduceIte, reduceCtorEq, Nat.reduceBEq, reduceEqDiff, reduceAdd, reduceSub, reduceLT, reduceLeDiff, reduceMul]
   refine And.intro ⟨by omega, by omega⟩ ?_
   refine call_as (as' := [.ptr 1000000 0 0, p.av]) rfl ?_
   refine call_mk (put_a L p) rfl ⟨rfl, trivial⟩ ?_
   simp only [hj1, push_cast, ↓reduceIte, reduceCtorEq, Nat.reduceBEq, reduceEqDiff, reduceAdd, reduceSub, reduceLT, reduceLeDiff, reduceMul]
   refine ⟨⟨i + 1, stepL L p, by omega, by rw [hf, hd]; rfl, rfl, by simp [stepL]⟩, by omega⟩
  ·have h' : ¬ i < l.length := by simpa using h
   simp only [push_cast, ↓reduceIte, reduceCtorEq, Nat.reduceBEq, reduceEqDiff, reduceAdd, reduceSub, reduceLT, reduceLeDiff, reduceMul]
   rw [hf, List.drop_eq_nil_of_le (by omega)]
   rfl

noncomputable def apiarylaw18_Points_pc : PC :=
  (.seq (.reg [p_s 2 (.mov (.c (.nils 4 (.agg [(.v (.int .i64 0)), (.v (.int .i64 0)), (.v (.int .i64 0)), (.v (.int .i64 0))]))))])
 (.seq (.reg [p_s 3 (.mov (.c (.nils 4 (.agg [(.v (.int .i64 0)), (.v (.int .i64 0)), (.v (.int .i64 0)), (.v (.int .i64 0))]))))])
 (.seq (.seq (.reg [p_s 4 (.mov (o_i 0))])
 (.block 0 (.loop (.seq (.seq (.reg [p_m 8 4, p_s 9 (.bin .add (.t 8) (o_i 1)), p_m 10 0, p_s 11 (.len false (.t 10)), p_s 12 (.bin .lss (.t 9) (.t 11)), p_m 13 12, p_g 14 13 true (.mov (.t 4)), p_g 15 13 true (.bin .lss (.t 14) (o_i 80)),
 p_s 16 (.pick (.t 13) (.t 15) (.c (.r (.v (.bool false)))))])
 (.cond (.t 16)
 .skip
 (.exit 0)))
 (.seq (.block 1 (.seq (.drw [p_m 19 0, p_m 20 4, p_s 21 (.ia 1 (.v (.int .i64 0)) (.t 19) (.t 20)), p_s 22 (.ld none (.t 21)), p_s 23 (.bin .and (.t 22) (o_i 1073741823)), p_m 24 0, p_m 25 4,
 p_s 26 (.bin .add (.t 25) (o_i 1)), p_s 27 (.ia 1 (.v (.int .i64 0)) (.t 24) (.t 26)), p_s 28 (.ld none (.t 27)), p_s 29 (.bin .and (.t 28) (o_i 1073741823)), p_m 5 23,
 p_m 6 29]
 [[], [], [0, 1], [0, 1, 2], [0, 1, 2, 3], [], [], [6], [5, 6, 7], [5, 6, 7, 8], [5, 6, 7, 8, 9], [0, 1, 2, 3, 4], [0, 1, 2, 3, 4, 5, 6, 7, 8, 9, 10, 11]])
 (.seq (.seq (.reg [p_m 30 4, p_s 31 (.bin .gtr (.t 30) (o_i 0)), p_m 32 31, p_g 33 32 true (.mov (.t 0)), p_g 34 32 true (.mov (.t 4)), p_g 35 32 true (.ia 1 (.v (.int .i64 0)) (.t 33) (.t 34)),
 p_g 36 32 true (.ld none (.t 35)), p_g 37 32 true (.bin .shr (.t 36) (.c (.r (.v (.int .u64 40))))), p_g 38 32 true (.bin .and (.t 37) (o_i 3)), p_g 39 32 true (.bin .neq (.t 38) (o_i 0)),
 p_s 40 (.pick (.t 32) (.t 39) (.c (.r (.v (.bool false)))))])
 (.cond (.t 40)
 (.seq (.reg [p_m 41 3, p_m 42 3, p_s 43 (.len false (.t 42)), p_s 44 (.bin .sub (.t 43) (o_i 1)), p_s 45 (.ia 4 (.agg [(.v (.int .i64 0)), (.v (.int .i64 0)), (.v (.int .i64 0)), (.v (.int .i64 0))]) (.t 41) (.t 44)),
 p_s 46 (.ld (some 4) (.t 45)), p_a 7 (.new [(.r (.v (.int .i64 0))), (.r (.v (.int .i64 0))), (.r (.v (.int .i64 0))), (.r (.v (.int .i64 0)))]), ⟨none, none, 0, .act (.st 4 (.t 7) (.t 46))⟩])
 (.drw [p_s 47 (.fa 1 (.t 7)), p_s 48 (.ld none (.t 47)), p_m 49 0, p_m 50 4, p_s 51 (.ia 1 (.v (.int .i64 0)) (.t 49) (.t 50)), p_s 52 (.ld none (.t 51)), p_s 53 (.bin .and (.t 52) (o_i 1023)),
 p_s 54 (.bin .add (.t 48) (.t 53)), p_s 55 (.mm false (.t 54) [(o_i 1073741823)]), p_s 56 (.fa 2 (.t 7)), p_s 57 (.ld none (.t 56)), p_m 58 0, p_m 59 4, p_s 60 (.bin .add (.t 59) (o_i 1)),
 p_s 61 (.ia 1 (.v (.int .i64 0)) (.t 58) (.t 60)), p_s 62 (.ld none (.t 61)), p_s 63 (.bin .and (.t 62) (o_i 1023)), p_s 64 (.bin .add (.t 57) (.t 63)), p_s 65 (.mm false (.t 64) [(o_i 1073741823)]),
 p_m 5 55, p_m 6 65]
 [[], [0], [], [], [2, 3], [2, 3, 4], [2, 3, 4, 5], [0, 1, 2, 3, 4, 5, 6], [0, 1, 2, 3, 4, 5, 6, 7], [], [9], [], [], [12], [11, 12, 13], [11, 12, 13, 14], [11, 12, 13, 14, 15], [9, 10, 11, 12, 13, 14, 15, 16], [9, 10, 11, 12, 13, 14, 15, 16, 17], [0, 1, 2, 3, 4, 5, 6, 7, 8], [0, 1, 2, 3, 4, 5, 6, 7, 8, 9, 10, 11, 12, 13, 14, 15, 16, 17, 18, 19]]))
 .skip))
 (.reg [p_m 66 3, p_m 67 4, p_s 68 (.bin .quo (.t 67) (o_i 2)), p_s 69 (.bin .add (.t 68) (o_i 1)), p_m 70 5, p_m 71 6, p_m 72 0, p_m 73 4, p_s 74 (.bin .add (.t 73) (o_i 1)),
 p_s 75 (.ia 1 (.v (.int .i64 0)) (.t 72) (.t 74)), p_s 76 (.ld none (.t 75)), p_s 77 (.bin .shr (.t 76) (.c (.r (.v (.int .u64 30))))), p_s 78 (.bin .and (.t 77) (o_i 255)),
 p_s 79 (.bin .sub (.t 78) (o_i 99)), p_s 80 (.build [(.r (.v (.int .i64 0))), (.r (.v (.int .i64 0))), (.r (.v (.int .i64 0))), (.r (.v (.int .i64 0)))] [(0, 1, (.t 69)), (1, 1, (.t 70)), (2, 1, (.t 71)), (3, 1, (.t 79))]),
 p_a 81 (.bsl 4 (.agg [(.v (.int .i64 0)), (.v (.int .i64 0)), (.v (.int .i64 0)), (.v (.int .i64 0))]) [(.t 80)]), p_a 82 (.app 4 (.agg [(.v (.int .i64 0)), (.v (.int .i64 0)), (.v (.int .i64 0)), (.v (.int .i64 0))]) 32 (.t 66) (.t 81)),
 p_m 3 82]))))
 (.reg [p_m 17 4, p_s 18 (.bin .add (.t 17) (o_i 2)), p_m 4 18]))))))
 (.seq (.reg [p_m 83 3, p_m 2 83])
 .ret))))
theorem apiarylaw18_Points_triple : Fun Go.Proofs.Tryz.prog 14 1 [(2, false, none)] apiarylaw18_Points_pc := fun_mk Go.Proofs.Tryz.func14 rfl (by decide) (by kernel_rfl) (by decide) rfl (by kernel_rfl) (by kernel_rfl) (by decide)
def i64s (xs : List Int) : RV := .sl 1 (xs.map fun x => .v (.int .i64 x))
theorem i64s_get {xs : List Int} {i : Nat} {x : Int} (h : xs[i]? = some x) (z : RV) : (xs.map fun x => RV.v (.int .i64 x)).getD ((i : Int)).toNat z = .v (.int .i64 x) := by
 simp [List.getD, h]
def gPt (a b : Int) (l : List Pt) : Pt := match l.getLast? with
 | some p => if a / 1099511627776 % 4 ≠ 0 then ⟨l.length + 1, min (p.x + a % 1024) 1073741823, min (p.y + b % 1024) 1073741823, b / 1073741824 % 256 - 99⟩ else ⟨l.length + 1, a % 1073741824, b % 1073741824, b / 1073741824 % 256 - 99⟩
 | none => ⟨l.length + 1, a % 1073741824, b % 1073741824, b / 1073741824 % 256 - 99⟩
def genL : List Int → List Pt → List Pt
 | a :: b :: r, l => if l.length < 40 then genL r (l ++ [gPt a b l]) else l
 | _, l => l
def GP (l : List Pt) : Prop := ∀ (j : Nat) (p : Pt), l[j]? = some p → p.k = (j : Int) + 1 ∧ p.ok
theorem gPt_k (a b : Int) (l : List Pt) : (gPt a b l).k = (l.length : Int) + 1 := by
 unfold gPt
 split
 ·split <;> rfl
 ·rfl
theorem gPt_ok {a b : Int} {l : List Pt} (h : GP l) (hl : l.length < 40) : (gPt a b l).ok := by
 unfold gPt
 split
 ·rename_i p hp
  rw [List.getLast?_eq_getElem?] at hp
  have := (h _ p hp).2.2.1
  unfold inW at this
  split
  ·refine ⟨by simp only; omega, ?_, by simp only; omega⟩
   simp only [inW]
   omega
  ·refine ⟨by simp only; omega, ?_, by simp only; omega⟩
   simp only [inW]
   omega
 ·refine ⟨by simp only; omega, ?_, by simp only; omega⟩
  simp only [inW]
  omega
theorem gp_add {a b : Int} {l : List Pt} (h : GP l) (hl : l.length < 40) : GP (l ++ [gPt a b l]) := by
 intro j p hp
 rcases Nat.lt_trichotomy j l.length with hj | hj | hj
 ·rw [List.getElem?_append_left hj] at hp
  exact h j p hp
 ·subst hj
  rw [List.getElem?_append_right (Nat.le_refl _), Nat.sub_self] at hp
  simp at hp
  subst hp
  exact ⟨gPt_k .., gPt_ok h hl⟩
 ·rw [List.getElem?_eq_none (by simp; omega)] at hp
  cases hp
theorem m30 (a : Int) : IntKind.i64.wrap ((BitVec.ofInt IntKind.i64.bits a &&& BitVec.ofInt IntKind.i64.bits 1073741823).toNat) = a % 1073741824 := and_mask a 1073741823 30 (by decide) (by decide)
theorem m8 (a : Int) : IntKind.i64.wrap ((BitVec.ofInt IntKind.i64.bits a &&& BitVec.ofInt IntKind.i64.bits 255).toNat) = a % 256 := and_mask a 255 8 (by decide) (by decide)
theorem m2 (a : Int) : IntKind.i64.wrap ((BitVec.ofInt IntKind.i64.bits a &&& BitVec.ofInt IntKind.i64.bits 3).toNat) = a % 4 := and_mask a 3 2 (by decide) (by decide)
theorem m10 (a : Int) : IntKind.i64.wrap ((BitVec.ofInt IntKind.i64.bits a &&& BitVec.ofInt IntKind.i64.bits 1023).toNat) = a % 1024 := and_mask a 1023 10 (by decide) (by decide)
theorem sh30 (b : Int) : b.fdiv (2 ^ min (Int.toNat 30) IntKind.i64.bits) = b / 1073741824 := Int.fdiv_eq_ediv_of_nonneg b (by decide)
theorem sh40 (b : Int) : b.fdiv (2 ^ min (Int.toNat 40) IntKind.i64.bits) = b / 1099511627776 := Int.fdiv_eq_ediv_of_nonneg b (by decide)
theorem w99 (b : Int) : IntKind.i64.wrap (b % 256 - 99) = b % 256 - 99 := wrap_id (by omega)
theorem gen_t (xs : List Int) (hx : ∀ x ∈ xs, -9223372036854775808 ≤ x ∧ x ≤ 9223372036854775807) {res : AV} {ro : List Ob}
    (hres : (genL xs [] = [] ∧ res = .nils 4 (Pt.rv ⟨0, 0, 0, 0⟩) ∧ ro = []) ∨ (genL xs [] ≠ [] ∧ res = .own 1000000 0 0 (genL xs []).length ∧ ro = [.row 4 (Pt.rv ⟨0, 0, 0, 0⟩) true true ((genL xs []).map Pt.rv)])) :
    Triple Go.Proofs.Tryz.prog 14 [.r (i64s xs)] [] res ro := by
  refine apiarylaw18_Points_triple rfl (by decide) ?_
  have hml : 100 ≤ maxLen := by decide
  simp only [apiarylaw18_Points_pc, i64s, List.length_nil, List.length_map, push_cast, ↓reduceIte, reduceCtorEq, Nat.reduceBEq, reduceEqDiff, reduceAdd, reduceSub, reduceLT, reduceLeDiff, reduceMul]
  refine run_loop [(4, false), (0, false), (3, false)] (fun vs pos los => ∃ (i : Nat) (acc : List Pt), i = 2 * acc.length ∧ i ≤ 80 ∧ GP acc ∧ genL xs [] = genL (xs.drop i) acc ∧ (acc = [] ∧ vs = [int .i64 i, .r (i64s xs), .nils 4 (Pt.rv ⟨0, 0, 0, 0⟩)] ∧ pos = [] ∧ los = [] ∨
     acc ≠ [] ∧ vs = [int .i64 i, .r (i64s xs), .own 2000000 0 0 acc.length] ∧ pos = [] ∧ los = [.row 4 (Pt.rv ⟨0, 0, 0, 0⟩) true true (acc.map Pt.rv)]))
    (fun vs _ _ => match vs with | .r (.v (.int _ j)) :: _ => (80 - j).toNat | _ => 0) rfl ?_ ?_
  · simp only [i64s, Pt.rv, push_cast, ↓reduceIte, reduceCtorEq, Nat.reduceBEq, reduceEqDiff, reduceAdd, reduceSub, reduceLT, reduceLeDiff, reduceMul]
    exact ⟨0, [], rfl, by omega, by simp [GP], rfl, .inl ⟨rfl, rfl⟩⟩
  · rintro vs pos los ⟨i, acc, hi, h80, hgp, hg, hcase⟩
    have w1 : IntKind.i64.wrap ((i : Int) + 1) = (i : Int) + 1 := wrap_id (by omega)
    have w2 : IntKind.i64.wrap ((i : Int) + 2) = (i : Int) + 2 := wrap_id (by omega)
    rcases hcase with ⟨rfl, rfl, rfl, rfl⟩ | ⟨h0, rfl, rfl, rfl⟩
    · have hi' : i = 0 := hi
      have hi0 : decide ((i : Int) > 0) = false := by simp at hi ⊢; omega
      simp only [i64s, Pt.rv, List.length_map, w1, w2, hi0, push_cast, ↓reduceIte, reduceCtorEq, Nat.reduceBEq, reduceEqDiff, reduceAdd, reduceSub, reduceLT, reduceLeDiff, reduceMul]
      refine cnd_mk (fun h => ?_) (fun h => ?_)
      · have h8 : i < 80 := by
          simp at h
          omega
        have h' : i + 1 < xs.length := by
          simp at h
          omega
        obtain ⟨a, ha⟩ : ∃ a, xs[i]? = some a := ⟨xs[i], by simp⟩
        obtain ⟨b, hb⟩ : ∃ b, xs[i + 1]? = some b := ⟨xs[i + 1], by simp [h']⟩
        have ga : ∀ z, (xs.map fun x => RV.v (.int .i64 x)).getD ((i : Int)).toNat z = .v (.int .i64 a) := i64s_get ha
        have gb : ∀ z, (xs.map fun x => RV.v (.int .i64 x)).getD ((i : Int) + 1).toNat z = .v (.int .i64 b) := fun z => by simpa using i64s_get hb z
        have d1 : IntKind.i64.wrap (IntKind.i64.wrap ((i : Int).tdiv 2) + 1) = 1 := by simp at hi; subst hi; decide
        simp only [w1, w2, hi0, ga, gb, d1, m30, m8, sh30, w99, List.length_map, push_cast, ↓reduceIte, reduceCtorEq, Nat.reduceBEq, reduceEqDiff, reduceAdd, reduceSub, reduceLT, reduceLeDiff, reduceMul]
        have hd : xs.drop i = a :: b :: xs.drop (i + 2) := by
          rw [List.drop_eq_getElem_cons (by omega), (List.getElem?_eq_some_iff.1 ha).2, List.drop_eq_getElem_cons h', (List.getElem?_eq_some_iff.1 hb).2]
        repeat refine And.intro (by first | decide | omega | (simp +contextual; done) | kernel_rfl) ?_
        refine ⟨⟨i + 2, [gPt a b []], by rw [show i = 0 from hi]; rfl, by rw [show i = 0 from hi]; decide, gp_add hgp (by decide), ?_, .inr ⟨by simp, rfl, rfl⟩⟩, by omega⟩
        rw [hg, hd, genL, if_pos (by simp)]
        rfl
      · have h' : ¬ i + 1 < xs.length := by
          intro h'
          simp at h
          have := h (by omega)
          omega
        have hgn : genL xs [] = [] := by
          rw [hg]
          have : i = 0 := hi
          subst this
          rcases xs with _ | ⟨a, _ | ⟨b, r⟩⟩
          · rfl
          · rfl
          · simp at h'
        rcases hres with ⟨_, rfl, rfl⟩ | ⟨hn, _, _⟩
        · simp only [Pt.rv, push_cast, ↓reduceIte, reduceCtorEq, Nat.reduceBEq, reduceEqDiff, reduceAdd, reduceSub, reduceLT, reduceLeDiff, reduceMul]
        · exact absurd hgn hn
    · obtain ⟨q, hq⟩ : ∃ q, acc.getLast? = some q := ⟨acc.getLast h0, List.getLast?_eq_some_getLast h0⟩
      have hp0 : 0 < acc.length := List.length_pos_iff.2 h0
      have hi0 : decide ((i : Int) > 0) = true := by simp; omega
      have hqa : acc[acc.length - 1]? = some q := by rw [← List.getLast?_eq_getElem?]; exact hq
      have lw : IntKind.i64.wrap ((acc.length : Int) - 1) = ((acc.length - 1 : Nat) : Int) := by rw [wrap_id (by omega)]; omega
      have gq : ∀ z, (acc.map Pt.rv).getD (((acc.length - 1 : Nat) : Int)).toNat z = .agg [.v (.int .i64 q.k), .v (.int .i64 q.x), .v (.int .i64 q.y), .v (.int .i64 q.v)] := pts_get hqa
      have gq' : ∀ z, (acc.map Pt.rv).getD (0 + (((acc.length - 1 : Nat) : Int)).toNat) z = .agg [.v (.int .i64 q.k), .v (.int .i64 q.x), .v (.int .i64 q.y), .v (.int .i64 q.v)] := fun z => by rw [Nat.zero_add]; exact gq z
      simp only [i64s, Pt.rv, List.length_map, w1, w2, hi0, lw, gq, gq', push_cast, ↓reduceIte, reduceCtorEq, Nat.reduceBEq, reduceEqDiff, reduceAdd, reduceSub, reduceLT, reduceLeDiff, reduceMul]
      refine cnd_mk (fun h => ?_) (fun h => ?_)
      · have h8 : i < 80 := by
          simp at h
          omega
        have h' : i + 1 < xs.length := by
          simp at h
          omega
        obtain ⟨a, ha⟩ : ∃ a, xs[i]? = some a := ⟨xs[i], by simp⟩
        obtain ⟨b, hb⟩ : ∃ b, xs[i + 1]? = some b := ⟨xs[i + 1], by simp [h']⟩
        have ga : ∀ z, (xs.map fun x => RV.v (.int .i64 x)).getD ((i : Int)).toNat z = .v (.int .i64 a) := i64s_get ha
        have gb : ∀ z, (xs.map fun x => RV.v (.int .i64 x)).getD ((i : Int) + 1).toNat z = .v (.int .i64 b) := fun z => by simpa using i64s_get hb z
        have d1 : IntKind.i64.wrap (IntKind.i64.wrap ((i : Int).tdiv 2) + 1) = acc.length + 1 := by
          rw [show (i : Int).tdiv 2 = acc.length by rw [hi]; simp, show IntKind.i64.wrap (acc.length : Int) = acc.length from wrap_id (by omega)]
          exact wrap_id (by omega)
        have hd : xs.drop i = a :: b :: xs.drop (i + 2) := by
          rw [List.drop_eq_getElem_cons (by omega), (List.getElem?_eq_some_iff.1 ha).2, List.drop_eq_getElem_cons h', (List.getElem?_eq_some_iff.1 hb).2]
        simp only [w1, w2, hi0, ga, gb, d1, m30, m8, m2, sh30, sh40, w99, List.length_map, push_cast, ↓reduceIte, reduceCtorEq, Nat.reduceBEq, reduceEqDiff, reduceAdd, reduceSub, reduceLT, reduceLeDiff, reduceMul]
        repeat refine And.intro (by first | decide | omega | (simp +contextual; done) | kernel_rfl) ?_
        have hq1 := (hgp _ q hqa).2.2.1
        unfold inW at hq1
        have wx : IntKind.i64.wrap (q.x + a % 1024) = q.x + a % 1024 := wrap_id (by omega)
        have wy : IntKind.i64.wrap (q.y + b % 1024) = q.y + b % 1024 := wrap_id (by omega)
        refine cnd_mk (fun hc => ?_) (fun hc => ?_)
        · simp only [wx, wy, w1, w2, hi0, lw, gq, gq', ga, gb, d1, m30, m8, m2, m10, sh30, sh40, w99, List.length_map, push_cast, ↓reduceIte, reduceCtorEq, Nat.reduceBEq, reduceEqDiff, reduceAdd, reduceSub, reduceLT, reduceLeDiff, reduceMul]
          repeat refine And.intro (by first | decide | omega | (simp +contextual; done) | kernel_rfl) ?_
          refine ⟨⟨i + 2, acc ++ [gPt a b acc], by simp; omega, by omega, gp_add hgp (by omega), ?_, .inr ⟨by simp, ?_⟩⟩, by omega⟩
          · rw [hg, hd, genL, if_pos (by omega)]
          · have hcc : a / 1099511627776 % 4 ≠ 0 := by simpa using hc
            simp [gPt, hq, hcc, Pt.rv]
        · simp only [w1, w2, hi0, lw, gq, gq', ga, gb, d1, m30, m8, m2, sh30, sh40, w99, List.length_map, push_cast, ↓reduceIte, reduceCtorEq, Nat.reduceBEq, reduceEqDiff, reduceAdd, reduceSub, reduceLT, reduceLeDiff, reduceMul]
          repeat refine And.intro (by first | decide | omega | (simp +contextual; done) | kernel_rfl) ?_
          refine ⟨⟨i + 2, acc ++ [gPt a b acc], by simp; omega, by omega, gp_add hgp (by omega), ?_, .inr ⟨by simp, ?_⟩⟩, by omega⟩
          · rw [hg, hd, genL, if_pos (by omega)]
          · have hcc : ¬ a / 1099511627776 % 4 ≠ 0 := by simpa using hc
            simp [gPt, hq, hcc, Pt.rv]
      · have h' : ¬ (i + 1 < xs.length ∧ i < 80) := by
          rintro ⟨h1, h2⟩
          simp at h
          have := h (by omega)
          omega
        have hgn : genL xs [] = acc := by
          rw [hg]
          rcases hx' : xs.drop i with _ | ⟨a, _ | ⟨b, r⟩⟩
          · rfl
          · rfl
          · have := congrArg List.length hx'
            simp at this
            rw [genL, if_neg (by omega)]
        rcases hres with ⟨hn, _, _⟩ | ⟨_, rfl, rfl⟩
        · exact absurd (hgn.symm.trans hn) h0
        · rw [hgn]
          simp only [Pt.rv, push_cast, ↓reduceIte, reduceCtorEq, Nat.reduceBEq, reduceEqDiff, reduceAdd, reduceSub, reduceLT, reduceLeDiff, reduceMul]
theorem genL_gp : ∀ (xs : List Int) (l : List Pt), GP l → GP (genL xs l)
 | [], l, h => h
 | [_], l, h => h
 | a :: b :: r, l, h => by
  rw [genL]
  split
  ·exact genL_gp r _ (gp_add h (by assumption))
  ·exact h
theorem genL_le : ∀ (xs : List Int) (l : List Pt), l.length ≤ 40 → (genL xs l).length ≤ 40
 | [], l, h => h
 | [_], l, h => h
 | a :: b :: r, l, h => by
  rw [genL]
  split
  ·exact genL_le r _ (by simp; omega)
  ·exact h
theorem points_t (xs : List Int) (hx : ∀ x ∈ xs, -9223372036854775808 ≤ x ∧ x ≤ 9223372036854775807) :
  Triple Go.Proofs.Tryz.prog 14 [.r (i64s xs)] [] (.own 1000000 0 0 (genL xs []).length) [.row 4 (Pt.rv ⟨0, 0, 0, 0⟩) true true ((genL xs []).map Pt.rv)] := by
 by_cases h : genL xs [] = []
 ·rw [h]
  exact nil_own (gen_t xs hx (.inl ⟨h, rfl, rfl⟩))
 ·exact gen_t xs hx (.inr ⟨h, rfl, rfl⟩)


theorem gp_of {l : List Pt} (h : GP l) (hl : l.length ≤ 1000) : ofL l = l := by
 have key : ∀ (r acc : List Pt), l = acc ++ r → r.foldl stepL acc = l := by
  intro r
  induction r with
  | nil => intro acc e; simpa using e.symm
  | cons p r ih =>
   intro acc e
   have hp := h acc.length p (by rw [e]; simp)
   have hno : has acc p.k = false := by
    rw [has_not]
    intro q hq e2
    obtain ⟨j, hj⟩ := List.getElem?_of_mem hq
    have hjl := (List.getElem?_eq_some_iff.1 hj).1
    have := (h j q (by rw [e, List.getElem?_append_left hjl]; exact hj)).1
    omega
   have hlen : acc.length < 2000 := by rw [e] at hl; simp at hl; omega
   have hs : stepL acc p = acc ++ [p] := by
    unfold stepL
    rw [show canPut acc p = true by simp [canPut, hp.2, hlen], if_pos rfl]
    unfold plusP
    rw [without_no hno]
   rw [List.foldl_cons, hs]
   exact ih (acc ++ [p]) (by rw [e]; simp)
 exact key l [] rfl


end Go.Ev

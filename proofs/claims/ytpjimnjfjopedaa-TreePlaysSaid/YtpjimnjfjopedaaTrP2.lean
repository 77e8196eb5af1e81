import Derived.Test.YtpjimnjfjopedaaTrF
import Derived.Deep.RegionLaw
import Derived.Deep.RegionHeld3
namespace Go.Ev
open Go Go.RowKit
set_option linter.unnecessarySimpa false
set_option linter.unusedSimpArgs false
set_option linter.unusedVariables false
set_option maxRecDepth 100000
theorem info_key : (Go.Proofs.Try.prog.info? 24).map (fun i => (i.zero, i.size, i.bytes)) = some (some (.agg #[.int .u64 0, .int .i64 0, .int .i64 0]), 3, 24) := by kernel_rfl
theorem info_row : (Go.Proofs.Try.prog.info? 28).map (fun i => (i.zero, i.size, i.bytes)) = some (some (.slice none 0 0), 1, 24) := by kernel_rfl
theorem info_of {P : Program} {t : TypeId} {z : Option Value} {s b : Nat} (h : (P.info? t).map (fun i => (i.zero, i.size, i.bytes)) = some (z, s, b)) : ∃ i, P.info? t = some i ∧ i.zero = z ∧ i.size = s ∧ i.bytes = b := by
  rcases hi : P.info? t with _ | i
  · rw [hi] at h; simp at h
  · rw [hi] at h
    simp at h
    exact ⟨i, rfl, h.1, h.2.1, h.2.2⟩
theorem step_of {P : Program} {ops : Array Oper} {o : Oper} {a : Act} {w : World} {K : Act → World → Prop} {Q : Exit → Act → World → Prop} {E : Prop} (hgd : o.guard = none) (h : Oper.wp P o a w K Q) : if Region.wanted o (yielded ops a.tmps) = true then Oper.wp P o a w K Q else E := by
  rw [if_pos (by simp [Region.wanted, hgd])]
  exact h
theorem halt_ {p : Prop} (h : Unit → p) : p := h ()
set_option maxHeartbeats 2000000 in
theorem put2_w {w : World} {b cap : Nat} {og : Option Nat} {gs : List Nat} {ns : List (List Ky)} {n : Int} (h : TL w b og gs cap ns n) (k : Ky) (r s : Nat) (l : List Ky) (hN : Nod ns k r) (hl : ns[r - 1]? = some l) (hP : Plc l k s) (hs : l[s]? ≠ some k) (hlen : l.length < 32) (hn0 : 0 ≤ n) (hn1 : n < 9223372036854775807) :
    Calls Go.Proofs.Try.prog 12 #[.pointer (some ⟨b, 0, none⟩), k.val] w fun e w' => e = .returned (.bool true) ∧
    ∃ gs', TL w' b og gs' cap (ns.set (r - 1) (l.take s ++ k :: l.drop s)) (n + 1) ∧ Keeps (Ft b og gs) w w' ∧ ∀ x, Ft b og gs' x → Ft b og gs x ∨ w.heap.size ≤ x := by
  obtain ⟨g, rfl⟩ := h.some_ hl
  have hat : r - 1 < ns.length := (List.getElem?_eq_some_iff.1 hl).1
  generalize hr : r - 1 = i at *
  obtain ⟨c0, c1, f0, f1, hlt⟩ := h.root
  have hne : ((ns.length : Int) == 0) = false := by rw [beq_eq_false_iff_ne]; omega
  have hk0 : ∀ x, Keeps (fun _ => False) w (w.alloc x) := fun x => keeps_al
  have i0 : (0 : Int) ≤ (i : Int) := by omega
  have i1 : (i : Int) < (ns.length : Int) := by omega
  obtain ⟨iK, hiK, hzK, hsK, hbK⟩ := info_of info_key
  simp only [Ky.val]
  go_enter Go.Proofs.Try.func12, Go.Proofs.Try.ntmps12
  go_wp2_with fail
  have h1 := h.keeps (hk0 (.cells #[.int .u64 k.c, .int .i64 k.v, .int .i64 k.d] 24)) (fun _ _ q => q)
  have b1 : KB (w.alloc (.cells #[.int .u64 k.c, .int .i64 k.v, .int .i64 k.d] 24)) w.heap.size k := al_new rfl
  refine (node_w h1 k r hN).mono ?_
  rintro e w2 ⟨rfl, hK2⟩
  rw [hr]
  have h2 := h1.keeps (hK2 fun _ => False) (fun _ _ q => q)
  have b2 := b1.keeps (hK2 fun _ => False) (fun q => q)
  obtain ⟨d0, d1, f2, f3, _⟩ := h2.root
  obtain ⟨g', c, hg', hrow, d2, f4⟩ := h2.node hl
  obtain ⟨k0, k1, k2⟩ := b2.cells
  go_wp2_with fail
  refine (find_w hrow k s hP).mono ?_
  rintro e w3 ⟨rfl, hK3⟩
  rw [decide_eq_false hs]
  have h3 := h2.keeps (hK3 fun _ => False) (fun _ _ q => q)
  have b3 := b2.keeps (hK3 fun _ => False) (fun q => q)
  have hrow3 : RowK w3 g' l c := hrow.loc ((hK3 fun _ => False).block g' hrow.lt fun q => q)
  clear d0 d1 f2 f3 d2 f4 k0 k1 k2
  obtain ⟨k0, k1, k2⟩ := b3.cells
  go_wp2_with (at_builtin; refine halt_ ?_)
  intro _
  obtain ⟨cs, e', hg3, hsz, hf, hlc, hc, hcm⟩ := hrow3
  have hl3 : g' < w3.heap.size := (Array.getElem?_eq_some_iff.1 hg3).1
  refine wpList_plain rfl fun K hK => wp_app (.tmp 41) (.tmp 43) _ _ rfl Go.Proofs.Try.underlying28 Go.Proofs.Try.underlying28 hiK hzK (by rw [hsK]; rfl) hsK hbK g' l.length c rfl hc (by rw [al_old hl3]; exact hg3) hsz hlc rfl (kc k)
    (fc_block (al_new rfl) rfl fun j u hj => by simpa [kc] using hj) rfl (by simp [kc, Value.oneCell']) (by simp only [maxLen]; omega) hcm (by omega) ?_
  intro g2 cap2 cs2 e2 w4 hor hc2 hlc2 hcm2 hg4 hsz2 hf2 hK4
  refine hK _ _ ?_
  have hsl : s ≤ l.length := hP.le
  have w1 : IntKind.i64.wrap ((s : Int) + 1) = (s : Int) + 1 := wrap_id ⟨by omega, by omega⟩
  have j0 : (0 : Int) ≤ (s : Int) := by omega
  have j1 : (s : Int) ≤ (l.length : Int) + 1 := by omega
  have j2 : (0 : Int) ≤ (s : Int) + 1 := by omega
  have j3 : (s : Int) + 1 ≤ (l.length : Int) + 1 := by omega
  go_wp2_with fail
  have hpre : (flat l ++ kc k) <+: cs2.toList := by
    exact pre_app (flat_length l) hf (fun j hj => hf2 j (by rw [show (kc k).length = 3 from rfl] at hj; omega)) (by rw [show (kc k).length = 3 from rfl]; omega)
  have hone : ∀ u ∈ (cs2.toList.drop (s * 3)).take ((l.length - s) * 3), u.oneCell' = true := seg_one hpre (fun u hu => by
    rcases List.mem_append.1 hu with hu | hu
    · exact flat_one u hu
    · simp [kc] at hu; rcases hu with rfl | rfl | rfl <;> rfl) (by rw [List.length_append, flat_length, show (kc k).length = 3 from rfl]; omega)
  go_region_held3 (fun _ => True) (trivial) ((refine step_of rfl (wp_cpy (.tmp 48) (.tmp 51) _ _ rfl Go.Proofs.Try.underlying28 hiK hsK g2 ((s + 1) * 3) (s * 3) (l.length - s) hg4 rfl rfl (by simp only [Nat.min_def]; split <;> omega) (fun hm => ⟨if_neg (by omega), if_neg (by omega)⟩) (by omega) (by omega) hone ?_); intro w5 hg5 hK5))
  have hnd := h.nb
  have hgm : g' ∈ gs := List.mem_of_getElem? hg'
  simp only [Option.toList_some, List.cons_append, List.nil_append, List.nodup_cons, List.mem_cons, not_or] at hnd
  obtain ⟨⟨n1, n2⟩, n3, n4⟩ := hnd
  have l1 := h.lt g (.inr (.inl rfl))
  have l2 := h.lt g' (.inr (.inr hgm))
  have z2 : w.heap.size + 1 ≤ w3.heap.size := by
    have a1 := (hK2 fun _ => False).size
    have a2 := (hK3 fun _ => False).size
    have a3 : (w.alloc (.cells #[.int .u64 k.c, .int .i64 k.v, .int .i64 k.d] 24)).heap.size = w.heap.size + 1 := sz_al
    omega
  have z3 : (w3.alloc (.cells #[.int .u64 k.c, .int .i64 k.v, .int .i64 k.d] 24)).heap.size = w3.heap.size + 1 := sz_al
  rw [z3] at hor
  have hg2b : ∀ x, x < w3.heap.size → x ≠ g' → x ≠ g2 := fun x h1 h2 h3 => by rcases hor with q | q <;> omega
  have hsame : ∀ x, x < w3.heap.size → x ≠ g' → w5.heap[x]? = w3.heap[x]? := fun x h1 h2 => by
    rw [hK5.block x (Nat.lt_of_lt_of_le (by rw [z3]; omega) hK4.size) (hg2b x h1 h2), show w4.drew.heap = w4.heap from rfl, hK4.block x (by rw [z3]; omega) h2, al_old h1]
  have m1 : b ≠ g' := fun q => n2 (q ▸ hgm)
  have m2 : g ≠ g' := fun q => n3 (q ▸ hgm)
  have hgb : ¬ b = g2 := hg2b b (by omega) m1
  have hgg : ¬ g = g2 := hg2b g (by omega) m2
  have hgh : ¬ w.heap.size = g2 := hg2b _ (by omega) (by omega)
  have hgb' : ¬ g2 = b := fun q => hgb q.symm
  have hgg' : ¬ g2 = g := fun q => hgg q.symm
  have hgh' : ¬ g2 = w.heap.size := fun q => hgh q.symm
  have hbg : ¬ b = g := n1
  have hbg' : ¬ g = b := fun q => n1 q.symm
  obtain ⟨p0, p1, q0, q1, _⟩ := h3.root
  obtain ⟨_, _, _, _, p2, q2⟩ := h3.node hl
  have e0 := (cell_same (hsame b (by omega) m1) 0).trans p0
  have e1 := (cell_same (hsame b (by omega) m1) 1).trans p1
  have r0 := (frozen_same (hsame b (by omega) m1) 0).trans q0
  have r1 := (frozen_same (hsame b (by omega) m1) 1).trans q1
  have e3 := (cell_same (hsame g (by omega) m2) i).trans p2
  have r2 := (frozen_same (hsame g (by omega) m2) i).trans q2
  have e4 := (cell_same (hsame w.heap.size (by omega) (by omega)) 0).trans k0
  have e5 := (cell_same (hsame w.heap.size (by omega) (by omega)) 1).trans k1
  have e6 := (cell_same (hsame w.heap.size (by omega) (by omega)) 2).trans k2
  have hz5 : (splice cs2.toList ((s + 1) * 3) ((cs2.toList.drop (s * 3)).take ((l.length - s) * 3))).toArray.size = cs2.size := by
    rw [List.size_toArray, splice_length (by simp; omega)]; simp
  obtain ⟨v0, e7⟩ := cell_in hg5 (o := s * 3) (by omega)
  obtain ⟨v1, e8⟩ := cell_in hg5 (o := s * 3 + 1) (by omega)
  obtain ⟨v2, e9⟩ := cell_in hg5 (o := s * 3 + 2) (by omega)
  have r3 := frozen_in (o := s * 3) hg5
  have r4 := frozen_in (o := s * 3 + 1) hg5
  have r5 := frozen_in (o := s * 3 + 2) hg5
  have wn : IntKind.i64.wrap (n + 1) = n + 1 := wrap_id ⟨by omega, by omega⟩
  have j4 : (s : Int) < (l.length : Int) + 1 := by omega
  have j5 : ¬ ((32 : Int) < (l.length : Int) + 1) := by omega
  clear k0 k1 k2 p0 p1 q0 q1 p2 q2
  go_wp2_with fail
  · go_ret
    obtain ⟨ho0, ho⟩ := h3.out g rfl
    obtain ⟨co, eo, hco1, hco2, hco4⟩ := ho
    obtain ⟨eb, heb⟩ := h3.hd
    have G0 := (hsame g (by omega) m2).trans hco1
    have B0 := (hsame b (by omega) m1).trans heb
    have G1 := sc_same (o := s * 3) (v := .int .u64 k.c) hg5
    have G2 := sc_same (o := s * 3 + 1) (v := .int .i64 k.v) G1
    have G3 := sc_same (o := s * 3 + 2) (v := .int .i64 k.d) G2
    have O1 : ∀ x, x ≠ g2 → (((w5.setCell ⟨g2, s * 3, none⟩ (.int .u64 k.c)).setCell ⟨g2, s * 3 + 1, none⟩ (.int .i64 k.v)).setCell ⟨g2, s * 3 + 2, none⟩ (.int .i64 k.d)).heap[x]? = w5.heap[x]? := fun x hx => by
      rw [sc_other G2 hx, sc_other G1 hx, sc_other hg5 hx]
    have K1 : Keeps (· = g2) w5 (((w5.setCell ⟨g2, s * 3, none⟩ (.int .u64 k.c)).setCell ⟨g2, s * 3 + 1, none⟩ (.int .i64 k.v)).setCell ⟨g2, s * 3 + 2, none⟩ (.int .i64 k.d)) := ((sc_keeps (I := (· = g2)) hg5 rfl).trans (sc_keeps (I := (· = g2)) G1 rfl)).trans (sc_keeps (I := (· = g2)) G2 rfl)
    generalize ((w5.setCell ⟨g2, s * 3, none⟩ (.int .u64 k.c)).setCell ⟨g2, s * 3 + 1, none⟩ (.int .i64 k.v)).setCell ⟨g2, s * 3 + 2, none⟩ (.int .i64 k.d) = w6 at *
    have C0 := (O1 g hgg).trans G0
    have C1 := (O1 b hgb).trans B0
    have hll : (l.take s ++ k :: l.drop s).length = l.length + 1 := by simp; omega
    have F1 := sc_same (o := i) (v := .slice (some ⟨g2, 0, none⟩) (l.length + 1) (s + 1)) C0
    have O2 : ∀ x, x ≠ g → (w6.setCell ⟨g, i, none⟩ (.slice (some ⟨g2, 0, none⟩) (l.length + 1) (s + 1))).heap[x]? = w6.heap[x]? := fun x hx => sc_other C0 hx
    have K2 := sc_keeps (o := i) (v := .slice (some ⟨g2, 0, none⟩) (l.length + 1) (s + 1)) (I := fun x => Ft b (some g) gs x ∨ w.heap.size ≤ x) C0 (.inl (.inr (.inl rfl)))
    generalize w6.setCell ⟨g, i, none⟩ (.slice (some ⟨g2, 0, none⟩) (l.length + 1) (s + 1)) = w7 at *
    have D1 := (O2 b hbg).trans C1
    have F2 := sc_same (o := 1) (v := .int .i64 (n + 1)) D1
    have O3 : ∀ x, x ≠ b → (w7.setCell ⟨b, 1, none⟩ (.int .i64 (n + 1))).heap[x]? = w7.heap[x]? := fun x hx => sc_other D1 hx
    have K3 := sc_keeps (o := 1) (v := .int .i64 (n + 1)) (I := fun x => Ft b (some g) gs x ∨ w.heap.size ≤ x) D1 (.inl (.inl rfl))
    generalize w7.setCell ⟨b, 1, none⟩ (.int .i64 (n + 1)) = w8 at *
    have hI2 : Ft b (some g) gs g2 ∨ w.heap.size ≤ g2 := by
      rcases hor with q | q
      · exact .inl (.inr (.inr (q ▸ hgm)))
      · exact .inr (by omega)
    refine ⟨rfl, gs.set i g2, h3.put hat ⟨eb, F2⟩ ⟨co, eo, hco1, ?_⟩ (c2 := (s + 1)) ?_ (fun j x hj hx => ?_) ?_, keeps_old ?_, fun x hx => ?_⟩
    · rw [O3 g hbg', F1, hll]
    · refine ⟨_, e2, by rw [O3 g2 hgb', O2 g2 hgg']; exact G3, by simp; simp at hz5; omega, ?_, by rw [hll]; omega, by omega, by omega⟩
      intro j u hj
      have hpi : _ <+: splice _ _ [Value.int .u64 k.c, Value.int .i64 k.v, Value.int .i64 k.d] := ins_cells hsl hpre
      rw [← set3 _ _ _ _ _ (by rw [splice_length (by simp; omega)]; simp; omega)] at hpi
      obtain ⟨t, ht⟩ := hpi
      have : j < (flat (l.take s ++ k :: l.drop s)).length := (List.getElem?_eq_some_iff.1 hj).1
      simp only [List.setIfInBounds_toArray, List.getElem?_toArray]
      rw [← ht, List.getElem?_append_left this]
      exact hj
    · have hxm : x ∈ gs := List.mem_of_getElem? hx
      have x1 : x ≠ b := fun q => n2 (q ▸ hxm)
      have x2 : x ≠ g := fun q => n3 (q ▸ hxm)
      have x3 : x ≠ g' := fun q => by
        subst q
        have := (List.getElem?_inj (List.getElem?_eq_some_iff.1 hx).1 n4).1 (hx.trans hg'.symm)
        exact hj this
      have x4 := h3.lt x (.inr (.inr hxm))
      rw [O3 x x1, O2 x x2, O1 x (hg2b x x4 x3), hsame x x4 x3]
    · rcases hor with q | q
      · exact .inl (q ▸ hg')
      · refine .inr ⟨hgb', hgg', fun hm => ?_⟩
        have := h3.lt g2 (.inr (.inr hm))
        omega
    · have kd : Keeps (fun x => Ft b (some g) gs x ∨ w.heap.size ≤ x) w4 w4.drew := ⟨rfl, rfl, rfl, Nat.le_refl _, fun _ _ _ => rfl⟩
      have k4 := hK4.mono (J := fun x => Ft b (some g) gs x ∨ w.heap.size ≤ x) fun x hx => .inl (.inr (.inr (hx ▸ hgm)))
      have k5 := hK5.mono (J := fun x => Ft b (some g) gs x ∨ w.heap.size ≤ x) fun x hx => hx ▸ hI2
      have k6 := K1.mono (J := fun x => Ft b (some g) gs x ∨ w.heap.size ≤ x) fun x hx => hx ▸ hI2
      exact (((((((((keeps_al.trans (hK2 _)).trans (hK3 _)).trans keeps_al).trans k4).trans kd).trans k5).trans k6).trans K2).trans K3)
    · rcases hx with q | q | q
      · exact .inl (.inl q)
      · exact .inl (.inr (.inl q))
      · rcases List.mem_or_eq_of_mem_set q with q | q
        · exact .inl (.inr (.inr q))
        · exact q ▸ hI2
  · go_ret
    obtain ⟨ho0, ho⟩ := h3.out g rfl
    obtain ⟨co, eo, hco1, hco2, hco4⟩ := ho
    obtain ⟨eb, heb⟩ := h3.hd
    have G0 := (hsame g (by omega) m2).trans hco1
    have B0 := (hsame b (by omega) m1).trans heb
    have G1 := sc_same (o := s * 3) (v := .int .u64 k.c) hg5
    have G2 := sc_same (o := s * 3 + 1) (v := .int .i64 k.v) G1
    have G3 := sc_same (o := s * 3 + 2) (v := .int .i64 k.d) G2
    have O1 : ∀ x, x ≠ g2 → (((w5.setCell ⟨g2, s * 3, none⟩ (.int .u64 k.c)).setCell ⟨g2, s * 3 + 1, none⟩ (.int .i64 k.v)).setCell ⟨g2, s * 3 + 2, none⟩ (.int .i64 k.d)).heap[x]? = w5.heap[x]? := fun x hx => by
      rw [sc_other G2 hx, sc_other G1 hx, sc_other hg5 hx]
    have K1 : Keeps (· = g2) w5 (((w5.setCell ⟨g2, s * 3, none⟩ (.int .u64 k.c)).setCell ⟨g2, s * 3 + 1, none⟩ (.int .i64 k.v)).setCell ⟨g2, s * 3 + 2, none⟩ (.int .i64 k.d)) := ((sc_keeps (I := (· = g2)) hg5 rfl).trans (sc_keeps (I := (· = g2)) G1 rfl)).trans (sc_keeps (I := (· = g2)) G2 rfl)
    generalize ((w5.setCell ⟨g2, s * 3, none⟩ (.int .u64 k.c)).setCell ⟨g2, s * 3 + 1, none⟩ (.int .i64 k.v)).setCell ⟨g2, s * 3 + 2, none⟩ (.int .i64 k.d) = w6 at *
    have C0 := (O1 g hgg).trans G0
    have C1 := (O1 b hgb).trans B0
    have hll : (l.take s ++ k :: l.drop s).length = l.length + 1 := by simp; omega
    have F1 := sc_same (o := i) (v := .slice (some ⟨g2, 0, none⟩) (l.length + 1) cap2) C0
    have O2 : ∀ x, x ≠ g → (w6.setCell ⟨g, i, none⟩ (.slice (some ⟨g2, 0, none⟩) (l.length + 1) cap2)).heap[x]? = w6.heap[x]? := fun x hx => sc_other C0 hx
    have K2 := sc_keeps (o := i) (v := .slice (some ⟨g2, 0, none⟩) (l.length + 1) cap2) (I := fun x => Ft b (some g) gs x ∨ w.heap.size ≤ x) C0 (.inl (.inr (.inl rfl)))
    generalize w6.setCell ⟨g, i, none⟩ (.slice (some ⟨g2, 0, none⟩) (l.length + 1) cap2) = w7 at *
    have D1 := (O2 b hbg).trans C1
    have F2 := sc_same (o := 1) (v := .int .i64 (n + 1)) D1
    have O3 : ∀ x, x ≠ b → (w7.setCell ⟨b, 1, none⟩ (.int .i64 (n + 1))).heap[x]? = w7.heap[x]? := fun x hx => sc_other D1 hx
    have K3 := sc_keeps (o := 1) (v := .int .i64 (n + 1)) (I := fun x => Ft b (some g) gs x ∨ w.heap.size ≤ x) D1 (.inl (.inl rfl))
    generalize w7.setCell ⟨b, 1, none⟩ (.int .i64 (n + 1)) = w8 at *
    have hI2 : Ft b (some g) gs g2 ∨ w.heap.size ≤ g2 := by
      rcases hor with q | q
      · exact .inl (.inr (.inr (q ▸ hgm)))
      · exact .inr (by omega)
    refine ⟨rfl, gs.set i g2, h3.put hat ⟨eb, F2⟩ ⟨co, eo, hco1, ?_⟩ (c2 := cap2) ?_ (fun j x hj hx => ?_) ?_, keeps_old ?_, fun x hx => ?_⟩
    · rw [O3 g hbg', F1, hll]
    · refine ⟨_, e2, by rw [O3 g2 hgb', O2 g2 hgg']; exact G3, by simp; simp at hz5; omega, ?_, by rw [hll]; omega, by omega, by omega⟩
      intro j u hj
      have hpi : _ <+: splice _ _ [Value.int .u64 k.c, Value.int .i64 k.v, Value.int .i64 k.d] := ins_cells hsl hpre
      rw [← set3 _ _ _ _ _ (by rw [splice_length (by simp; omega)]; simp; omega)] at hpi
      obtain ⟨t, ht⟩ := hpi
      have : j < (flat (l.take s ++ k :: l.drop s)).length := (List.getElem?_eq_some_iff.1 hj).1
      simp only [List.setIfInBounds_toArray, List.getElem?_toArray]
      rw [← ht, List.getElem?_append_left this]
      exact hj
    · have hxm : x ∈ gs := List.mem_of_getElem? hx
      have x1 : x ≠ b := fun q => n2 (q ▸ hxm)
      have x2 : x ≠ g := fun q => n3 (q ▸ hxm)
      have x3 : x ≠ g' := fun q => by
        subst q
        have := (List.getElem?_inj (List.getElem?_eq_some_iff.1 hx).1 n4).1 (hx.trans hg'.symm)
        exact hj this
      have x4 := h3.lt x (.inr (.inr hxm))
      rw [O3 x x1, O2 x x2, O1 x (hg2b x x4 x3), hsame x x4 x3]
    · rcases hor with q | q
      · exact .inl (q ▸ hg')
      · refine .inr ⟨hgb', hgg', fun hm => ?_⟩
        have := h3.lt g2 (.inr (.inr hm))
        omega
    · have kd : Keeps (fun x => Ft b (some g) gs x ∨ w.heap.size ≤ x) w4 w4.drew := ⟨rfl, rfl, rfl, Nat.le_refl _, fun _ _ _ => rfl⟩
      have k4 := hK4.mono (J := fun x => Ft b (some g) gs x ∨ w.heap.size ≤ x) fun x hx => .inl (.inr (.inr (hx ▸ hgm)))
      have k5 := hK5.mono (J := fun x => Ft b (some g) gs x ∨ w.heap.size ≤ x) fun x hx => hx ▸ hI2
      have k6 := K1.mono (J := fun x => Ft b (some g) gs x ∨ w.heap.size ≤ x) fun x hx => hx ▸ hI2
      exact (((((((((keeps_al.trans (hK2 _)).trans (hK3 _)).trans keeps_al).trans k4).trans kd).trans k5).trans k6).trans K2).trans K3)
    · rcases hx with q | q | q
      · exact .inl (.inl q)
      · exact .inl (.inr (.inl q))
      · rcases List.mem_or_eq_of_mem_set q with q | q
        · exact .inl (.inr (.inr q))
        · exact q ▸ hI2
end Go.Ev

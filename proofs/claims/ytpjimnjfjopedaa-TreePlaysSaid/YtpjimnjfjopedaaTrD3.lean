import Derived.Test.YtpjimnjfjopedaaTrD2
namespace Go.Ev
open Go Go.RowKit
set_option linter.unnecessarySimpa false
set_option linter.unusedSimpArgs false
set_option linter.unusedVariables false
set_option maxRecDepth 100000
set_option maxHeartbeats 2000000 in
theorem del3_w {w : World} {b cap : Nat} {og : Option Nat} {gs : List Nat} {ns : List (List Ky)} {n : Int} (h : TL w b og gs cap ns n) (k : Ky) (r s : Nat) (l : List Ky) (hN : Nod ns k r) (hl : ns[r - 1]? = some l) (hP : Plc l k s) (hs : l[s]? = some k) (hlen3 : l.length ≤ 1) (hm : ns.length ≤ 1000000) (hn0 : 0 < n) (hn1 : n < 9223372036854775807) :
    Calls Go.Proofs.Try.prog 15 #[.pointer (some ⟨b, 0, none⟩), k.val] w fun e w' => e = .returned (.bool true) ∧
    ∃ og' gs' cap', TL w' b og' gs' cap' (ns.eraseIdx (r - 1)) (n - 1) ∧ Keeps (Ft b og gs) w w' ∧ ∀ x, Ft b og' gs' x → Ft b og gs x ∨ w.heap.size ≤ x := by
  obtain ⟨g, rfl⟩ := h.some_ hl
  have hat : r - 1 < ns.length := (List.getElem?_eq_some_iff.1 hl).1
  generalize hr : r - 1 = i at *
  obtain ⟨c0, c1, f0, f1, hlt⟩ := h.root
  have hne : ((ns.length : Int) == 0) = false := by rw [beq_eq_false_iff_ne]; omega
  have hk0 : ∀ x, Keeps (fun _ => False) w (w.alloc x) := fun x => keeps_al
  have i0 : (0 : Int) ≤ (i : Int) := by omega
  have i1 : (i : Int) < (ns.length : Int) := by omega
  obtain ⟨iR, hiR, hzR, hsR, hbR⟩ := info_of info_row
  obtain ⟨iK, hiK, hzK, hsK, hbK⟩ := info_of info_key
  simp only [Ky.val]
  go_enter Go.Proofs.Try.func15, Go.Proofs.Try.ntmps15
  go_wp2_with fail
  have h1 := h.keeps (hk0 (.cells #[.int .u64 k.c, .int .i64 k.v, .int .i64 k.d] 24)) (fun _ _ q => q)
  have b1 : KB (w.alloc (.cells #[.int .u64 k.c, .int .i64 k.v, .int .i64 k.d] 24)) w.heap.size k := al_new rfl
  refine (node_w h1 k r hN).mono ?_
  rintro e w2 ⟨rfl, hK2⟩
  rw [hr]
  have h2 := h1.keeps (hK2 fun _ => False) (fun _ _ q => q)
  have b2 := b1.keeps (hK2 fun _ => False) (fun q => q)
  obtain ⟨d0, d1, f2, f3, _⟩ := h2.root
  obtain ⟨g', c, hg', hrow, d2, f4⟩ := h2.node hl
  obtain ⟨k0, k1, k2⟩ := b2.cells
  go_wp2_with fail
  refine (find_w hrow k s hP).mono ?_
  rintro e w3 ⟨rfl, hK3⟩
  rw [decide_eq_true hs]
  have h3 := h2.keeps (hK3 fun _ => False) (fun _ _ q => q)
  have hrow3 : RowK w3 g' l c := hrow.loc ((hK3 fun _ => False).block g' hrow.lt fun q => q)
  clear d0 d1 f2 f3 d2 f4 k0 k1 k2
  obtain ⟨cs, e', hg3, hsz, hf, hlc, hc, hcm⟩ := hrow3
  have hl3 : g' < w3.heap.size := (Array.getElem?_eq_some_iff.1 hg3).1
  have hsl : s < l.length := (List.getElem?_eq_some_iff.1 hs).1
  have w1 : IntKind.i64.wrap ((s : Int) + 1) = (s : Int) + 1 := wrap_id ⟨by omega, by omega⟩
  have j0 : (0 : Int) ≤ (s : Int) := by omega
  have j1 : (s : Int) ≤ (l.length : Int) := by omega
  have j1' : (s : Int) ≤ (c : Int) := by omega
  have j2 : (0 : Int) ≤ (s : Int) + 1 := by omega
  have j3 : (s : Int) + 1 ≤ (l.length : Int) := by omega
  have hnd := h.nb
  have hgm : g' ∈ gs := List.mem_of_getElem? hg'
  simp only [Option.toList_some, List.cons_append, List.nil_append, List.nodup_cons, List.mem_cons, not_or] at hnd
  obtain ⟨⟨n1, n2⟩, n3, n4⟩ := hnd
  have l1 := h.lt g (.inr (.inl rfl))
  have l2 := h.lt g' (.inr (.inr hgm))
  have z2 : w.heap.size + 1 ≤ w3.heap.size := by
    have a1 := (hK2 fun _ => False).size
    have a2 := (hK3 fun _ => False).size
    have a3 : (w.alloc (.cells #[.int .u64 k.c, .int .i64 k.v, .int .i64 k.d] 24)).heap.size = w.heap.size + 1 := sz_al
    omega
  have m1 : b ≠ g' := fun q => n2 (q ▸ hgm)
  have m2 : g ≠ g' := fun q => n3 (q ▸ hgm)
  obtain ⟨p0, p1, q0, q1, _⟩ := h3.root
  obtain ⟨g'', c'', hg'', _, p2, q2⟩ := h3.node hl
  rw [hg'] at hg''
  cases hg''
  go_wp2_with fail
  have hnew : ∀ W : World, W.heap = w3.drew.heap → (Builtin.firstCells 3 (l.length - (s + 1)) (.slice (if c = s + 1 then some ⟨g', 0, none⟩ else some ⟨g', (s + 1) * 3, none⟩) (l.length - (s + 1)) (c - (s + 1)))).run Go.Proofs.Try.prog W = .ok (flat (l.drop (s + 1))).toArray W := by
    by_cases hq : c = s + 1
    · have : l.length - (s + 1) = 0 := by omega
      rw [this, List.drop_eq_nil_of_le (by omega)]
      exact fc_none
    · rw [if_neg hq]
      exact fc_block (w := w3.drew) hg3 (by rw [flat_length, List.length_drop]) fun j u hj => hf ((s + 1) * 3 + j) u (by rw [flat_drop_get (by omega)]; exact hj)
  have hw4 : ∀ (w4 : World), Keeps (· = g') w3.drew w4 → ∀ x, x < w3.heap.size → x ≠ g' → w4.heap[x]? = w3.heap[x]? := fun w4 hK x h1 h2 => hK.block x h1 h2
  have hb3 : b < w3.heap.size := by omega
  have hbg : ¬ b = g := n1
  have hbg' : ¬ g = b := fun q => n1 q.symm
  have hg3' : g < w3.heap.size := by omega
  go_region_held3 (fun w' => w'.cell? ⟨b, 0, none⟩ = some (.slice (some ⟨g, 0, none⟩) ns.length cap)) (first | exact e0 | go_keep)
    ((refine step_of rfl (wp_app (.tmp 40) (.tmp 44) _ _ rfl Go.Proofs.Try.underlying28 Go.Proofs.Try.underlying28 hiK hzK (by rw [hsK]; rfl) hsK hbK g' s c rfl hc (w := w3.drew) hg3 hsz (by omega) rfl (flat (l.drop (s + 1))) hnew (by rw [flat_length, List.length_drop]) flat_one (by simp only [maxLen]; omega) hcm (by omega) ?_); intro g2 c2 cs2 e2 w4 hor hc2 hlc2 hcm2 hg4 hsz2 hf2 hK4; have hs4 := hw4 w4 hK4; have e0 := (cell_same (hs4 b hb3 m1) 0).trans p0; have e3 := (cell_same (hs4 g hg3' m2) i).trans p2; have r2 := (frozen_same (hs4 g hg3' m2) i).trans q2))
  generalize Value.slice (if c = s + 1 then some ⟨g', 0, none⟩ else some ⟨g', (s + 1) * 3, none⟩) (l.length - (s + 1)) (c - (s + 1)) = V44
  obtain ⟨M, hM⟩ : ∃ M, M = s + (l.length - (s + 1)) := ⟨_, rfl⟩
  rw [← hM] at hlc2 hf2 ⊢
  have hMl : M + 1 = l.length := by omega
  have hll : (l.take s ++ l.drop (s + 1)).length = M := by simp; omega
  have hg2b : ∀ x, x < w3.heap.size → x ≠ g' → x ≠ g2 := fun x h1 h2 h3 => by
    rcases hor with q | q
    · omega
    · rw [show w3.drew.heap = w3.heap from rfl] at q; omega
  have hgb' : ¬ g2 = b := fun q => hg2b b hb3 m1 q.symm
  have hgg' : ¬ g2 = g := fun q => hg2b g hg3' m2 q.symm
  obtain ⟨ho0, co, eo, hco1, hco2, hco4⟩ := h3.out g rfl
  obtain ⟨eb, heb⟩ := h3.hd
  have C0 := (hs4 g hg3' m2).trans hco1
  have C1 := (hs4 b hb3 m1).trans heb
  have F1 := sc_same (o := i) (v := .slice (some ⟨g2, 0, none⟩) M c2) C0
  have O2 : ∀ x, x ≠ g → (w4.setCell ⟨g, i, none⟩ (.slice (some ⟨g2, 0, none⟩) M c2)).heap[x]? = w4.heap[x]? := fun x hx => sc_other C0 hx
  have K2 := sc_keeps (o := i) (v := .slice (some ⟨g2, 0, none⟩) M c2) (I := fun x => Ft b (some g) gs x ∨ w.heap.size ≤ x) C0 (.inl (.inr (.inl rfl)))
  generalize w4.setCell ⟨g, i, none⟩ (.slice (some ⟨g2, 0, none⟩) M c2) = w5 at *
  have D1 := (O2 b hbg).trans C1
  have a0 := (cell_same (O2 b hbg) 0).trans e0
  have a1 := (cell_same ((O2 b hbg).trans (hs4 b hb3 m1)) 1).trans p1
  have a2 := (frozen_same ((O2 b hbg).trans (hs4 b hb3 m1)) 1).trans q1
  have a3 : w5.cell? ⟨g, i, none⟩ = some (.slice (some ⟨g2, 0, none⟩) M c2) := by
    have : i < co.size := by have := h3.le; omega
    simp [World.cell?, F1, this]
  have hM0 : ((M : Int) == 0) = true := by rw [beq_iff_eq]; omega
  have wn : IntKind.i64.wrap (n - 1) = n - 1 := wrap_id ⟨by omega, by omega⟩
  go_wp2_with fail
  have F2 := sc_same (o := 1) (v := .int .i64 (n - 1)) D1
  have O3 : ∀ x, x ≠ b → (w5.setCell ⟨b, 1, none⟩ (.int .i64 (n - 1))).heap[x]? = w5.heap[x]? := fun x hx => sc_other D1 hx
  have K3 := sc_keeps (o := 1) (v := .int .i64 (n - 1)) (I := fun x => Ft b (some g) gs x ∨ w.heap.size ≤ x) D1 (.inl (.inl rfl))
  generalize w5.setCell ⟨b, 1, none⟩ (.int .i64 (n - 1)) = w8 at *
  have x0 : w8.cell? ⟨b, 0, none⟩ = some (.slice (some ⟨g, 0, none⟩) ns.length cap) := by simp [World.cell?, F2, adr]
  have y0 : w8.frozen? ⟨b, 0, none⟩ = false := by simp [World.frozen?, F2]
  have wi : IntKind.i64.wrap ((i : Int) + 1) = (i : Int) + 1 := wrap_id ⟨by omega, by omega⟩
  have i2 : (0 : Int) ≤ (i : Int) + 1 := by omega
  have i3 : (i : Int) + 1 ≤ (ns.length : Int) := by omega
  have i4 : (i : Int) ≤ (ns.length : Int) := by omega
  have hcl := h3.le
  have i5 : (i : Int) ≤ (cap : Int) := by omega
  have hg8 : w8.heap[g]? = some (.cells (co.setIfInBounds i (.slice (some ⟨g2, 0, none⟩) M c2)) eo (0, 0)) := (O3 g hbg').trans F1
  obtain ⟨hs, hhs⟩ : ∃ hs, hs = ((co.setIfInBounds i (.slice (some ⟨g2, 0, none⟩) M c2)).toList.drop (i + 1)).take (ns.length - (i + 1)) := ⟨_, rfl⟩
  have hsl2 : hs.length = (ns.length - (i + 1)) * 1 := by rw [hhs]; simp; omega
  have hsg : ∀ j u, hs[j]? = some u → co[i + 1 + j]? = some u := fun j u hj => by
    rw [hhs, List.getElem?_take] at hj
    split at hj
    · rw [List.getElem?_drop, Array.getElem?_toList, Array.getElem?_setIfInBounds, if_neg (by omega)] at hj
      exact hj
    · cases hj
  have hs1 : ∀ u ∈ hs, u.oneCell' = true := fun u hu => by
    obtain ⟨z, hz⟩ := List.mem_iff_getElem?.1 hu
    have hzl := (List.getElem?_eq_some_iff.1 hz).1
    rw [hsl2] at hzl
    obtain ⟨_, hy, _⟩ := hco4 (i + 1 + z) (gs[i + 1 + z]'(by rw [h.len]; omega)) (ns[i + 1 + z]'(by omega)) (by simp) (by simp)
    rw [hsg z u hz] at hy
    cases hy
    rfl
  have hnew2 : ∀ W : World, W.heap = w8.drew.heap → (Builtin.firstCells 1 (ns.length - (i + 1)) (.slice (if cap = i + 1 then some ⟨g, 0, none⟩ else some ⟨g, i + 1, none⟩) (ns.length - (i + 1)) (cap - (i + 1)))).run Go.Proofs.Try.prog W = .ok hs.toArray W := by
    by_cases hq : cap = i + 1
    · have h0 : ns.length - (i + 1) = 0 := by omega
      have : hs = [] := List.eq_nil_of_length_eq_zero (by rw [hsl2]; omega)
      rw [h0, this]
      exact fc_none
    · rw [if_neg hq]
      exact fc_block (w := w8.drew) hg8 hsl2 fun j u hj => by
        rw [Array.getElem?_setIfInBounds, if_neg (by omega)]
        exact hsg j u hj
  go_region_law
    ((refine step_of rfl (wp_app (.tmp 69) (.tmp 76) _ _ rfl Go.Proofs.Try.underlying47 Go.Proofs.Try.underlying47 hiR hzR (by rw [hsR]; rfl) hsR hbR g i cap rfl ho0 (w := w8.drew) hg8 (by simp; omega) (by omega) rfl hs hnew2 hsl2 hs1 (by simp only [maxLen]; omega) h3.mx (by omega) ?_); intro G cap9 cs9 e9 w9 hor9 hc9 hlc9 hcm9 hg9 hsz9 hf9 hK9; have hB9 := hK9.block b (Array.getElem?_eq_some_iff.1 F2).1 hbg; have ee0 := (cell_same hB9 0).trans x0; have rr0 := (frozen_same hB9 0).trans y0))
  all_goals
    generalize Value.slice (if cap = i + 1 then some ⟨g, 0, none⟩ else some ⟨g, i + 1, none⟩) (ns.length - (i + 1)) (cap - (i + 1)) = V76
    go_wp2_with fail
    go_ret
    obtain ⟨N, hN⟩ : ∃ N, N = i + (ns.length - (i + 1)) := ⟨_, rfl⟩
    rw [← hN] at hlc9 hf9 ⊢
    have hNl : N + 1 = ns.length := by omega
    have hll : (ns.eraseIdx i).length = N := by rw [List.length_eraseIdx, if_pos hat]; omega
    have hw8 : w8.drew.heap = w8.heap := rfl
    have s2 := hK4.size
    have s3 := K2.size
    have s4' := K3.size
    have hz8 : w3.heap.size ≤ w8.heap.size := by
      have : w3.drew.heap.size = w3.heap.size := rfl
      omega
    have hGb : ¬ G = b := fun q => by rcases hor9 with r | r; exact hbg (q ▸ r); rw [hw8] at r; omega
    have hbG : ¬ b = G := fun q => hGb q.symm
    have F3 := sc_same (o := 0) (v := .slice (some ⟨G, 0, none⟩) N cap9) (hB9.trans F2)
    have O9 : ∀ x, x ≠ b → (w9.setCell ⟨b, 0, none⟩ (.slice (some ⟨G, 0, none⟩) N cap9)).heap[x]? = w9.heap[x]? := fun x hx => sc_other (hB9.trans F2) hx
    have K10 := sc_keeps (o := 0) (v := .slice (some ⟨G, 0, none⟩) N cap9) (I := fun x => Ft b (some g) gs x ∨ w.heap.size ≤ x) (hB9.trans F2) (.inl (.inl rfl))
    generalize w9.setCell ⟨b, 0, none⟩ (.slice (some ⟨G, 0, none⟩) N cap9) = w10 at *
    have hI3 : Ft b (some g) gs G ∨ w.heap.size ≤ G := by
      rcases hor9 with q | q
      · exact .inl (.inr (.inl (by rw [q])))
      · rw [hw8] at q; exact .inr (by omega)
    have hkeep : ∀ x, x < w3.heap.size → x ≠ g' → x ≠ g → x ≠ b → w10.heap[x]? = w3.heap[x]? := fun x h1 h2 h3 h4 => by
      rw [O9 x h4, hK9.block x (by rw [hw8]; omega) h3, hw8, O3 x h4, O2 x h3, hs4 x h1 h2]
    have hgs : ∀ z x, gs[z]? = some x → z ≠ i → x < w3.heap.size ∧ x ≠ g' ∧ x ≠ g ∧ x ≠ b := fun z x hz hzi => by
      have hxm : x ∈ gs := List.mem_of_getElem? hz
      refine ⟨h3.lt x (.inr (.inr hxm)), fun q => ?_, fun q => n3 (q ▸ hxm), fun q => n2 (q ▸ hxm)⟩
      subst q
      exact hzi ((List.getElem?_inj (List.getElem?_eq_some_iff.1 hz).1 n4).1 (hz.trans hg'.symm))
    have hhl : (co.setIfInBounds i (.slice (some ⟨g2, 0, none⟩) M c2)).toList.length = co.size := by simp
    refine ⟨rfl, some G, gs.eraseIdx i, cap9, ⟨⟨eb, ?_⟩, by rw [hll]; exact hlc9, hcm9, by simp, fun G' hG' => ?_, ?_, ?_⟩, keeps_old ?_, fun x hx => ?_⟩
    · rw [F3, hll]
      rfl
    · cases hG'
      refine ⟨hc9, cs9, e9, (O9 G hGb).trans hg9, by omega, fun j x l'' hx hl'' => ?_⟩
      have hj : j < N := by rw [← hll]; exact (List.getElem?_eq_some_iff.1 hl'').1
      rw [List.getElem?_eraseIdx] at hx hl''
      have h9 := hf9 j (by omega)
      simp only [Nat.mul_one] at h9
      have htl : ((co.setIfInBounds i (.slice (some ⟨g2, 0, none⟩) M c2)).toList.take i).length = i := by rw [List.length_take, hhl]; omega
      by_cases p1 : j < i
      · rw [if_pos p1] at hx hl''
        obtain ⟨r1, r2, r3, r4⟩ := hgs j x hx (by omega)
        obtain ⟨c', q1', q2'⟩ := hco4 j x l'' hx hl''
        refine ⟨c', ?_, q2'.loc (hkeep x r1 r2 r3 r4)⟩
        rw [h9, List.getElem?_append_left (by omega), List.getElem?_take, if_pos p1, Array.getElem?_toList, Array.getElem?_setIfInBounds, if_neg (by omega)]
        exact q1'
      · rw [if_neg p1] at hx hl''
        obtain ⟨r1, r2, r3, r4⟩ := hgs (j + 1) x hx (by omega)
        obtain ⟨c', q1', q2'⟩ := hco4 (j + 1) x l'' hx hl''
        refine ⟨c', ?_, q2'.loc (hkeep x r1 r2 r3 r4)⟩
        rw [h9, List.getElem?_append_right (by omega), htl]
        have hq : hs[j - i]? = some (hs[j - i]'(by omega)) := by simp [show j - i < hs.length by omega]
        have := hsg (j - i) _ hq
        rw [show i + 1 + (j - i) = j + 1 by omega, q1'] at this
        rw [hq, this]
    · rw [List.length_eraseIdx, List.length_eraseIdx, h.len, if_pos hat]
    · simp only [Option.toList_some, List.cons_append, List.nil_append, List.nodup_cons, List.mem_cons, not_or]
      refine ⟨⟨hbG, fun hm => n2 (List.mem_of_mem_eraseIdx hm)⟩, fun hm => ?_, n4.sublist (List.eraseIdx_sublist ..)⟩
      have hm := List.mem_of_mem_eraseIdx hm
      rcases hor9 with r | r
      · exact n3 (r ▸ hm)
      · rw [hw8] at r
        have := h3.lt G (.inr (.inr hm)); omega
    · have kd : Keeps (fun x => Ft b (some g) gs x ∨ w.heap.size ≤ x) w3 w3.drew := ⟨rfl, rfl, rfl, Nat.le_refl _, fun _ _ _ => rfl⟩
      have kd8 : Keeps (fun x => Ft b (some g) gs x ∨ w.heap.size ≤ x) w8 w8.drew := ⟨rfl, rfl, rfl, Nat.le_refl _, fun _ _ _ => rfl⟩
      have k4 := hK4.mono (J := fun x => Ft b (some g) gs x ∨ w.heap.size ≤ x) fun x hx => .inl (.inr (.inr (hx ▸ hgm)))
      have k9 := hK9.mono (J := fun x => Ft b (some g) gs x ∨ w.heap.size ≤ x) fun x hx => .inl (.inr (.inl (by rw [hx])))
      exact (((((((((keeps_al.trans (hK2 _)).trans (hK3 _)).trans kd).trans k4).trans K2).trans K3).trans kd8).trans k9).trans K10)
    · rcases hx with q | q | q
      · exact .inl (.inl q)
      · cases q; exact hI3
      · exact .inl (.inr (.inr (List.mem_of_mem_eraseIdx q)))
end Go.Ev

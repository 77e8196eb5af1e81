import Derived.Test.YtpjimnjfjopedaaTrP2
namespace Go.Ev
open Go Go.RowKit
set_option linter.unnecessarySimpa false
set_option linter.unusedSimpArgs false
set_option linter.unusedVariables false
set_option maxRecDepth 100000
set_option maxHeartbeats 2000000 in
theorem split_w {w : World} {b g cap : Nat} {gs : List Nat} {ns : List (List Ky)} {n : Int} (hT : TL w b (some g) gs cap ns n) (i : Nat) (l : List Ky) (hl : ns[i]? = some l) (h33 : l.length = 33) (hm : ns.length + 1 ≤ 1000000) :
    Calls Go.Proofs.Try.prog 24 #[.pointer (some ⟨b, 0, none⟩), .int .i64 (i : Int)] w fun e w' => (∃ v, e = .returned v) ∧
    ∃ og' gs' cap', TL w' b og' gs' cap' (ns.take i ++ l.take 16 :: l.drop 16 :: ns.drop (i + 1)) n ∧ Keeps (Ft b (some g) gs) w w' ∧ ∀ x, Ft b og' gs' x → Ft b (some g) gs x ∨ w.heap.size ≤ x := by
  have hat : i < ns.length := (List.getElem?_eq_some_iff.1 hl).1
  obtain ⟨c0, c1, f0, f1, hlt⟩ := hT.root
  obtain ⟨g', c, hg', hrow, d2, f4⟩ := hT.node hl
  have i0 : (0 : Int) ≤ (i : Int) := by omega
  have i1 : (i : Int) < (ns.length : Int) := by omega
  obtain ⟨iK, hiK, hzK, hsK, hbK⟩ := info_of info_key
  obtain ⟨iR, hiR, hzR, hsR, hbR⟩ := info_of info_row
  obtain ⟨cs, e', hg3, hsz, hf, hlc, hc, hcm⟩ := hrow
  have h16 : (16 : Int) ≤ (l.length : Int) := by omega
  have h16' : ¬ c = 16 := by omega
  have h16c : (16 : Int) ≤ (c : Int) := by omega
  go_enter Go.Proofs.Try.func24, Go.Proofs.Try.ntmps24
  go_wp2_with (at_builtin; refine halt_ ?_)
  intro _
  have hnd := hT.nb
  have hgm : g' ∈ gs := List.mem_of_getElem? hg'
  simp only [Option.toList_some, List.cons_append, List.nil_append, List.nodup_cons, List.mem_cons, not_or] at hnd
  obtain ⟨⟨n1, n2⟩, n3, n4⟩ := hnd
  have l1 := hT.lt g (.inr (.inl rfl))
  have l2 := hT.lt g' (.inr (.inr hgm))
  have m1 : b ≠ g' := fun q => n2 (q ▸ hgm)
  have m2 : g ≠ g' := fun q => n3 (q ▸ hgm)
  refine wpList_plain rfl fun K hK => wp_app0 (.tmp 13) (.tmp 15) _ _ rfl Go.Proofs.Try.underlying28 Go.Proofs.Try.underlying28 hiK hzK (by rw [hsK]; rfl) hsK hbK rfl rfl (by omega) (flat (l.drop 16))
    (fc_block (by rw [al_old l2]; exact hg3) (by rw [flat_length, List.length_drop, h33]) fun j u hj => hf (16 * 3 + j) u (by rw [flat_drop_get (by omega)]; exact hj)) (by rw [flat_length, List.length_drop, h33]) flat_one (by simp [maxLen]) (by omega) ?_
  intro capR csR w2 hR1 hR2 hR3 hR4 hR5 hK2
  refine hK _ _ ?_
  rw [sz_al] at hR3 ⊢
  have z2 : w.heap.size + 1 + 1 ≤ w2.heap.size := by
    have := (Array.getElem?_eq_some_iff.1 hR3).1
    omega
  have k2 : ∀ I, Keeps I w w2 := fun I => keeps_al.trans (hK2 I)
  have h2 := hT.keeps (k2 fun _ => False) (fun _ _ q => q)
  obtain ⟨p0, p1, q0, q1, _⟩ := h2.root
  obtain ⟨ho0, co, eo, hco1, hco2, hco4⟩ := h2.out g rfl
  go_wp2_with (at_builtin; refine halt_ ?_)
  intro _
  refine wpList_plain rfl fun K hK => wp_app (.tmp 21) (.tmp 22) _ _ rfl Go.Proofs.Try.underlying47 Go.Proofs.Try.underlying47 hiR hzR (by rw [hsR]; rfl) hsR hbR g ns.length cap rfl ho0 (by rw [al_old (by omega)]; exact hco1) (by omega) hT.le rfl [.slice none 0 0]
    (fc_block (al_new rfl) rfl fun j u hj => by simpa using hj) rfl (by intro u hu; simp at hu; subst hu; rfl) (by simp only [maxLen]; omega) hT.mx (by omega) ?_
  intro G cap2 cs2 e2 w4 hor hc2 hlc2 hcm2 hg4 hsz2 hf2 hK4
  refine hK _ _ ?_
  have z4 : (w2.alloc (.cells #[.slice none 0 0] 28)).heap.size = w2.heap.size + 1 := sz_al
  rw [z4] at hor
  have hGb : ¬ G = b := fun q => by rcases hor with r | r; exact n1 (q ▸ r); omega
  have hbG : ¬ b = G := fun q => hGb q.symm
  have hs4 : ∀ x, x < w2.heap.size → x ≠ g → w4.heap[x]? = w2.heap[x]? := fun x h1 h2 => by
    rw [hK4.block x (by omega) h2, al_old h1]
  obtain ⟨eb, heb⟩ := h2.hd
  have B4 := (hs4 b (by omega) n1).trans heb
  obtain ⟨vb, b0⟩ := cell_in (o := 0) B4 (by simp)
  have b1 := frozen_in (o := 0) B4
  go_wp2_with fail
  have F5 := sc_same (o := 0) (v := .slice (some ⟨G, 0, none⟩) (ns.length + 1) cap2) B4
  have O5 : ∀ x, x ≠ b → (w4.setCell ⟨b, 0, none⟩ (.slice (some ⟨G, 0, none⟩) (ns.length + 1) cap2)).heap[x]? = w4.heap[x]? := fun x hx => sc_other B4 hx
  have K5 := sc_keeps (o := 0) (v := .slice (some ⟨G, 0, none⟩) (ns.length + 1) cap2) (I := (· = b)) B4 rfl
  generalize w4.setCell ⟨b, 0, none⟩ (.slice (some ⟨G, 0, none⟩) (ns.length + 1) cap2) = w5 at *
  have G5 := (O5 G hGb).trans hg4
  have c5 : w5.cell? ⟨b, 0, none⟩ = some (.slice (some ⟨G, 0, none⟩) (ns.length + 1) cap2) := by simp [World.cell?, F5]
  have w1 : IntKind.i64.wrap ((i : Int) + 1) = (i : Int) + 1 := wrap_id ⟨by omega, by omega⟩
  have w2' : IntKind.i64.wrap ((i : Int) + 2) = (i : Int) + 2 := wrap_id ⟨by omega, by omega⟩
  have j1 : (0 : Int) ≤ (i : Int) + 1 := by omega
  have j2 : (i : Int) + 1 ≤ (ns.length : Int) + 1 := by omega
  have j3 : (0 : Int) ≤ (i : Int) + 2 := by omega
  have j4 : (i : Int) + 2 ≤ (ns.length : Int) + 1 := by omega
  have hcs1 : ∀ u ∈ (cs2.toList.drop (i + 1)).take ((ns.length - i - 1) * 1), u.oneCell' = true := by
    intro u hu
    obtain ⟨j, hj⟩ := List.mem_iff_getElem?.1 hu
    rw [List.getElem?_take] at hj
    split at hj
    · rw [List.getElem?_drop, Array.getElem?_toList, hf2 _ (by omega)] at hj
      rcases List.mem_append.1 (List.mem_of_getElem? hj) with q | q
      · obtain ⟨z, hz⟩ := List.mem_iff_getElem?.1 q
        rw [List.getElem?_take] at hz
        split at hz
        · rename_i hzl
          obtain ⟨_, hy, _⟩ := hco4 z (gs[z]'(by rw [hT.len]; omega)) ns[z] (by simp) (by simp)
          rw [Array.getElem?_toList, hy] at hz
          cases hz
          rfl
        · cases hz
      · simp at q; subst q; rfl
    · cases hj
  go_region_held3 (fun w' => w'.cell? ⟨b, 0, none⟩ = some (.slice (some ⟨G, 0, none⟩) (ns.length + 1) cap2)) (first | assumption | exact (cell_same (hK6.block b (Array.getElem?_eq_some_iff.1 F5).1 hbG) 0).trans c5)
    ((refine step_of rfl (wp_cpy (.tmp 32) (.tmp 39) _ _ rfl Go.Proofs.Try.underlying47 hiR hsR G (i + 2) (i + 1) (ns.length - i - 1) G5 rfl rfl (by simp only [Nat.min_def]; split <;> omega) (fun hm => ⟨if_neg (by omega), if_neg (by omega)⟩) (by omega) (by omega) hcs1 ?_); intro w6 hg6 hK6))
  generalize Value.slice (if cap2 = ((i : Int) + 2).toNat then some ⟨G, 0, none⟩ else some ⟨G, ((i : Int) + 2).toNat, none⟩) (ns.length + 1 - ((i : Int) + 2).toNat) (cap2 - ((i : Int) + 2).toNat) = V32
  have nc1 : ¬ cap2 = i + 1 := by omega
  have hB6 : w6.heap[b]? = w5.heap[b]? := hK6.block b (Array.getElem?_eq_some_iff.1 F5).1 hbG
  have c6 : w6.cell? ⟨b, 0, none⟩ = some (.slice (some ⟨G, 0, none⟩) (ns.length + 1) cap2) := (cell_same hB6 0).trans c5
  have hz6 : (splice cs2.toList (i + 2) ((cs2.toList.drop (i + 1)).take ((ns.length - i - 1) * 1))).toArray.size = cs2.size := by
    rw [List.size_toArray, splice_length (by simp; omega)]; simp
  obtain ⟨u0, d0⟩ := cell_in hg6 (o := i) (by omega)
  obtain ⟨u1, d1⟩ := cell_in hg6 (o := i + 1) (by omega)
  have t0 := frozen_in (o := i) hg6
  have t1 := frozen_in (o := i + 1) hg6
  have j5 : (i : Int) < (ns.length : Int) + 1 := by omega
  have j6 : (i : Int) + 1 < (ns.length : Int) + 1 := by omega
  go_wp2_with fail
  go_region_held3 (fun w' => w'.cell? ⟨b, 0, none⟩ = some (.slice (some ⟨G, 0, none⟩) (ns.length + 1) cap2)) (go_keep) (fail)
  refine bodyPost_end (results_none rfl _ _ _) rfl ?_
  have G7 := sc_same (o := i) (v := .slice (some ⟨g', 0, none⟩) 16 16) hg6
  have G8 := sc_same (o := i + 1) (v := .slice (some ⟨w.heap.size + 1, 0, none⟩) 17 capR) G7
  have O8 : ∀ x, x ≠ G → ((w6.setCell ⟨G, i, none⟩ (.slice (some ⟨g', 0, none⟩) 16 16)).setCell ⟨G, i + 1, none⟩ (.slice (some ⟨w.heap.size + 1, 0, none⟩) 17 capR)).heap[x]? = w6.heap[x]? := fun x hx => by
    rw [sc_other G7 hx, sc_other hg6 hx]
  have K8 : Keeps (· = G) w6 ((w6.setCell ⟨G, i, none⟩ (.slice (some ⟨g', 0, none⟩) 16 16)).setCell ⟨G, i + 1, none⟩ (.slice (some ⟨w.heap.size + 1, 0, none⟩) 17 capR)) := (sc_keeps (I := (· = G)) hg6 rfl).trans (sc_keeps (I := (· = G)) G7 rfl)
  generalize (w6.setCell ⟨G, i, none⟩ (.slice (some ⟨g', 0, none⟩) 16 16)).setCell ⟨G, i + 1, none⟩ (.slice (some ⟨w.heap.size + 1, 0, none⟩) 17 capR) = w8 at *
  have hlen : (ns.take i ++ l.take 16 :: l.drop 16 :: ns.drop (i + 1)).length = ns.length + 1 := by simp; omega
  have hs8 : ∀ x, x < w2.heap.size → x ≠ g → x ≠ b → w8.heap[x]? = w2.heap[x]? := fun x h1 h2 h3 => by
    have hxG : x ≠ G := fun q => by rcases hor with r | r; exact h2 (q.trans r); omega
    have s4 := hK4.size
    have s5 := K5.size
    rw [O8 x hxG, hK6.block x (show x < w5.heap.size by omega) hxG, show w5.drew.heap = w5.heap from rfl, O5 x h3, hs4 x h1 h2]
  have hGf : G ∉ gs := fun hm => by
    rcases hor with r | r
    · exact n3 (r ▸ hm)
    · have := h2.lt G (.inr (.inr hm)); omega
  have kd : Keeps (fun x => Ft b (some g) gs x ∨ w.heap.size ≤ x) w8 w8.drew := ⟨rfl, rfl, rfl, Nat.le_refl _, fun _ _ _ => rfl⟩
  have hI2 : Ft b (some g) gs G ∨ w.heap.size ≤ G := by
    rcases hor with q | q
    · exact .inl (.inr (.inl (by rw [q])))
    · exact .inr (by omega)
  refine ⟨⟨_, rfl⟩, some G, gs.take i ++ g' :: (w.heap.size + 1) :: gs.drop (i + 1), cap2, ⟨⟨eb, ?_⟩, by rw [hlen]; exact hlc2, hcm2, by simp, fun G' hG' => ?_, ?_, ?_⟩, ?_, fun x hx => ?_⟩
  · show w8.heap[b]? = _
    rw [O8 b hbG, hB6, F5, hlen]
    rfl
  · cases hG'
    refine ⟨hc2, _, _, G8, by simp at hz6 ⊢; omega, fun j x l'' hx hl'' => ?_⟩
    have hj : j < ns.length + 1 := by rw [← hlen]; exact (List.getElem?_eq_some_iff.1 hl'').1
    rw [ins2 (by rw [hT.len]; exact hat)] at hx
    rw [ins2 hat] at hl''
    simp only [List.setIfInBounds_toArray, List.getElem?_toArray, List.getElem?_set, List.length_set]
    have hspl : (splice cs2.toList (i + 2) ((cs2.toList.drop (i + 1)).take ((ns.length - i - 1) * 1))).length = cs2.size := by simpa using hz6
    have hmid : ∀ z, z < ns.length → ∀ x l'', gs[z]? = some x → ns[z]? = some l'' → x ≠ g' → ∃ c, cs2[z]? = some (.slice (some ⟨x, 0, none⟩) l''.length c) ∧ RowK w8.drew x l'' c := fun z hz x l'' h1' h2' hx' => by
      obtain ⟨c', q1, q2⟩ := hco4 z x l'' h1' h2'
      refine ⟨c', ?_, q2.loc ?_⟩
      · rw [hf2 z (by omega), List.getElem?_append_left (by simp; have := (Array.getElem?_eq_some_iff.1 q1).1; omega), List.getElem?_take, if_pos (by omega)]
        simpa using q1
      · have hxm : x ∈ gs := List.mem_of_getElem? h1'
        exact hs8 x (h2.lt x (.inr (.inr hxm))) (fun q => n3 (q ▸ hxm)) (fun q => n2 (q ▸ hxm))
    have hne : ∀ z x, gs[z]? = some x → z ≠ i → x ≠ g' := fun z x hz hzi q => by
      subst q
      exact hzi ((List.getElem?_inj (List.getElem?_eq_some_iff.1 hz).1 n4).1 (hz.trans hg'.symm))
    have hsa := splice_at (l := cs2.toList) (m := (cs2.toList.drop (i + 1)).take ((ns.length - i - 1) * 1)) (i := i + 2) (by simp; omega)
    have hsl : ((cs2.toList.drop (i + 1)).take ((ns.length - i - 1) * 1)).length = ns.length - i - 1 := by simp; omega
    by_cases p1 : j < i
    · rw [if_pos p1] at hx hl''
      rw [if_neg (by omega), if_neg (by omega), hsa, if_neg (by omega)]
      simpa using hmid j (by omega) x l'' hx hl'' (hne j x hx (by omega))
    · rw [if_neg p1] at hx hl''
      by_cases p2 : j = i
      · rw [if_pos p2] at hx hl''
        cases hx; cases hl''
        subst p2
        rw [if_neg (by omega), if_pos rfl, if_pos (by omega)]
        refine ⟨16, by simp [h33], ⟨cs, e', ?_, by omega, fun q u hu => hf q u (flat_take_get hu), by simp only [List.length_take]; omega, by omega, by simp [maxLen]⟩⟩
        show w8.heap[g']? = _
        rw [hs8 g' (by omega) m2.symm m1.symm, (k2 fun _ => False).block g' l2 (fun q => q)]
        exact hg3
      · rw [if_neg p2] at hx hl''
        by_cases p3 : j = i + 1
        · rw [if_pos p3] at hx hl''
          cases hx; cases hl''
          subst p3
          rw [if_pos rfl, if_pos (by omega)]
          refine ⟨capR, by simp [h33], ⟨csR, 24, ?_, hR4, fun q u hu => ?_, by simp [h33]; omega, by omega, hR2⟩⟩
          · show w8.heap[w.heap.size + 1]? = _
            rw [hs8 (w.heap.size + 1) (by omega) (by omega) (by omega)]
            exact hR3
          · rw [hR5 q ?_]
            · exact hu
            · have := (List.getElem?_eq_some_iff.1 hu).1
              rw [flat_length, List.length_drop, h33] at this
              omega
        · rw [if_neg p3] at hx hl''
          rw [if_neg (by omega), if_neg (by omega), hsa, if_pos (by omega), List.getElem?_take, if_pos (by omega), List.getElem?_drop, show i + 1 + (j - (i + 2)) = j - 1 by omega]
          simpa using hmid (j - 1) (by omega) x l'' hx hl'' (hne (j - 1) x hx (by omega))
  · simp [hT.len]
  · have h9 := hT.lt
    have hnb : w.heap.size + 1 ∉ gs := fun hm => by have := hT.lt _ (.inr (.inr hm)); omega
    simp only [Option.toList_some, List.cons_append, List.nil_append, List.nodup_cons, List.mem_cons, not_or]
    have hsub : ∀ x, x ∈ gs.take i ++ g' :: (w.heap.size + 1) :: gs.drop (i + 1) → x ∈ gs ∨ x = w.heap.size + 1 := fun x hx => by
      rcases List.mem_append.1 hx with q | q
      · exact .inl (List.mem_of_mem_take q)
      · rcases List.mem_cons.1 q with q | q
        · exact .inl (q ▸ hgm)
        · rcases List.mem_cons.1 q with q | q
          · exact .inr q
          · exact .inl (List.mem_of_mem_drop q)
    refine ⟨⟨hbG, fun hm => ?_⟩, fun hm => ?_, ?_⟩
    · rcases hsub b hm with q | q
      · exact n2 q
      · omega
    · rcases hsub G hm with q | q
      · exact hGf q
      · rcases hor with r | r <;> omega
    · have hperm : (gs.take i ++ g' :: (w.heap.size + 1) :: gs.drop (i + 1)).Perm ((w.heap.size + 1) :: gs) := by
        have e1 : gs = gs.take i ++ g' :: gs.drop (i + 1) := by
          have hi : i < gs.length := by rw [hT.len]; exact hat
          have : gs[i] = g' := by rw [List.getElem?_eq_getElem hi] at hg'; exact Option.some.inj hg'
          rw [← this, List.getElem_cons_drop, List.take_append_drop]
        have e2 : (gs.take i ++ g' :: (w.heap.size + 1) :: gs.drop (i + 1)) = (gs.take i ++ [g']) ++ (w.heap.size + 1) :: gs.drop (i + 1) := by simp
        rw [e2]
        refine List.perm_middle.trans ?_
        refine List.Perm.cons _ ?_
        rw [List.append_assoc]
        exact e1 ▸ List.Perm.refl _
      exact hperm.nodup_iff.2 (List.nodup_cons.2 ⟨hnb, n4⟩)
  · have k4 := hK4.mono (J := fun x => Ft b (some g) gs x ∨ w.heap.size ≤ x) fun x hx => .inl (.inr (.inl (by rw [hx])))
    have k5 := K5.mono (J := fun x => Ft b (some g) gs x ∨ w.heap.size ≤ x) fun x hx => .inl (.inl hx)
    have kd5 : Keeps (fun x => Ft b (some g) gs x ∨ w.heap.size ≤ x) w5 w5.drew := ⟨rfl, rfl, rfl, Nat.le_refl _, fun _ _ _ => rfl⟩
    have k6 := hK6.mono (J := fun x => Ft b (some g) gs x ∨ w.heap.size ≤ x) fun x hx => hx ▸ hI2
    have k8 := K8.mono (J := fun x => Ft b (some g) gs x ∨ w.heap.size ≤ x) fun x hx => hx ▸ hI2
    exact keeps_old ((((((((k2 _).trans keeps_al).trans k4).trans k5).trans kd5).trans k6).trans k8).trans kd)
  · rcases hx with q | q | q
    · exact .inl (.inl q)
    · cases q; exact hI2
    · rcases List.mem_append.1 q with q | q
      · exact .inl (.inr (.inr (List.mem_of_mem_take q)))
      · rcases List.mem_cons.1 q with q | q
        · exact .inl (.inr (.inr (q ▸ hgm)))
        · rcases List.mem_cons.1 q with q | q
          · exact .inr (by omega)
          · exact .inl (.inr (.inr (List.mem_of_mem_drop q)))
end Go.Ev

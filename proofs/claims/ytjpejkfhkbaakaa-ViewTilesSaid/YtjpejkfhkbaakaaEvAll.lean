import Derived.Test.YtjpejkfhkbaakaaEvAct
namespace Go.Ev
open Go
set_option linter.unnecessarySimpa false
set_option linter.unusedSimpArgs false
set_option linter.unusedVariables false

section
variable {P : Program} {X : Cx} {w w' : World} {s : St} {ρ ρ' : Pl → Option Nat} {a : Act} {o : Oper}

theorem isSlice_ok {t : TypeId} {f : TypeId → TypeInfo → Bool} (h : isSlice P t f = true) : ∃ e i, P.underlying t = some (.slice e) ∧ P.info? e = some i ∧ f e i = true := by
  unfold isSlice at h
  split at h
  · rename_i e hu
    split at h
    · rename_i i hi
      exact ⟨e, i, hu, hi, h⟩
    · cases h
  · cases h
theorem isDesc_ok {t : TypeId} {f : TypeDesc → Bool} (h : isDesc P t f = true) : ∃ d, P.underlying t = some d ∧ f d = true := by
  unfold isDesc at h
  split at h
  · rename_i d hu
    exact ⟨d, hu, h⟩
  · cases h
theorem fieldOk_ok {t : TypeId} {k : Nat} {f : Go.Field → TypeInfo → Bool} (h : fieldOk P t k f = true) : ∃ fs fd i, P.underlying t = some (.struct fs) ∧ fs[k]? = some fd ∧ P.info? fd.type = some i ∧ f fd i = true := by
  unfold fieldOk at h
  split at h
  · rename_i fs hu
    split at h
    · rename_i fd hf
      split at h
      · rename_i i hi
        exact ⟨fs, fd, i, hu, hf, hi, h⟩
      · cases h
    · cases h
  · cases h
theorem get_opO {g : Bool} (hG : Gam X s ρ a w) (hg : g = true) {x : Option Operand} {y : Option Opd} (h : opdO x y = true) (hm : PO.see.mayO g s.e y) : RAO X s ρ w a x (PO.see.bareO s.e y) := by
  unfold opdO at h
  split at h
  · trivial
  · exact get_op hG hg h hm
  · cases h
theorem get_opl {g : Bool} (hG : Gam X s ρ a w) (hg : g = true) : ∀ {xs : List Operand} {ys : List Opd}, all2 opd xs ys = true → mayl g s.e ys → (barel s.e ys).length = xs.length ∧ ∀ (i : Nat) (x : AV) (y : Operand), (barel s.e ys)[i]? = some x → xs[i]? = some y → RA X s ρ w x (a.eval y)
  | [], [], _, _ => ⟨rfl, by simp [barel]⟩
  | x :: xs, y :: ys, h, hm => by
    simp [all2] at h
    obtain ⟨h1, h2⟩ := get_opl hG hg h.2 hm.2
    refine ⟨by simp [barel, h1], fun i p q hp hq => ?_⟩
    cases i with
    | zero => simp [barel] at hp hq; subst hp; subst hq; exact get_op hG hg h.1 hm.1
    | succ i => simp [barel] at hp hq; exact h2 i p q hp hq
  | [], _ :: _, h, _ => by cases h
  | _ :: _, [], h, _ => by cases h

theorem array_of {α : Type} {xs : Array α} {l : List α} (h : xs.toList = l) : xs = l.toArray := by rw [← h]

theorem see_all {g : Bool} (hg : g = true) {po : PO} (hG : Gam X s ρ a w) (hc : chkSee P o po = true) (hok : (po.see g s.e s.ob).ok) : Sees P X a w s ρ o (po.see g s.e s.ob).v := by
  unfold chkSee at hc
  split at hc
  · rename_i x y ho
    refine ⟨_, ?_, get_op hG hg hc hok.1⟩
    simp only [execOp, ho, Sem.run_pure]
  · rename_i x y ho
    refine ⟨_, ?_, get_op hG hg hc hok.1⟩
    simp only [execOp, ho, Sem.run_pure]
  · rename_i c x y c' x' y' ho
    simp only [Bool.and_eq_true] at hc
    exact see_pick hg ho (get_op hG hg hc.1.1 hok.1) (opd_rel hG.env hc.1.2) (opd_rel hG.env hc.2) hok.2
  · rename_i op t x y ty op' x' y' ho
    simp only [Bool.and_eq_true, beq_iff_eq] at hc
    obtain ⟨⟨rfl, h1⟩, h2⟩ := hc
    exact see_bin hg ho (get_op hG hg h1 hok.1.1) (get_op hG hg h2 hok.1.2) hok.2
  · rename_i op t x y ty neg x' y' ho
    simp only [Bool.and_eq_true] at hc
    obtain ⟨⟨⟨h0, h1⟩, h2⟩, h3⟩ := hc
    obtain ⟨d, hd, hdd⟩ := isDesc_ok h1
    have hop : op = if neg = true then .neq else .eql := by cases neg <;> simpa using h0
    have hdb : d = .bool := by cases d <;> first | rfl | cases hdd
    subst hdb
    exact see_beq hg ho hop hd (get_op hG hg h2 hok.1.1) (get_op hG hg h3 hok.1.2) hok.2
  · rename_i op t x op' x' ho
    simp only [Bool.and_eq_true, beq_iff_eq] at hc
    obtain ⟨rfl, h1⟩ := hc
    exact see_un hg ho (get_op hG hg h1 hok.1) hok.2
  · rename_i t d x k x' ho
    simp only [Bool.and_eq_true] at hc
    obtain ⟨⟨h1, h2⟩, h3⟩ := hc
    obtain ⟨d1, hd1, _⟩ := isDesc_ok h1
    obtain ⟨d2, hd2, hdd⟩ := isDesc_ok h2
    have : d2 = .int k := by cases d2 <;> first | cases hdd; done | (simp at hdd; rw [hdd])
    subst this
    exact see_conv hg ho hd1 hd2 (get_op hG hg h3 hok.1) hok.2
  · rename_i c str x' ho
    split at hc
    · rename_i hcal
      split at hc
      · rename_i x t hx ht
        simp only [Bool.and_eq_true] at hc
        obtain ⟨d, hd, hdd⟩ := isDesc_ok hc.2
        exact see_len hg ho hcal (array_of hx) (array_of ht) hd hdd (get_op hG hg hc.1 hok.1) hok.2
      · cases hc
    · cases hc
  · rename_i t x i sz z x' i' ho
    simp only [Bool.and_eq_true] at hc
    obtain ⟨⟨h1, h2⟩, h3⟩ := hc
    obtain ⟨e, inf, hu, hi, hsz⟩ := isSlice_ok h1
    exact see_ia hg ho hu hi (by simpa using hsz) (get_op hG hg h2 hok.1.1) (get_op hG hg h3 hok.1.2) hok.2
  · rename_i t x i x' i' ho
    simp only [Bool.and_eq_true] at hc
    obtain ⟨⟨h1, h2⟩, h3⟩ := hc
    obtain ⟨d, hd, hdd⟩ := isDesc_ok h1
    have : d = .string := by cases d <;> first | rfl | cases hdd
    subst this
    exact see_ixs hg ho hd (get_op hG hg h2 hok.1.1) (get_op hG hg h3 hok.1.2) hok.2
  · rename_i t x m x' ho
    simp only [Bool.and_eq_true] at hc
    exact see_ld hg hG ho hc.1 (get_op hG hg hc.2 hok.1) hok.2
  · rename_i x x' ho
    exact see_nck hg ho (get_op hG hg hc hok.1) hok.2
  · rename_i t x f off x' ho
    simp only [Bool.and_eq_true] at hc
    obtain ⟨fs, fd, i, h1, h2, h3, h4⟩ := fieldOk_ok hc.1
    simp at h4
    exact see_fa hg ho h1 h2 h3 h4.1 h4.2 (get_op hG hg hc.2 hok.1) hok.2
  · rename_i t x f off m x' ho
    simp only [Bool.and_eq_true] at hc
    obtain ⟨fs, fd, i, h1, h2, h3, h4⟩ := fieldOk_ok hc.1
    simp at h4
    exact see_fld hg ho h1 h2 h4.1 h4.2 (get_op hG hg hc.2 hok.1) hok.2
  · rename_i t x lo hi mx x' lo' hi' ho
    simp only [Bool.and_eq_true] at hc
    obtain ⟨⟨⟨⟨h1, h2⟩, h3⟩, h4⟩, h5⟩ := hc
    obtain ⟨d, hd, hdd⟩ := isDesc_ok h1
    have : d = .string := by cases d <;> first | rfl | cases hdd
    subst this
    have hmx : mx = none := by simpa using h2
    subst hmx
    exact see_sls hg ho hd (get_op hG hg h3 hok.1.1) (get_opO hG hg h4 hok.1.2.1) (get_opO hG hg h5 hok.1.2.2) hok.2
  · rename_i t x lo hi mx sz x' lo' hi' mx' ho
    simp only [Bool.and_eq_true] at hc
    obtain ⟨⟨⟨⟨⟨h1, h2⟩, h3⟩, h4⟩, h5⟩, h6⟩ := hc
    obtain ⟨e, inf, hu, hi, hsz⟩ := isSlice_ok h1
    exact see_sll hg ho hu hi (by simpa using hsz) (get_op hG hg h2 hok.1.1) (get_opO hG hg h3 hok.1.2.1) (get_opO hG hg h4 hok.1.2.2.1) (get_opO hG hg h5 hok.1.2.2.2) (fun hm hn => by simp [hn] at h6; exact hm h6) hok.2
  · rename_i x i x' i' ho
    simp only [Bool.and_eq_true, beq_iff_eq] at hc
    obtain ⟨rfl, h1⟩ := hc
    exact see_ext hg ho (get_op hG hg h1 hok.1) hok.2
  · rename_i t d x x' ho
    simp only [Bool.and_eq_true] at hc
    obtain ⟨⟨h1, h2⟩, h3⟩ := hc
    obtain ⟨e, inf, hu, hi, he⟩ := isSlice_ok h1
    obtain ⟨d1, hd1, hdd1⟩ := isDesc_ok he
    obtain ⟨d2, hd2, hdd2⟩ := isDesc_ok h2
    have e1 : d1 = .int .u8 := by
      split at hdd1
      · rfl
      · cases hdd1
    have e2 : d2 = .string := by cases d2 <;> first | rfl | cases hdd2
    subst e1; subst e2
    have hx := get_op hG hg h3 hok.1
    have hok2 := hok.2
    simp only [PO.see, Rs.and]
    unfold toStr1 at hok2 ⊢
    split at hok2
    · rename_i sz ys rd hs
      exact see_toStr hG ho hu hd1 hd2 hx hs hok2.1 hok2.2
    · exact hok2.1.elim
  · rename_i t ps zs qs ho
    simp only [Bool.and_eq_true] at hc
    obtain ⟨⟨h1, h2⟩, h3⟩ := hc
    split at h1
    · rename_i i hi
      split at h1
      · rename_i z hz
        obtain ⟨d, hd, hdd⟩ := isDesc_ok h2
        exact see_build hg hG ho hi hz h1 hd hdd h3 hok.2
      · cases h1
    · cases h1
  · rename_i f first cap f' xs k ho
    simp only [Bool.and_eq_true, beq_iff_eq] at hc
    obtain ⟨⟨rfl, h1⟩, h2⟩ := hc
    obtain ⟨g1, g2⟩ := get_opl hG hg h2 hok.1
    refine ⟨.func f (first.map a.eval) (cap.map a.eval), ?_, .fn _ _ _ _ _ (by simpa using h1) (by rw [g1]; simp) fun i x c hx hc => ?_⟩
    · simp [execOp, ho, Instr.makeFunc]
    · rw [← Array.map_append, Array.getElem?_map, Option.map_eq_some_iff] at hc
      obtain ⟨y, hy, rfl⟩ := hc
      exact g2 i x y hx (by rw [Array.getElem?_toList]; exact hy)
  · rename_i c mx x' ys' ho
    simp only [Bool.and_eq_true] at hc
    obtain ⟨h1, h2⟩ := hc
    split at h2
    · rename_i x ys hargs
      simp only [Bool.and_eq_true] at h2
      obtain ⟨g1, g2⟩ := get_opl hG hg h2.2 hok.1.2
      refine see_mm hg ho ?_ hargs (get_op hG hg h2.1 hok.1.1) g1 g2 hok.2
      split at h1
      · rename_i hcal; cases mx <;> first | exact hcal | cases h1
      · rename_i hcal; cases mx <;> first | exact hcal | cases h1
      · cases h1
    · cases h2
  · rename_i t x i n sz x' i' ho
    simp only [Bool.and_eq_true] at hc
    obtain ⟨⟨h1, h2⟩, h3⟩ := hc
    split at h1
    · rename_i n' e hu
      simp only [Bool.and_eq_true, beq_iff_eq] at h1
      obtain ⟨rfl, h1⟩ := h1
      split at h1
      · rename_i inf hinf
        exact see_iaa hg ho hu hinf (by simpa using h1) (get_op hG hg h2 hok.1.1) (get_op hG hg h3 hok.1.2) hok.2
      · cases h1
    · cases h1
  · rename_i c sub x' y' z' ho
    simp only [Bool.and_eq_true] at hc
    obtain ⟨h1, h2⟩ := hc
    split at h2
    · rename_i x y z hargs
      simp only [Bool.and_eq_true] at h2
      split at h1
      · rename_i f hcal
        exact see_carry hg ho hcal h1 hargs (get_op hG hg h2.1.1 hok.1.1) (get_op hG hg h2.1.2 hok.1.2.1) (get_op hG hg h2.2 hok.1.2.2) hok.2
      · cases h1
    · cases h2
  · rename_i op t x y ty neg ks x' y' ho
    simp only [Bool.and_eq_true] at hc
    obtain ⟨⟨⟨h0, h1⟩, h2⟩, h3⟩ := hc
    have hop : op = if neg = true then .neq else .eql := by cases neg <;> simpa using h0
    obtain ⟨⟨m1, m2, a12⟩, hok⟩ := hok
    obtain ⟨a1, a2⟩ := a12 hg
    exact see_eqa hg ho hop h1 (get_op hG hg h2 m1) (get_op hG hg h3 m2) a1 a2 hok
  · rename_i op t x y ty neg x' ho
    simp only [Bool.and_eq_true] at hc
    obtain ⟨⟨⟨h0, h1⟩, h2⟩, h3⟩ := hc
    split at h0
    · obtain ⟨d, hd, hdd⟩ := isDesc_ok h2
      have hop : op = if neg = true then .neq else .eql := by cases neg <;> simpa using h1
      split at hdd
      · exact see_eqn hg ho hop hd (get_op hG hg h3 hok.1) hok.2
      · cases hdd
    · cases h0
  · cases hc

theorem act_st {m : Nat} {x y : AV} {t : TypeId} {inf : TypeInfo} {u v : Operand} (hG : Gam X s ρ a w) (ho : o.op = .store t u v) (hi : P.info? t = some inf) (hm : inf.size = m) (hx : RA X s ρ w x (a.eval u)) (hy : RA X s ρ w y (a.eval v)) (hok : (st2 m x y s.ob).ok) :
    Acts P X a w s o (st2 m x y s.ob) := by
  unfold st2 at hok ⊢
  split at hok
  · rename_i id ver off
    obtain ⟨hb, hok⟩ := hok
    unfold stb at hok ⊢
    split at hok
    · rename_i cells hc
      exact act_stb (ok := True) hG ho hi hm hx hy hc hok.1 hok.2.1 hok.2.2 hb
    · exact hok.elim
  · rename_i id ver idx off
    split at hok
    · rename_i ys hys
      obtain ⟨hb, hok⟩ := hok
      unfold str at hok ⊢
      split at hok
      · rename_i sz z app wr xs hr
        obtain ⟨h1, h2, h3, h4⟩ := hok
        subst h3
        exact act_str (ok := True) hG ho hi hm hx hy hr hys h1 h2 h4 hb
      · exact hok.elim
    · exact hok.elim
  · exact hok.elim

theorem act_all {d : Nat} {po : PO} (hG : Gam X s ρ a w) (hc : chkAct P o po = true) (hdn : d < X.n) (hok : (po.act d s.e s.ob).ok) : Acts P X a w s o (po.act d s.e s.ob) := by
  unfold chkAct at hc
  split at hc
  · rename_i e zs ho
    split at hc
    · rename_i i hi
      split at hc
      · rename_i z hz
        exact act_zero hdn hG ho hi hz hc
      · cases hc
    · cases hc
  · rename_i e x x' ho
    exact act_box hdn hG ho (get_op hG rfl hc hok.1) hok.2
  · rename_i t m ps sz z qs ho
    simp only [Bool.and_eq_true, beq_iff_eq, decide_eq_true_eq] at hc
    obtain ⟨⟨⟨⟨⟨h1, h2⟩, h3⟩, h4⟩, h5⟩, h6⟩ := hc
    obtain ⟨e, inf, hu, hi, hsz⟩ := isSlice_ok h1
    simp at hsz
    obtain ⟨zv, hz⟩ := Option.isSome_iff_exists.1 hsz.2
    simp only [PO.act] at hok ⊢
    split at hok
    · rename_i p ys fz hel
      simp only [newOb] at hok
      exact act_bsl hdn hG ho hu hi hz hsz.1 h2 h3 h4 h5 h6 hel hok.1 hok.2.1 hok.2.2
    · exact hok.elim
  · rename_i t x y m x' y' ho
    simp only [Bool.and_eq_true] at hc
    obtain ⟨⟨h1, h2⟩, h3⟩ := hc
    split at h1
    · rename_i inf hi
      exact act_st hG ho hi (by simpa using h1) (get_op hG rfl h2 hok.1.1) (get_op hG rfl h3 hok.1.2) hok.2
    · cases h1
  · rename_i c sz z bytes x' y' ho
    split at hc
    · rename_i hcal
      split at hc
      · rename_i x y t u hx ht
        simp only [Bool.and_eq_true] at hc
        obtain ⟨⟨⟨h1, h2⟩, h3⟩, h4⟩ := hc
        obtain ⟨e, inf, hu, hi, hsz⟩ := isSlice_ok h1
        obtain ⟨e2, inf2, hu2, hi2, _⟩ := isSlice_ok h2
        simp at hsz
        obtain ⟨⟨⟨g1, g2⟩, g3⟩, g4⟩ := hsz
        obtain ⟨⟨hm1, hm2⟩, hok⟩ := hok
        have hxx := get_op hG rfl h3 hm1
        have hyy := get_op hG rfl h4 hm2
        split at g3
        · rename_i zv hz
          have hzs : zv.cells.size = inf.size := by rw [g1]; simpa using g3
          simp only [PO.act]
          generalize (x'.ev s.e).bare = xv at hxx hok ⊢
          generalize (y'.ev s.e).bare = yv at hyy hok ⊢
          generalize hsrc : src s.ob yv = so at hok ⊢
          unfold app3 at hok ⊢
          split at hok
          · rename_i sz' zz sy ys rd
            simp only [newOb] at hok
            obtain ⟨k1, k2, k3, k4⟩ := hok
            subst k1; subst k2
            exact act_app_nil (ok := True) hdn hG ho hcal (array_of hx) (array_of ht) hu hu2 hi hz hzs g1 g2 hxx hyy hsrc k3 k4
          · rename_i id ver len sy ys rd
            split at hok
            · rename_i sz' z' app wr xs hr
              obtain ⟨k1, k2, k3, k4, k5, k6⟩ := hok
              subst k1; subst k2; subst k3; subst k4
              exact act_app_own (ok := True) (rd' := []) hG ho hcal (array_of hx) (array_of ht) hu hu2 hi hz hzs g1 g2 hxx hr rfl hyy hsrc k5 k6
            · exact hok.elim
          · exact hok.elim
        · cases g3
      · cases hc
    · cases hc
  · rename_i c sz x' y' ho
    split at hc
    · rename_i hcal
      split at hc
      · rename_i x y t u hx ht
        simp only [Bool.and_eq_true] at hc
        obtain ⟨⟨⟨h1, h2⟩, h3⟩, h4⟩ := hc
        obtain ⟨e, inf, hu, hi, hsz⟩ := isSlice_ok h1
        simp only [beq_iff_eq] at hsz
        obtain ⟨⟨hm1, hm2⟩, hok⟩ := hok
        have hxx := get_op hG rfl h3 hm1
        have hyy := get_op hG rfl h4 hm2
        simp only [PO.act]
        generalize (x'.ev s.e).bare = xv at hxx hok ⊢
        generalize (y'.ev s.e).bare = yv at hyy hok ⊢
        generalize hsrc : src s.ob yv = so at hok ⊢
        unfold cpy3 at hok ⊢
        split at hok
        · rename_i id ver lo len sy ys rd
          split at hok
          · rename_i sz' z' app wr xs hr
            obtain ⟨k1, k2, k3⟩ := hok
            subst k1; subst k2; subst k3
            exact act_cpy (ok := True) (rd' := []) hG ho hcal (array_of hx) (array_of ht) hu hi hsz hxx hr hyy hsrc
          · exact hok.elim
        · exact hok.elim
      · cases hc
    · cases hc
  · rename_i t d x z x' ho
    simp only [Bool.and_eq_true] at hc
    obtain ⟨⟨h1, h2⟩, h3⟩ := hc
    obtain ⟨d1, hd1, hdd1⟩ := isDesc_ok h1
    have e1 : d1 = .string := by cases d1 <;> first | rfl | cases hdd1
    subst e1
    obtain ⟨e, inf, hu, hi, hsz⟩ := isSlice_ok h2
    simp only [Bool.and_eq_true] at hsz
    obtain ⟨d2, hd2, hdd2⟩ := isDesc_ok hsz.2
    have e2 : d2 = .int .u8 := by
      split at hdd2
      · rfl
      · cases hdd2
    subst e2
    obtain ⟨hm, hok⟩ := hok
    have hxx := get_op hG rfl h3 hm
    simp only [PO.act]
    generalize (x'.ev s.e).bare = xv at hxx hok ⊢
    unfold toBytes1 at hok ⊢
    split at hok
    · exact act_toBytes (inf := inf) (ok := True) hdn hG ho hd1 hu hd2 (inv_v hxx) hok
    · exact hok.elim
  · rename_i t l c sz z bytes l' c' ho
    simp only [Bool.and_eq_true] at hc
    obtain ⟨⟨h1, h2⟩, h3⟩ := hc
    obtain ⟨e, inf, hu, hi, hsz⟩ := isSlice_ok h1
    simp only [Bool.and_eq_true, beq_iff_eq] at hsz
    obtain ⟨⟨⟨g1, g2⟩, g3⟩, g4⟩ := hsz
    split at g4
    · rename_i v hz
      simp only [Bool.and_eq_true, beq_iff_eq] at g4
      obtain ⟨⟨hm1, hm2⟩, hok⟩ := hok
      have hxx := get_op hG rfl h2 hm1
      have hyy := get_op hG rfl h3 hm2
      simp only [PO.act]
      generalize (l'.ev s.e).bare = xv at hxx hok ⊢
      generalize (c'.ev s.e).bare = yv at hyy hok ⊢
      unfold mks2 at hok ⊢
      split at hok
      · simp only [newOb] at hok
        exact act_mks (ok := True) hdn hG ho hu hi hz g1 g2 g4.1 g4.2 (inv_v hxx) (inv_v hyy) hok.1 hok.2.1 hok.2.2.1 hok.2.2.2
      · exact hok.elim
    · cases g4
  · cases hc
end
end Go.Ev

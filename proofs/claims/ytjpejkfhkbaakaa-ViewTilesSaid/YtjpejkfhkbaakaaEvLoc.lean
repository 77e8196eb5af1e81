import Derived.Test.YtjpejkfhkbaakaaEvOps
namespace Go.Ev
open Go
set_option linter.unnecessarySimpa false
set_option linter.unusedVariables false
set_option linter.unusedSimpArgs false

def Opd.us : Opd → List Nat
  | .t n => [n]
  | .c _ => []
def usO : Option Opd → List Nat
  | none => []
  | some x => x.us
def usL : List Opd → List Nat
  | [] => []
  | x :: xs => x.us ++ usL xs
def usP : List (Nat × Nat × Opd) → List Nat
  | [] => []
  | (_, _, x) :: r => x.us ++ usP r
/-- The slots that an operation looks at. -/
def PO.us : PO → List Nat
  | .mov x => x.us
  | .pick c a b => c.us ++ (a.us ++ b.us)
  | .bin _ x y => x.us ++ y.us
  | .beq _ x y => x.us ++ y.us
  | .eqn _ x => x.us
  | .un _ x => x.us
  | .conv _ x => x.us
  | .toStr x => x.us
  | .toBytes _ x => x.us
  | .new _ => []
  | .box x => x.us
  | .build _ ps => usP ps
  | .mkf _ xs _ => usL xs
  | .eqa _ _ x y => x.us ++ y.us
  | .bsl _ _ ps => usL ps
  | .ld _ x => x.us
  | .st _ x y => x.us ++ y.us
  | .nck x => x.us
  | .fa _ x => x.us
  | .fld _ _ x => x.us
  | .ia _ _ x i => x.us ++ i.us
  | .ixs x i => x.us ++ i.us
  | .sls x lo hi => x.us ++ (usO lo ++ usO hi)
  | .sll _ x lo hi mx => x.us ++ (usO lo ++ (usO hi ++ usO mx))
  | .mks _ _ _ l c => l.us ++ c.us
  | .len _ x => x.us
  | .app _ _ _ x y => x.us ++ y.us
  | .cpy _ x y => x.us ++ y.us
  | .ext x _ => x.us
  | .mm _ x ys => x.us ++ usL ys
  | .iaa _ _ x i => x.us ++ i.us
  | .carry _ x y c => x.us ++ (y.us ++ c.us)
theorem fa_app {p : Nat → Prop} {a b : List Nat} (h : ∀ t, t ∈ a ++ b → p t) : (∀ t, t ∈ a → p t) ∧ ∀ t, t ∈ b → p t := ⟨fun t ht => h t (by simp [ht]), fun t ht => h t (by simp [ht])⟩

section
variable {e e' : Env} {ob ob' : Obs}
theorem ev_congr {x : Opd} (h : ∀ t, t ∈ x.us → e' t = e t) : x.ev e' = x.ev e := by
  cases x with
  | t n => exact h n (by simp [Opd.us])
  | c x => rfl
theorem mayO_congr {g : Bool} {x : Option Opd} (h : ∀ t, t ∈ usO x → e' t = e t) : PO.see.mayO g e' x = PO.see.mayO g e x := by
  cases x with
  | none => rfl
  | some x => simp only [PO.see.mayO, ev_congr h]
theorem bareO_congr {x : Option Opd} (h : ∀ t, t ∈ usO x → e' t = e t) : PO.see.bareO e' x = PO.see.bareO e x := by
  cases x with
  | none => rfl
  | some x => simp only [PO.see.bareO, ev_congr h]
theorem fillA_congr {g : Bool} : ∀ {ps : List (Nat × Nat × Opd)} {zs : List AV}, (∀ t, t ∈ usP ps → e' t = e t) → fillA g e' zs ps = fillA g e zs ps
  | [], zs, h => rfl
  | (off, n, x) :: r, zs, h => by
    obtain ⟨h1, h2⟩ := fa_app (a := x.us) h
    simp only [fillA, ev_congr h1]
    rw [fillA_congr h2]
theorem barel_congr : ∀ {xs : List Opd}, (∀ t, t ∈ usL xs → e' t = e t) → barel e' xs = barel e xs
  | [], h => rfl
  | x :: r, h => by
    obtain ⟨h1, h2⟩ := fa_app (a := x.us) h
    simp only [barel, ev_congr h1, barel_congr h2]
theorem mayl_congr {g : Bool} : ∀ {xs : List Opd}, (∀ t, t ∈ usL xs → e' t = e t) → mayl g e' xs = mayl g e xs
  | [], h => rfl
  | x :: r, h => by
    obtain ⟨h1, h2⟩ := fa_app (a := x.us) h
    simp only [mayl, ev_congr h1, mayl_congr h2]
theorem elts_congr {g : Bool} : ∀ {xs : List Opd}, (∀ t, t ∈ usL xs → e' t = e t) → eltsOf e' ob g xs = eltsOf e ob g xs
  | [], h => rfl
  | x :: r, h => by
    obtain ⟨h1, h2⟩ := fa_app (a := x.us) h
    simp only [eltsOf, ev_congr h1, elts_congr h2]
theorem see_env {o : PO} {g : Bool} (h : ∀ t, t ∈ o.us → e' t = e t) : o.see g e' ob = o.see g e ob := by
  cases o with
  | pick c a b | carry _ c a b =>
    obtain ⟨h1, h2⟩ := fa_app (a := c.us) h
    obtain ⟨h2, h3⟩ := fa_app h2
    simp only [PO.see, ev_congr h1, ev_congr h2, ev_congr h3]
  | bin _ x y | beq _ x y | eqa _ _ x y | ia _ _ x y | ixs x y | iaa _ _ x y =>
    obtain ⟨h1, h2⟩ := fa_app h
    simp only [PO.see, ev_congr h1, ev_congr h2]
  | sls x lo hi =>
    obtain ⟨h1, h2⟩ := fa_app (a := x.us) h
    obtain ⟨h2, h3⟩ := fa_app h2
    simp only [PO.see, ev_congr h1, mayO_congr h2, mayO_congr h3, bareO_congr h2, bareO_congr h3]
  | sll _ x lo hi mx =>
    obtain ⟨h1, h2⟩ := fa_app (a := x.us) h
    obtain ⟨h2, h3⟩ := fa_app (a := usO lo) h2
    obtain ⟨h3, h4⟩ := fa_app h3
    simp only [PO.see, ev_congr h1, mayO_congr h2, mayO_congr h3, mayO_congr h4, bareO_congr h2, bareO_congr h3, bareO_congr h4]
  | mm _ x ys =>
    obtain ⟨h1, h2⟩ := fa_app (a := x.us) h
    simp only [PO.see, ev_congr h1, mayl_congr h2, barel_congr h2]
  | build zs ps => simp only [PO.see, fillA_congr (show ∀ t, t ∈ usP ps → e' t = e t from h)]
  | mkf f xs k =>
    simp only [PO.see, mayl_congr (show ∀ t, t ∈ usL xs → e' t = e t from h), barel_congr (show ∀ t, t ∈ usL xs → e' t = e t from h)]
  | mov x | eqn _ x | un _ x | conv _ x | toStr x | ld _ x | nck x | fa _ x | fld _ _ x | len _ x | ext x _ =>
    simp only [PO.see, ev_congr (show ∀ t, t ∈ x.us → e' t = e t from h)]
  | toBytes _ _ | new _ | box _ | bsl _ _ _ | st _ _ _ | mks _ _ _ _ _ | app _ _ _ _ _ | cpy _ _ _ => rfl
theorem act_env {o : PO} {d : Nat} (h : ∀ t, t ∈ o.us → e' t = e t) : o.act d e' ob = o.act d e ob := by
  cases o with
  | st _ x y | mks _ _ _ x y | app _ _ _ x y | cpy _ x y =>
    obtain ⟨h1, h2⟩ := fa_app h
    simp only [PO.act, ev_congr h1, ev_congr h2]
  | bsl _ _ ps => simp only [PO.act, elts_congr (show ∀ t, t ∈ usL ps → e' t = e t from h)]
  | box x | toBytes _ x => simp only [PO.act, ev_congr (show ∀ t, t ∈ x.us → e' t = e t from h)]
  | _ => rfl

theorem row_congr {id ver : Nat} (h : ob' id = ob id) : rowAt ob' id ver = rowAt ob id ver := by unfold rowAt; rw [h]
theorem box_congr {id ver : Nat} (h : ob' id = ob id) : boxAt ob' id ver = boxAt ob id ver := by unfold boxAt; rw [h]
theorem ptr_congr {id ver : Nat} (h : ob' id = ob id) : ptrAt ob' id ver = ptrAt ob id ver := by unfold ptrAt; rw [h]
theorem nv_congr {id : Nat} (h : ob' id = ob id) : nv ob' id = nv ob id := by unfold nv; rw [h]
/-- What is read is the same. -/
def Same (ob ob' : Obs) (l : List Nat) : Prop := ∀ i, i ∈ l → ob' i = ob i
def Quiet (ob ob' : Obs) (f : Obs → Rs) : Prop := (f ob).ok → Same ob ob' (f ob).rd → (f ob').ok ∧ (f ob').v = (f ob).v
theorem Quiet.and {p : Prop} {f : Obs → Rs} (h : Quiet ob ob' f) : Quiet ob ob' fun ob => Rs.and p (f ob) := fun ⟨hp, hok⟩ hs => ⟨⟨hp, (h hok hs).1⟩, (h hok hs).2⟩
theorem quiet_q {p : Prop} {v : Vs} : Quiet ob ob' fun ob => Vs.q ob p v := fun h _ => ⟨h, rfl⟩
theorem quiet_row {g : Bool} {id ver : Nat} {k : Nat × RV × Bool × Bool × List RV → Obs → Rs} (hk : ∀ x, id ∈ (k x ob).rd) (hq : ∀ x, Quiet ob ob' (k x)) :
    Quiet ob ob' fun ob => match rowAt ob id ver with | some x => k x ob | none => badI g id ob := by
  intro hok hs
  rcases hr : rowAt ob id ver with _ | x
  · simp only [hr] at hok hs ⊢
    rw [row_congr (hs id (by simp [badI])), hr]
    exact ⟨hok, rfl⟩
  · simp only [hr] at hok hs ⊢
    rw [row_congr (hs id (hk x)), hr]
    exact hq x hok hs
theorem quiet_box {g : Bool} {id ver : Nat} {k : List AV → Obs → Rs} (hk : ∀ x, id ∈ (k x ob).rd) (hq : ∀ x, Quiet ob ob' (k x)) :
    Quiet ob ob' fun ob => match boxAt ob id ver with | some x => k x ob | none => badI g id ob := by
  intro hok hs
  rcases hr : boxAt ob id ver with _ | x
  · simp only [hr] at hok hs ⊢
    rw [box_congr (hs id (by simp [badI])), hr]
    exact ⟨hok, rfl⟩
  · simp only [hr] at hok hs ⊢
    rw [box_congr (hs id (hk x)), hr]
    exact hq x hok hs
theorem quiet_ptr {g : Bool} {id ver : Nat} {k : Unit → Obs → Rs} (hk : ∀ x, id ∈ (k x ob).rd) (hq : ∀ x, Quiet ob ob' (k x)) :
    Quiet ob ob' fun ob => match ptrAt ob id ver with | some x => k x ob | none => badI g id ob := by
  intro hok hs
  rcases hr : ptrAt ob id ver with _ | x
  · simp only [hr] at hok hs ⊢
    rw [ptr_congr (hs id (by simp [badI])), hr]
    exact ⟨hok, rfl⟩
  · simp only [hr] at hok hs ⊢
    rw [ptr_congr (hs id (hk x)), hr]
    exact hq x hok hs
theorem quiet_len {g str : Bool} {x : AV} : Quiet ob ob' (len1 g str x) := by
  cases x with
  | own id ver lo n => exact quiet_row (k := fun _ ob => ⟨str = false, int .i64 n, ob, [id], []⟩) (fun _ => by simp) fun _ h _ => ⟨h, rfl⟩
  | r x => cases x with
    | v x => cases x <;> exact quiet_q
    | _ => exact quiet_q
  | _ => exact quiet_q
theorem quiet_ia {g : Bool} {sz : Nat} {z : RV} {x y : AV} : Quiet ob ob' (ia2 g sz z x y) := by
  rcases y with ⟨v | _ | _⟩ | _ | _ | _ | _ | _ | _ | _ | _ | _ | _
  · cases v with
    | int k i =>
      cases x with
      | own id ver lo n =>
        intro hok hs
        simp only [ia2] at hok hs ⊢
        rcases hr : rowAt ob id ver with _ | c
        · rw [hr] at hok hs
          rw [row_congr (hs id (by simp [badI, ldb, ldr])), hr]
          exact ⟨hok, rfl⟩
        · rw [hr] at hok hs
          rw [row_congr (hs id (by simp)), hr]
          exact ⟨hok, rfl⟩
      | r x => cases x <;> exact quiet_q
      | _ => exact quiet_q
    | _ => rcases x with ⟨_ | _ | _⟩ | _ | _ | _ | _ | _ | _ | _ | _ | _ | _ <;> exact quiet_q
  all_goals rcases x with ⟨_ | _ | _⟩ | _ | _ | _ | _ | _ | _ | _ | _ | _ | _ <;> exact quiet_q
theorem quiet_iaa {g : Bool} {n sz : Nat} {x y : AV} : Quiet ob ob' (iaa2 g n sz x y) := by
  rcases y with ⟨v | _ | _⟩ | _ | _ | _ | _ | _ | _ | _ | _ | _ | _
  · cases v with
    | int k i =>
      cases x with
      | ptr id ver o =>
        intro hok hs
        simp only [iaa2] at hok hs ⊢
        rcases hr : boxAt ob id ver with _ | c
        · rw [hr] at hok hs
          rw [box_congr (hs id (by simp [badI, ldb, ldr])), hr]
          exact ⟨hok, rfl⟩
        · rw [hr] at hok hs
          rw [box_congr (hs id (by simp)), hr]
          exact ⟨hok, rfl⟩
      | oel id ver j o =>
        intro hok hs
        simp only [iaa2] at hok hs ⊢
        rcases hr : rowAt ob id ver with _ | c
        · rw [hr] at hok hs
          rw [row_congr (hs id (by simp [badI, ldb, ldr])), hr]
          exact ⟨hok, rfl⟩
        · rw [hr] at hok hs
          rw [row_congr (hs id (by simp)), hr]
          exact ⟨hok, rfl⟩
      | _ => exact quiet_q
    | _ => rcases x with ⟨_ | _ | _⟩ | _ | _ | _ | _ | _ | _ | _ | _ | _ | _ <;> exact quiet_q
  all_goals rcases x with ⟨_ | _ | _⟩ | _ | _ | _ | _ | _ | _ | _ | _ | _ | _ <;> exact quiet_q
theorem quiet_nck {g : Bool} {x : AV} : Quiet ob ob' (nck1 g x) := by
  cases x with
  | ptr id ver off => exact quiet_ptr (k := fun _ ob => ⟨True, .ptr id ver off, ob, [id], []⟩) (fun _ => by simp) fun _ h _ => ⟨h, rfl⟩
  | oel id ver i off => exact quiet_row (k := fun _ ob => ⟨True, .oel id ver i off, ob, [id], []⟩) (fun _ => by simp) fun _ h _ => ⟨h, rfl⟩
  | fn f xs => cases f <;> exact quiet_q
  | _ => exact quiet_q
theorem quiet_eqn {g neg : Bool} {x : AV} : Quiet ob ob' (eqn1 g neg x) := by
  cases x with
  | ptr id ver off => exact quiet_ptr (k := fun _ ob => ⟨True, bl neg, ob, [id], []⟩) (fun _ => by simp) fun _ h _ => ⟨h, rfl⟩
  | r x => cases x with
    | v x => cases x with
      | pointer a => cases a <;> exact quiet_q
      | _ => exact quiet_q
    | _ => exact quiet_q
  | _ => exact quiet_q
theorem quiet_fa {g : Bool} {off : Nat} {x : AV} : Quiet ob ob' (fa1 g off x) := by
  cases x with
  | ptr id ver o => exact quiet_box (k := fun _ ob => ⟨True, .ptr id ver (o + off), ob, [id], []⟩) (fun _ => by simp) fun _ h _ => ⟨h, rfl⟩
  | oel id ver i o =>
    intro hok hs
    simp only [fa1] at hok hs ⊢
    rcases hr : rowAt ob id ver with _ | c
    · rw [hr] at hok hs
      rw [row_congr (hs id (by simp [badI, ldb, ldr])), hr]
      exact ⟨hok, rfl⟩
    · rw [hr] at hok hs
      rw [row_congr (hs id (by simp)), hr]
      exact ⟨hok, rfl⟩
  | _ => exact quiet_q
theorem quiet_ldb {id : Nat} {g : Bool} {n : Option Nat} {off : Nat} {c : Option (List AV)} : Quiet ob ob' fun ob => ldb id ob g n off c := by
  unfold ldb
  intro h hs
  split at h <;> (try split at h) <;> exact ⟨h, rfl⟩
theorem quiet_ldr {id : Nat} {g : Bool} {n : Option Nat} {idx off : Nat} {c : Option (Nat × RV × Bool × Bool × List RV)} : Quiet ob ob' fun ob => ldr id ob g n idx off c := by
  unfold ldr
  intro h hs
  split at h <;> (try split at h) <;> exact ⟨h, rfl⟩
theorem ldb_rd {id : Nat} {g : Bool} {n : Option Nat} {off : Nat} {c : List AV} : id ∈ (ldb id ob g n off (some c)).rd := by unfold ldb; cases n <;> simp
theorem ldr_rd {id : Nat} {g : Bool} {n : Option Nat} {idx off : Nat} {c : Nat × RV × Bool × Bool × List RV} : id ∈ (ldr id ob g n idx off (some c)).rd := by unfold ldr; cases n <;> simp
theorem quiet_ld {g : Bool} {n : Option Nat} {x : AV} : Quiet ob ob' (ld1 g n x) := by
  cases x with
  | ptr id ver off =>
    intro hok hs
    simp only [ld1] at hok hs ⊢
    rcases hr : boxAt ob id ver with _ | c
    · rw [hr] at hok hs
      rw [box_congr (hs id (by simp [badI, ldb, ldr])), hr]
      exact ⟨hok, rfl⟩
    · rw [hr] at hok hs
      rw [box_congr (hs id ldb_rd), hr]
      exact quiet_ldb hok hs
  | oel id ver i off =>
    intro hok hs
    simp only [ld1] at hok hs ⊢
    rcases hr : rowAt ob id ver with _ | c
    · rw [hr] at hok hs
      rw [row_congr (hs id (by simp [badI, ldb, ldr])), hr]
      exact ⟨hok, rfl⟩
    · rw [hr] at hok hs
      rw [row_congr (hs id ldr_rd), hr]
      exact quiet_ldr hok hs
  | rp ys => cases n <;> exact quiet_q
  | _ => exact quiet_q
theorem quiet_sll {g : Bool} {sz : Nat} {x : AV} {lo hi mx : Option AV} : Quiet ob ob' (sll4 g sz x lo hi mx) := by
  cases x with
  | own id ver l0 n =>
    intro hok hs
    rcases h1 : bnd 0 lo with _ | l <;> rcases h2 : bnd n hi with _ | h <;> rcases h3 : bnd n mx with _ | m <;> simp only [sll4, h1, h2, h3] at hok hs ⊢
    all_goals first
      | exact ⟨hok, rfl⟩
      | (rcases hr : rowAt ob id ver with _ | c
         · rw [hr] at hok hs
           rw [row_congr (hs id (by simp [badI])), hr]
           exact ⟨hok, rfl⟩
         · rw [hr] at hok hs
           rw [row_congr (hs id (by simp)), hr]
           exact ⟨hok, rfl⟩)
  | r x => cases x with
    | sl sz' xs =>
      intro hok hs
      simp only [sll4] at hok hs ⊢
      split at hok <;> exact ⟨hok, rfl⟩
    | _ => exact quiet_q
  | _ => exact quiet_q
theorem src_congr {x : AV} {sz : Nat} {ys : List RV} {l : List Nat} (h : src ob x = some (sz, ys, l)) (hs : Same ob ob' l) : src ob' x = some (sz, ys, l) := by
  unfold src at h ⊢
  split at h
  · exact h
  · exact h
  · rename_i id ver lo len
    rcases hr : rowAt ob id ver with _ | c
    · simp only [hr] at h; cases h
    · simp only [hr] at h
      cases h
      rw [row_congr (hs id (by simp)), hr]
  · cases h
theorem quiet_str {x : AV} : Quiet ob ob' fun ob => toStr1 ob (src ob x) := by
  intro hok hs
  rcases hr : src ob x with _ | ⟨sz, ys, l⟩
  · simp only [hr, toStr1] at hok; exact hok.1.elim
  · simp only [hr, toStr1] at hok hs ⊢
    rw [src_congr hr hs]
    exact ⟨hok, rfl⟩
theorem see_ob {o : PO} {g : Bool} {e : Env} : Quiet ob ob' fun ob => o.see g e ob := by
  cases o with
  | eqn _ x => exact Quiet.and quiet_eqn
  | len _ x => exact Quiet.and quiet_len
  | ia _ _ x i => exact Quiet.and quiet_ia
  | iaa _ _ x i => exact Quiet.and quiet_iaa
  | ld _ x => exact Quiet.and quiet_ld
  | nck x => exact Quiet.and quiet_nck
  | fa _ x => exact Quiet.and quiet_fa
  | sll _ x lo hi mx => exact Quiet.and quiet_sll
  | toStr x => exact Quiet.and quiet_str
  | _ => exact quiet_q
/-- What of an object an address hangs on: its version, its kind, the size of a row's elements. -/
def pin : Option (Nat × Ob) → Option (Nat × Option Nat)
  | some (v, .box _) => some (v, none)
  | some (v, .row sz _ _ _ _) => some (v, some sz)
  | _ => none
def SamePl (ob ob' : Obs) (l : List Nat) : Prop := ∀ i, i ∈ l → pin (ob' i) = pin (ob i)
/-- Operations that only reckon an address. -/
def PO.adr : PO → Bool
  | .fa _ _ => true
  | .iaa _ _ _ _ => true
  | .ia _ _ _ _ => true
  | _ => false
def QuietP (ob ob' : Obs) (f : Obs → Rs) : Prop := (f ob).ok → SamePl ob ob' (f ob).rd → (f ob').ok ∧ (f ob').v = (f ob).v
theorem QuietP.and {p : Prop} {f : Obs → Rs} (h : QuietP ob ob' f) : QuietP ob ob' fun ob => Rs.and p (f ob) := fun ⟨hp, hok⟩ hs => ⟨⟨hp, (h hok hs).1⟩, (h hok hs).2⟩
theorem quietP_q {p : Prop} {v : Vs} : QuietP ob ob' fun ob => Vs.q ob p v := fun h _ => ⟨h, rfl⟩
theorem box_pin {id ver : Nat} (h : pin (ob' id) = pin (ob id)) : (boxAt ob id ver = none ∧ boxAt ob' id ver = none) ∨ ∃ c c', boxAt ob id ver = some c ∧ boxAt ob' id ver = some c' := by
  unfold boxAt
  revert h
  generalize ob id = q
  generalize ob' id = q'
  intro h
  rcases q with _ | ⟨v, c | ⟨sz, z, app, wr, xs⟩ | T⟩ <;> rcases q' with _ | ⟨v', c' | ⟨sz', z', app', wr', xs'⟩ | T'⟩ <;> simp [pin] at h ⊢
  subst h
  by_cases hv : ver = v' <;> simp [hv]
theorem row_pin {id ver : Nat} (h : pin (ob' id) = pin (ob id)) : (rowAt ob id ver = none ∧ rowAt ob' id ver = none) ∨ ∃ sz c c', rowAt ob id ver = some (sz, c) ∧ rowAt ob' id ver = some (sz, c') := by
  unfold rowAt
  revert h
  generalize ob id = q
  generalize ob' id = q'
  intro h
  rcases q with _ | ⟨v, c | ⟨sz, z, app, wr, xs⟩ | T⟩ <;> rcases q' with _ | ⟨v', c' | ⟨sz', z', app', wr', xs'⟩ | T'⟩ <;> simp [pin] at h ⊢
  obtain ⟨rfl, rfl⟩ := h
  by_cases hv : ver = v' <;> simp [hv]
theorem quietP_fa {g : Bool} {off : Nat} {x : AV} : QuietP ob ob' (fa1 g off x) := by
  cases x with
  | ptr id ver o =>
    intro hok hs
    simp only [fa1] at hok hs ⊢
    have hp : pin (ob' id) = pin (ob id) := hs id (by split <;> simp [badI])
    rcases box_pin (ver := ver) hp with ⟨h1, h2⟩ | ⟨c, c', h1, h2⟩
    · rw [h1] at hok ⊢; rw [h2]; exact ⟨hok, rfl⟩
    · rw [h1]; rw [h2]; exact ⟨trivial, rfl⟩
  | oel id ver i o =>
    intro hok hs
    simp only [fa1] at hok hs ⊢
    have hp : pin (ob' id) = pin (ob id) := hs id (by split <;> simp [badI])
    rcases row_pin (ver := ver) hp with ⟨h1, h2⟩ | ⟨sz, c, c', h1, h2⟩
    · rw [h1] at hok ⊢; rw [h2]; exact ⟨hok, rfl⟩
    · rw [h1] at hok ⊢; rw [h2]; exact ⟨hok, rfl⟩
  | _ => exact quietP_q
theorem quietP_iaa {g : Bool} {n sz : Nat} {x y : AV} : QuietP ob ob' (iaa2 g n sz x y) := by
  rcases y with ⟨v | _ | _⟩ | _ | _ | _ | _ | _ | _ | _ | _ | _ | _
  · cases v with
    | int k i =>
      cases x with
      | ptr id ver o =>
        intro hok hs
        simp only [iaa2] at hok hs ⊢
        have hp : pin (ob' id) = pin (ob id) := hs id (by split <;> simp [badI])
        rcases box_pin (ver := ver) hp with ⟨h1, h2⟩ | ⟨c, c', h1, h2⟩
        · rw [h1] at hok ⊢; rw [h2]; exact ⟨hok, rfl⟩
        · rw [h1] at hok ⊢; rw [h2]; exact ⟨hok, rfl⟩
      | oel id ver j o =>
        intro hok hs
        simp only [iaa2] at hok hs ⊢
        have hp : pin (ob' id) = pin (ob id) := hs id (by split <;> simp [badI])
        rcases row_pin (ver := ver) hp with ⟨h1, h2⟩ | ⟨sz', c, c', h1, h2⟩
        · rw [h1] at hok ⊢; rw [h2]; exact ⟨hok, rfl⟩
        · rw [h1] at hok ⊢; rw [h2]; exact ⟨hok, rfl⟩
      | _ => exact quietP_q
    | _ => rcases x with ⟨_ | _ | _⟩ | _ | _ | _ | _ | _ | _ | _ | _ | _ | _ <;> exact quietP_q
  all_goals rcases x with ⟨_ | _ | _⟩ | _ | _ | _ | _ | _ | _ | _ | _ | _ | _ <;> exact quietP_q
theorem quietP_ia {g : Bool} {sz : Nat} {z : RV} {x y : AV} : QuietP ob ob' (ia2 g sz z x y) := by
  rcases y with ⟨v | _ | _⟩ | _ | _ | _ | _ | _ | _ | _ | _ | _ | _
  · cases v with
    | int k i =>
      cases x with
      | own id ver lo n =>
        intro hok hs
        simp only [ia2] at hok hs ⊢
        have hp : pin (ob' id) = pin (ob id) := hs id (by split <;> simp [badI])
        rcases row_pin (ver := ver) hp with ⟨h1, h2⟩ | ⟨sz', c, c', h1, h2⟩
        · rw [h1] at hok ⊢; rw [h2]; exact ⟨hok, rfl⟩
        · rw [h1] at hok ⊢; rw [h2]; exact ⟨hok, rfl⟩
      | r x => cases x <;> exact quietP_q
      | _ => exact quietP_q
    | _ => rcases x with ⟨_ | _ | _⟩ | _ | _ | _ | _ | _ | _ | _ | _ | _ | _ <;> exact quietP_q
  all_goals rcases x with ⟨_ | _ | _⟩ | _ | _ | _ | _ | _ | _ | _ | _ | _ | _ <;> exact quietP_q
theorem adr_ob {o : PO} {g : Bool} {e : Env} (h : o.adr = true) : QuietP ob ob' fun ob => o.see g e ob := by
  cases o with
  | fa _ x => exact QuietP.and quietP_fa
  | iaa _ _ x i => exact QuietP.and quietP_iaa
  | ia _ _ x i => exact QuietP.and quietP_ia
  | _ => cases h
/-- A store moves nothing. -/
theorem st_pin {n : Nat} {x y : AV} {i : Nat} : pin ((st2 n x y ob).ob i) = pin (ob i) := by
  cases x with
  | ptr id ver off =>
    simp only [st2, Rs.and]
    rcases hr : boxAt ob id ver with _ | c
    · rfl
    · simp only [stb, upd]
      by_cases hi : i = id
      · subst hi
        rw [if_pos rfl]
        unfold boxAt at hr
        split at hr
        · rename_i v cells ho
          split at hr
          · rename_i hv; rw [ho, hv]; rfl
          · cases hr
        · cases hr
      · rw [if_neg hi]
  | oel id ver idx off =>
    simp only [st2]
    split
    · rename_i ys hy
      simp only [Rs.and]
      rcases hr : rowAt ob id ver with _ | ⟨sz, z, app, wr, xs⟩
      · rfl
      · simp only [str, upd]
        by_cases hi : i = id
        · subst hi
          rw [if_pos rfl]
          unfold rowAt at hr
          split at hr
          · rename_i v sz' z' app' wr' xs' ho
            split at hr
            · rename_i hv; cases hr; rw [ho, hv]; rfl
            · cases hr
          · cases hr
        · rw [if_neg hi]
    · rfl
  | _ => rfl
end
end Go.Ev

import Derived.Below
import Derived.Test.YtjpejkfhkbaakaaGreatM4
namespace Go.Ev
set_option maxRecDepth 100000
open Go Go.RowKit
set_option linter.unusedSectionVars false
set_option linter.unnecessarySimpa false
set_option linter.unusedSimpArgs false
set_option linter.unusedVariables false
abbrev All0 (w : World) : Nat → Prop := Free (fun _ => True) (ob0 []) (fun _ => none) w
abbrev Rel0 (w : World) : AV → Value → Prop := RelA w (All0 w) (ob0 []) (fun _ => none)
theorem calls_of_triple {P : Program} {f : FuncId} {args : List AV} {res : AV} {cargs : Array Value} (h : Triple P f args [] res []) (w : World) (hgl : Gl P w fun _ => False) (hs : cargs.size = args.length)
  (hr : ∀ (i : Nat) (x : AV) (c : Value), args[i]? = some x → cargs[i]? = some c → Rel0 w x c) : Calls P f cargs w fun e w' => ∃ c, e = .returned c ∧ Below w.heap.size w w' ∧ ∃ ρ', RelA w' (Free (fun _ => True) (ob0 []) ρ' w') (ob0 []) ρ' res c := by
 have hno : ∀ b, ¬ Held (ob0 []) (fun _ => none) b := fun b ⟨_, _, h, _⟩ => by simp [obs] at h
 refine (h w cargs (fun _ => none) (fun _ => True) (hgl.keep fun g _ _ => ⟨rfl, fun hb => hno g hb⟩) (fun _ _ => trivial) ⟨fun id v o h => by simp [obs] at h, fun id id' x x' b h => by simp [obs] at h, Keeps.refl _ _, fun id v o b h => by simp [obs] at h, fun id b h => by simp at h⟩ hs hr).mono ?_
 rintro e w' ⟨c, ρ', rfl, hM, hR⟩
 exact ⟨c, rfl, ⟨hM.keeps.os, hM.keeps.tape, hM.keeps.output, hM.keeps.size, fun k hk => hM.keeps.block k hk (hno k)⟩, ρ', hR⟩
theorem law_of_triple {P : Program} {f : FuncId} {args : List AV} {cargs : Array Value} (h : Triple P f args [] (bl true) []) (w : World) (hgl : Gl P w fun _ => False) (hs : cargs.size = args.length)
  (hr : ∀ (i : Nat) (x : AV) (c : Value), args[i]? = some x → cargs[i]? = some c → Rel0 w x c) : Calls P f cargs w fun e w' => e = .returned (.bool true) ∧ Below w.heap.size w w' := by
 refine (calls_of_triple h w hgl hs hr).mono ?_
 rintro e w' ⟨c, rfl, hb, ρ', hR⟩
 cases hR with
 | r h => cases h; exact ⟨rfl, hb⟩
theorem gl_none {P : Program} (h1 : P.globalNamed "internal/strconv.uint64pow10" = none) (h2 : errs = true → P.globalNamed "strconv.ErrSyntax" = none) (h3 : errs = true → P.globalNamed "strconv.ErrRange" = none) (w : World) (h4 : errs = true → P.globalNamed "unicode/utf8.first" = none := by intro h; cases h) (h5 : errs = true → P.globalNamed "unicode/utf8.acceptRanges" = none := by intro h; cases h) : Gl P w fun _ => False :=
 ⟨fun g h => (by rw [h1] at h; cases h), fun he g h => (by rw [h2 he] at h; cases h), fun he g h => (by rw [h3 he] at h; cases h), fun he g h => (by rw [h4 he] at h; cases h), fun he g h => (by rw [h5 he] at h; cases h)⟩
theorem rel0_nil {w : World} : ∀ (i : Nat) (x : AV) (c : Value), ([] : List AV)[i]? = some x → (#[] : Array Value)[i]? = some c → Rel0 w x c := fun i x c h => by simp at h
theorem rel0_cons {w : World} {x : AV} {c : Value} {xs : List AV} {cs : List Value} (h : Rel0 w x c) (hr : ∀ (i : Nat) (x : AV) (c : Value), xs[i]? = some x → cs.toArray[i]? = some c → Rel0 w x c) :
  ∀ (i : Nat) (y : AV) (d : Value), (x :: xs)[i]? = some y → (c :: cs).toArray[i]? = some d → Rel0 w y d := fun i y d hy hd => by
 cases i with
 | zero => simp at hy hd; subst hy; subst hd; exact h
 | succ i => exact hr i y d (by simpa using hy) (by simpa using hd)
theorem rel0_v {w : World} (v : Value) : Rel0 w (.r (.v v)) v := .r (.v v)

open Go
mutual
theorem imV_free (F : Ren) : ∀ (x : AV), hids x = [] → imV F x = x
 | .r x, h => by rw [imV]
 | .agg xs, h => by rw [imV, imL_free F xs (by simpa [hids] using h)]
 | .tup xs, h => by rw [imV, imL_free F xs (by simpa [hids] using h)]
 | .nils sz z, h => by rw [imV]
 | .own id ver lo len, h => by simp [hids] at h
 | .ptr id ver off, h => by simp [hids] at h
 | .oel id ver idx off, h => by simp [hids] at h
 | .rp ys, h => by rw [imV]
 | .fn f xs k, h => by rw [imV, imL_free F xs (by simpa [hids] using h)]
 | .mp id ver, h => by simp [hids] at h
 | .ifc t x, h => by rw [imV, imV_free F x (by simpa [hids] using h)]
 | .gd b x, h => by rw [imV, imV_free F x (by simpa [hids] using h)]
 | .undef, h => by rw [imV]
theorem imL_free (F : Ren) : ∀ (xs : List AV), hidL xs = [] → imL F xs = xs
 | [], h => by rw [imL]
 | x :: xs, h => by
  rw [hidL, List.append_eq_nil_iff] at h
  rw [imL, imV_free F x h.1, imL_free F xs h.2]
end
section
variable {P : Program} {f : FuncId} {as : List AV} {res : AV} {T : AbsT} {w w' : World} {ob ob' : Obs} {ρ ρ' : Pl → Option Nat} {R R' : Nat → Prop}
theorem nil_own {as : List AV} {sz : Nat} {z : RV} (h : Triple P f as [] (.nils sz z) []) : Triple P f as [] (.own 1000000 0 0 0) [.row sz z true true []] := by
 intro w cargs ρ B hgl hB hM hcs hargs
 refine (h w cargs ρ B hgl hB hM hcs hargs).mono ?_
 rintro e w' ⟨c, ρ', rfl, hM', hr⟩
 cases hr
 have hob : ob0 [Ob.row sz z true true []] 1000000 = some (0, .row sz z true true []) := by simp [ob0, obs, upd]
 have hid : ∀ id x, ob0 [Ob.row sz z true true []] id = some x → id = 1000000 ∧ x = (0, .row sz z true true []) := fun id x hx => by
  obtain ⟨h1, h2, h3⟩ := ob0_some hx
  have : id - 1000000 = 0 := by
   have := (List.getElem?_eq_some_iff.1 h2).1
   simpa using this
  have hid : id = 1000000 := by omega
  subst hid
  rw [hob] at hx
  exact ⟨rfl, (Option.some.inj hx).symm⟩
 refine ⟨_, fun _ => none, rfl, ⟨fun id v o hx => ?_, fun id id' x x' b hx hx' _ _ => by rw [(hid id _ hx).1, (hid id' _ hx').1], hM'.keeps, fun id v o b hx hf => ?_, fun id b hp => by simp [pinOf, obs] at hp⟩, ?_⟩
 ·obtain ⟨rfl, hx⟩ := hid id _ hx
  cases hx
  exact .inl ⟨rfl, rfl, rfl⟩
 ·rcases hf with hf | ⟨_, j, hf⟩ <;> cases hf
 ·exact .own _ _ _ _ _ rfl ⟨0, _, hob, Nat.le_refl _, fun _ => ⟨none, 0, rfl, Nat.le_refl _, by simp, by simp, by simp⟩⟩
end

def Fun (P : Program) (f k : Nat) (rs : List RSl) (pc : PC) : Prop :=
 ∀ {args : List AV} {po ro : List Ob} {res : AV}, args.length = k → po.length ≤ 1000 → run P po.length (RetP po.length rs fun v os => v = res ∧ os = ro) [.c pc] ⟨argE 0 args, ob0 po⟩ → Triple P f args po res ro
theorem fun_mk {P : Program} {f k : Nat} {rs : List RSl} {pc : PC} {fn : Func} (hf : P.funcs[f]? = some fn) (hb : fn.body = some (fn.body.getD .skip)) (hn : fn.ntmps ≤ 100000) (hck : chkC P fn.ntmps (fn.body.getD .skip) pc = true) (hk : k ≤ fn.ntmps)
  (hres : fn.results.toList = rs.map RSl.rv) (hag : (rs.all fun p => p.agg P) = true) (hrs : (rs.all fun p => decide (p.1 < fn.ntmps)) = true) (hnd : (rs.map (·.1)).Nodup) : Fun P f k rs pc :=
 fun hal hpo h => triple_of_W hf hb hn hck (by rw [hal]; exact hk) hres hag hrs hnd hpo (W_of_run h)
def p_m (d s : Nat) : PR := ⟨some d, none, 0, .see (.mov (.t s))⟩
def p_s (d : Nat) (x : PO) : PR := ⟨some d, none, 0, .see x⟩
def p_a (d : Nat) (x : PO) : PR := ⟨some d, none, 0, .act x⟩
def p_c (d u f : Nat) (xs : List Opd) : PR := ⟨some d, none, u, .call f xs⟩
def p_g (d g : Nat) (b : Bool) (x : PO) : PR := ⟨some d, some (g, b), 0, .see x⟩
def o_i (n : Int) : Opd := .c (.r (.v (.int .i64 n)))
theorem p_m_eq (d s : Nat) : p_m d s = ⟨some d, none, 0, .see (.mov (.t s))⟩ := (rfl)
theorem p_s_eq (d : Nat) (x : PO) : p_s d x = ⟨some d, none, 0, .see x⟩ := (rfl)
theorem p_a_eq (d : Nat) (x : PO) : p_a d x = ⟨some d, none, 0, .act x⟩ := (rfl)
theorem p_c_eq (d u f : Nat) (xs : List Opd) : p_c d u f xs = ⟨some d, none, u, .call f xs⟩ := (rfl)
theorem p_g_eq (d g : Nat) (b : Bool) (x : PO) : p_g d g b x = ⟨some d, some (g, b), 0, .see x⟩ := (rfl)
theorem o_i_eq (n : Int) : o_i n = .c (.r (.v (.int .i64 n))) := (rfl)
attribute [push_cast high] p_m_eq p_s_eq p_a_eq p_c_eq p_g_eq o_i_eq
def in64 (x : Int) : Prop := -9223372036854775808 ≤ x ∧ x ≤ 9223372036854775807
instance (x : Int) : Decidable (in64 x) := inferInstanceAs (Decidable (_ ∧ _))
theorem wrap_id {x : Int} (h : -9223372036854775808 ≤ x ∧ x ≤ 9223372036854775807) : IntKind.i64.wrap x = x := by rw [IntKind.wrap_i64]; omega
theorem bl_iff {a b : Bool} (h : a = true ↔ b = true) : AV.r (.v (.bool a)) = bl b := by
 have : a = b := Bool.eq_iff_iff.2 h
 rw [this]
def bstr (l : List UInt8) : ByteArray := ⟨l.toArray⟩
theorem maxLen_big : 4611686018427387904 ≤ maxLen := by decide
def by8 (c : UInt8) : RV := .v (.int .u8 c.toNat)
abbrev bys (l : List UInt8) : List RV := l.map by8
abbrev sb (l : List UInt8) : AV := .r (.sl 1 (bys l))
abbrev rowB (l : List UInt8) : Ob := .row 1 (.v (.int .u8 0)) true true (bys l)
theorem good_by8 (c : UInt8) : RV.good 1 (by8 c) = true := rfl
theorem cells_by8 (c : UInt8) : RV.cells (by8 c) = [by8 c] := rfl
theorem one_by8 (c : UInt8) : RV.one (by8 c) = true := rfl
theorem take_map_len {α β : Type} (f : α → β) (l : List α) : List.take l.length (List.map f l) = List.map f l := List.take_of_length_le (by simp)
attribute [push_cast high] good_by8 cells_by8 one_by8 take_map_len

end Go.Ev

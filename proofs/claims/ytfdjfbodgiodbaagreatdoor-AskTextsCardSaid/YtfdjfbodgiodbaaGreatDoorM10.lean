import Derived.WalkKit
import Derived.WalkSpells
import Derived.Test.YtfdjfbodgiodbaaGreatDoorM9
open Go.Proofs.Tryz renaming prog → P0
namespace Go.Ev
set_option maxRecDepth 100000
open Go Go.RowKit
set_option linter.unusedSectionVars false
set_option linter.unnecessarySimpa false
set_option linter.unusedSimpArgs false
set_option linter.unusedVariables false
theorem glob_syn : (P0).globalNamed "strconv.ErrSyntax" = some 4 := by kernel_rfl
theorem glob_rng : (P0).globalNamed "strconv.ErrRange" = some 5 := by kernel_rfl
def optV (o : Option Int) : Value := match o with
 | some v => .tuple #[.int .i64 v, .bool true]
 | none => .tuple #[.int .i64 0, .bool false]
theorem text_calls (n : Int) (hn : in64 n) (w : World) (hgl : Gl P0 w fun _ => False) :
  Calls P0 69 #[.int .i64 n] w fun e w' => e = .returned (.string (txt n)) ∧ Below w.heap.size w w' := by
 refine (calls_of_triple (text_t n hn) w hgl (by simp) (rel0_cons (rel0_v _) rel0_nil)).mono ?_
 rintro e w' ⟨c, rfl, hb, ρ', hR⟩
 cases hR with
 | r h => cases h; exact ⟨rfl, hb⟩
theorem gl_below {P : Program} {w w' : World} (h : Gl P w fun _ => False) (hb : Below w.heap.size w w') : Gl P w' fun _ => False :=
 h.keep fun g hg _ => ⟨hb.block g hg, id⟩
theorem parse_calls (l : List UInt8) (hl : l.length ≤ 140737488355328) (w : World) (hgl : Gl P0 w fun _ => False) :
  Calls P0 89 #[.string (bstr l)] w fun e w' => e = .returned (optV (pv l)) ∧ Below w.heap.size w w' := by
 have hsz : (bstr l).size ≤ 281474976710656 := by rw [bstr_size]; omega
 have hsz2 : (bstr l).size ≤ 9223372036854775806 := by rw [bstr_size]; omega
 have hd : (bstr l).data.toList = l := bstr_data l
 cases h : Lib.parseIntB 64 l
 ·rename_i v
  have hb := Lib.parseIntB_bounds (B := 64) h
  have hv : in64 v := by unfold in64; omega
  have hpv : pv l = if Lib.itoa v = l then some v else none := by simp [pv, h]
  go_enter Go.Proofs.Tryz.func89, Go.Proofs.Tryz.ntmps89
  go_wp2_with fail
  refine (Go.Proofs.Any.strconv_ParseInt_10_at64_ok Go.Proofs.Tryz.laysC174 (bstr l) hsz2 v (by rw [hd]; exact h) w).mono ?_
  rintro e w1 ⟨rfl, hw⟩
  have hb1 : Below w.heap.size w w1 := by
   rcases hw with rfl | ⟨t, rfl⟩
   ·exact Below.refl _ _
   ·exact Lib.bytesWorld_below _ _ _
  clear hw
  go_wp2_with fail
  refine (text_calls v hv w1 (gl_below hgl hb1)).mono ?_
  rintro e w2 ⟨rfl, hb2⟩
  have hb3 : Below w.heap.size w w2 := hb1.trans (hb2.mono hb1.size)
  by_cases he : Lib.itoa v = l
  ·have hq : ((txt v).toList == (bstr l).toList) = true := by rw [txt_eq, bstr_list, bstr_list]; simpa using he
   go_wp2_with fail
   go_ret2
   refine ⟨?_, hb3⟩
   rw [hpv, if_pos he]; rfl
  ·have hq : ((txt v).toList == (bstr l).toList) = false := by rw [txt_eq, bstr_list, bstr_list]; simpa using he
   go_wp2_with fail
   go_ret2
   refine ⟨?_, hb3⟩
   rw [hpv, if_neg he]; rfl
 ·have hpv : pv l = none := by simp [pv, h]
  obtain ⟨cs, k1, tp, p, k2⟩ := var_of (hgl.syn rfl) glob_syn
  subst k2
  go_enter Go.Proofs.Tryz.func89, Go.Proofs.Tryz.ntmps89
  go_wp2_with fail
  refine (Go.Proofs.Any.strconv_ParseInt_10_at64_syntax_var Go.Proofs.Tryz.laysC174 (bstr l) hsz (by rw [hd]; exact h) tp p w k1).mono ?_
  rintro e w1 ⟨N, rfl, _, _, hb1⟩
  go_wp2_with fail
  go_ret2
  exact ⟨by rw [hpv]; rfl, hb1⟩
 ·have hpv : pv l = none := by simp [pv, h]
  obtain ⟨cs, k1, tp, p, k2⟩ := var_of (hgl.rng rfl) glob_rng
  subst k2
  go_enter Go.Proofs.Tryz.func89, Go.Proofs.Tryz.ntmps89
  go_wp2_with fail
  refine (Go.Proofs.Any.strconv_ParseInt_10_at64_range_var Go.Proofs.Tryz.laysC174 (bstr l) hsz (by rw [hd]; exact h) tp p w k1).mono ?_
  rintro e w1 ⟨N, rfl, _, _, hb1⟩
  go_wp2_with fail
  go_ret2
  exact ⟨by rw [hpv]; rfl, hb1⟩
theorem triple_of_calls2 {P : Program} {f : FuncId} {vs : List Value} {r : AV} (h : ∀ w, Gl P w (fun _ => False) → Calls P f vs.toArray w fun e w' => ∃ c, e = .returned c ∧ Below w.heap.size w w' ∧ ∀ R ob ρ, RelA w' R ob ρ r c) : Triple P f (vs.map fun v => .r (.v v)) [] r [] := by
 intro w cargs ρ B hgl hB hM hs hargs
 have hc : cargs = vs.toArray := by
  apply Array.ext (by simpa using hs)
  intro i h1 h2
  have := hargs i (.r (.v (vs[i]'(by simpa using h2)))) cargs[i] (by simp [show i < vs.length by simpa using h2]) (by simp [h1])
  have := inv_v (s := ⟨fun _ => .undef, ob0 []⟩) (X := ⟨0, fun _ => False, fun _ => none, B, w⟩) this
  rw [this]
  simp
 rw [hc]
 refine (h w (hgl.keep fun g _ _ => ⟨rfl, id⟩)).mono ?_
 rintro e w' ⟨c, rfl, hb, hr⟩
 refine ⟨c, ρ, rfl, ⟨fun id v o h => by simp [obs] at h, fun id id' x x' b h => by simp [obs] at h, ⟨hb.os, hb.tape, hb.output, hb.size, fun b hlt _ => hb.block b hlt⟩, fun id v o b h => by simp [obs] at h, fun id b hp => ?_⟩, hr _ _ _⟩
 simp [pinOf, obs] at hp
theorem opt_rel {w : World} {R : Nat → Prop} {ob : Obs} {ρ : Pl → Option Nat} (o : Option Int) : RelA w R ob ρ (opt o) (optV o) := by
 have two : ∀ (a b : Value), RelA w R ob ρ (.tup [.r (.v a), .r (.v b)]) (.tuple #[a, b]) := fun a b => .tup _ _ (by simp) fun i x c hx hc => by
  match i with
  | 0 => simp at hx hc; subst hx; subst hc; exact .r (.v _)
  | 1 => simp at hx hc; subst hx; subst hc; exact .r (.v _)
  | i + 2 => simp at hx
 cases o <;> exact two _ _
theorem parse_t (l : List UInt8) (hl : l.length ≤ 140737488355328) : Triple P0 89 [strv (bstr l)] [] (opt (pv l)) [] := by
 refine triple_of_calls2 (vs := [.string (bstr l)]) fun w hgl => (parse_calls l hl w hgl).mono ?_
 rintro e w' ⟨rfl, hb⟩
 exact ⟨_, rfl, hb, fun R ob ρ => opt_rel _⟩

open Go
abbrev Bs := List UInt8
def upTo (q : UInt8 → Bool) : Bs → Bs × Bs
 | [] => ([], [])
 | x :: r => if q x then ([], x :: r) else (x :: (upTo q r).1, (upTo q r).2)
theorem upTo_app (q : UInt8 → Bool) : ∀ l : Bs, (upTo q l).1 ++ (upTo q l).2 = l
 | [] => rfl
 | x :: r => by
  unfold upTo
  split
  ·rfl
  ·rw [List.cons_append, upTo_app q r]
def pieces (c : UInt8) : Bs → List Bs
 | [] => [[]]
 | x :: r => if x = c then [] :: pieces c r else match pieces c r with
  | [] => [[x]]
  | p :: ps => (x :: p) :: ps
theorem pieces_ne (c : UInt8) : ∀ l : Bs, pieces c l ≠ []
 | [] => by simp [pieces]
 | x :: r => by
  unfold pieces
  split
  ·simp
  ·split <;> simp
theorem pieces_free (c : UInt8) : ∀ l : Bs, c ∉ l → pieces c l = [l]
 | [], _ => rfl
 | x :: r, h => by
  simp at h
  rw [pieces, if_neg (fun e => h.1 e.symm), pieces_free c r h.2]
theorem pieces_cut (c : UInt8) : ∀ (p l : Bs), c ∉ p → pieces c (p ++ c :: l) = p :: pieces c l
 | [], l, _ => by rw [List.nil_append, pieces, if_pos rfl]
 | x :: p, l, h => by
  simp at h
  rw [List.cons_append, pieces, if_neg (fun e => h.1 e.symm), pieces_cut c p l h.2]
theorem pieces_len (c : UInt8) : ∀ l : Bs, (pieces c l).length = l.count c + 1
 | [] => rfl
 | x :: r => by
  rw [pieces]
  split
  ·rename_i h
   rw [List.length_cons, pieces_len c r, h, List.count_cons_self]
  ·rename_i h
   have := pieces_len c r
   split
   ·rename_i h2; exact absurd h2 (pieces_ne c r)
   ·rename_i h2
    rw [h2] at this
    rw [List.count_cons_of_ne h, ← this]
    rfl
abbrev Form := Int × Bs × List (UInt8 × Bool)
def nF (l : Bs) : List (UInt8 × Bool) := l.map fun c => (c, false)
def formsL : List Form :=
  [(1, [99, 101, 108, 108], nF [120, 121, 114]), (2, [112, 97, 114, 101, 110, 116], [(119, true)]), (3, [107, 105, 100, 115], [(119, true)]), (4, [110, 101, 97, 114], [(119, true)]),
   (5, [114, 105, 110, 103], [(119, true), (107, false)]), (6, [100, 105, 115, 107], [(119, true), (107, false)]), (7, [100, 105, 115, 116], [(119, true), (118, true)]), (8, [98, 111, 120], nF [120, 121, 117, 118, 114]),
   (9, [115, 116, 97, 116], [(119, true)]), (10, [116, 111, 112], nF [114, 107]), (11, [116, 105, 108, 101], nF [122, 120, 121, 114]), (12, [115, 121, 110, 99], []), (13, [109, 97, 114, 107], []), (14, [105, 110, 102, 111], []),
   (15, [102, 105, 108, 108], nF [114]), (16, [108, 111, 97, 100], [])]
def valP (c : UInt8) : Bs → Option Bs
 | a :: b :: v => if a = c ∧ b = 61 then some v else none
 | _ => none
def fldsP : List (UInt8 × Bool) → List Bs → List Int → List Bs → Option (List Int × List Bs)
 | [], _, ns, ws => some (ns, ws)
 | (c, w) :: fs, ps, ns, ws => match valP c (ps.headD []) with
  | none => none
  | some v => if w then fldsP fs ps.tail ns (ws ++ [v]) else match pv v with
   | none => none
   | some n => fldsP fs ps.tail (ns ++ [n]) ws
def cornP : List Bs → List (Int × Int) → Option (List (Int × Int))
 | a :: b :: r, out => match pv a, pv b with
  | some x, some y => cornP r (out ++ [(x, y)])
  | _, _ => none
 | _, out => some out
def ringP (s : Bs) : Option (List (Int × Int)) :=
 let l := pieces 44 s
 if 200 < l.length ∨ l.length % 2 ≠ 0 then none else cornP l []
def queryP (f : Form) (s : Bs) : Option (List Int × List Bs × List (Int × Int)) :=
 let ps := pieces 38 s
 let go (ps : List Bs) (rg : List (Int × Int)) := if ps.length ≠ f.2.2.length then none else (fldsP f.2.2 ps [] []).map fun x => (x.1, x.2, rg)
 if f.1 = 15 then match valP 112 (ps.getLastD []) with
  | none => none
  | some p => match ringP p with
   | none => none
   | some rg => go ps.dropLast rg
 else go ps []
def hxD (c : UInt8) : Option Nat := if 48 ≤ c.toNat ∧ c.toNat ≤ 57 then some (c.toNat - 48) else if 97 ≤ c.toNat ∧ c.toNat ≤ 102 then some (c.toNat - 87) else none
def hxP : Bs → Nat → Option Nat
 | [], a => some a
 | c :: r, a => match hxD c with
  | none => none
  | some d => hxP r (a * 16 + d)
def digitsP (s : Bs) : Option Nat := if s.length = 16 then hxP s 0 else none
structure AskQ where
 kind : Int := 0
 n : List Int := []
 words : List Nat := []
 ring : List (Int × Int) := []

end Go.Ev

import Derived.Test.YtfdjfbodgiodbaaGreatDoorShelf2
import Derived.Test.YtfdjfbodgiodbaaGreatDoorM13
open Nat renaming reduceBEq → zB, reduceEqDiff → zE, reduceAdd → zA, reduceSub → zS, reduceLT → zL, reduceLeDiff → zD, reduceMul → zM
open Go.Proofs.Tryz renaming prog → P0
open List renaming take_of_length_le → zaa, mem_cons → zac, append_nil → zaf, getD_eq_getElem?_getD → zag, length_append → zah, mem_append → zai, eq_nil_of_length_eq_zero → zaj, length_cons → zak, mem_of_find?_eq_some → zal, cons_append → zam, getElem?_eq_getElem → zan, tail_cons → zao, drop_eq_getElem_cons → zap
open Nat renaming zero_add → zab
open Int renaming toNat_natCast → zad, toNat_natCast_add_one → zae
namespace Go.Ev
set_option maxRecDepth 100000
open Go
set_option linter.unusedSectionVars false
set_option linter.unnecessarySimpa false
set_option linter.unusedSimpArgs false
set_option linter.unusedVariables false
noncomputable def ident_Text_pc : PC :=
  (.seq (.reg [p_s 2 (.mov (.c (.r (.v (.string ⟨#[]⟩)))))])
 (.seq (.reg [p_a 5 (.mks 1 (.v (.int .u8 0)) 1 (o_i 16) (o_i 16)), p_m 3 5])
 (.seq (.seq (.reg [p_m 6 3, p_s 7 (.len false (.t 6)), p_s 8 (.mov (o_i 0))])
 (.block 0 (.loop (.seq (.reg [p_s 9 (.bin .lss (.t 8) (.t 7))])
 (.seq (.cond (.t 9)
 .skip
 (.exit 0))
 (.seq (.block 1 (.seq (.reg [p_m 10 8, p_m 4 10])
 (.reg [p_m 11 3, p_m 12 4, p_s 13 (.bin .sub (o_i 15) (.t 12)), p_m 14 0, p_m 15 4, p_s 16 (.bin .mul (o_i 4) (.t 15)), p_s 17 (.conv .u64 (.t 16)), p_s 18 (.bin .shr (.t 14) (.t 17)),
 p_s 19 (.bin .and (.t 18) (.c (.r (.v (.int .u64 15))))), p_s 20 (.ixs (.c (.r (.v (.string ⟨#[48, 49, 50, 51, 52, 53, 54, 55, 56, 57, 97, 98, 99, 100, 101, 102]⟩)))) (.t 19)),
 p_s 21 (.ia 1 (.v (.int .u8 0)) (.t 11) (.t 13)), ⟨none, none, 0, .act (.st 1 (.t 21) (.t 20))⟩])))
 (.reg [p_s 22 (.bin .add (.t 8) (o_i 1)), p_m 8 22])))))))
 (.seq (.reg [p_m 23 3, p_s 24 (.toStr (.t 23)), p_m 2 24])
 .ret))))
theorem ident_Text_triple : Fun P0 68 1 [(2, false, none)] ident_Text_pc := fun_mk Go.Proofs.Tryz.func68 rfl (by decide) (by kernel_rfl) (by decide) rfl (by kernel_rfl) (by kernel_rfl) (by decide)
theorem triple_of_calls_r {P : Program} {f : FuncId} {xs : List RV} {r : RV} (h : ∀ (w : World) (R : Nat → Prop) (cargs : Array Value), Gl P w (fun _ => False) → (∀ b, R b → b < w.heap.size) → cargs.size = xs.length →
  (∀ (i : Nat) (x : RV) (c : Value), xs[i]? = some x → cargs[i]? = some c → RelV w R x c) → Calls P f cargs w fun e w' => ∃ c, e = .returned c ∧ Go.RowKit.Below w.heap.size w w' ∧ ∀ R, RelV w' R r c) : Triple P f (xs.map .r) [] (.r r) [] := by
 intro w cargs ρ B hgl hB hM hs hargs
 refine (h w (Free B (ob0 []) ρ w) cargs (hgl.keep fun g _ _ => ⟨rfl, id⟩) (fun b hb => hb.1) (by simpa using hs) (fun i x c hx hc => ?_)).mono ?_
 ·have := hargs i (.r x) c (by simp [hx]) hc
  cases this
  assumption
 rintro e w' ⟨c, rfl, hb, hr⟩
 refine ⟨c, ρ, rfl, ⟨fun id v o h => by simp [obs] at h, fun id id' x x' b h => by simp [obs] at h, ⟨hb.os, hb.tape, hb.output, hb.size, fun b hlt _ => hb.block b hlt⟩, fun id v o b h => by simp [obs] at h, fun id b hp => ?_⟩, .r (hr _)⟩
 simp [pinOf, obs] at hp
theorem join_t (ps : List Bs) (c : UInt8) (hl : ps.length ≤ 140737488355328) (hL : (Lib.join ps [c]).length ≤ 140737488355328) :
  Triple P0 70 [.r (.sl 1 (strs ps)), sV [c]] [] (sV (Lib.join ps [c])) [] := by
 refine triple_of_calls_r (xs := [.sl 1 (strs ps), .v (.string (bstr [c]))]) fun w R cargs _ hR hs ha => ?_
 obtain ⟨c0, c1, rfl⟩ : ∃ a b, cargs = #[a, b] := ⟨cargs[0]'(by simp [hs]), cargs[1]'(by simp [hs]), by
  apply Array.ext (by simp [hs])
  intro i h1 h2
  match i, h2 with
  | 0, _ => rfl
  | 1, _ => rfl⟩
 have h0 := ha 0 _ c0 rfl rfl
 have h1 := ha 1 _ c1 rfl rfl
 cases h1
 have hm : (ps.map bstr).map (·.data.toList) = ps := by
  rw [List.map_map]
  exact (List.map_congr_left fun p _ => bstr_data p).trans (List.map_id _)
 cases h0 with
 | sl _ _ A cap hc hmx b o g hA hz hg hr =>
  have hlen : (strs ps).length = (ps.map bstr).length := by simp [strs]
  rcases ps with _ | ⟨p, ps⟩
  ·refine (Go.Proofs.Any.strings_Join_none Go.Proofs.Tryz.lays156 Go.Proofs.Tryz.Builder_Extra_156 A cap (bstr [c]) w).mono ?_
   rintro e w' ⟨rfl, rfl⟩
   exact ⟨_, rfl, Go.RowKit.Below.refl _ _, fun R => .v _⟩
  ·obtain ⟨rfl, hb⟩ := hA (by simp [strs])
   rw [hlen]
   refine (Go.Proofs.Any.strings_Join Go.Proofs.Tryz.lays156 Go.Proofs.Tryz.Builder_Extra_156 b o cap ((p :: ps).map bstr) (bstr [c]) w (fun j x hj => ?_) (hR b hb) (by simpa using hl) (by simpa [strs] using hc) (by rw [hm, bstr_data]; exact hL)).mono ?_
   ·rw [List.getElem?_map, Option.map_eq_some_iff] at hj
    obtain ⟨q, hq, rfl⟩ := hj
    obtain ⟨k1, k2⟩ := hg j (strR q) 0 (strR q) (by rw [show strs (p :: ps) = (p :: ps).map strR from rfl, List.getElem?_map, hq]; rfl) rfl
    have k3 := hr j (strR q) 0 (strR q) (by rw [show strs (p :: ps) = (p :: ps).map strR from rfl, List.getElem?_map, hq]; rfl) rfl
    rw [show o + j * 1 + 0 = o + j by omega] at k1
    rw [k1]
    generalize g j 0 = y at k3
    cases k3
    rfl
   ·rintro e w' ⟨rfl, hbl⟩
    refine ⟨_, rfl, hbl, fun R => ?_⟩
    rw [hm, bstr_data]
    exact .v _
def hxB (w n : Nat) : Bs := List.replicate (16 - n) 0 ++ (hexN w 16).drop (16 - n)
theorem hxB_len (w n : Nat) (h : n ≤ 16) : (hxB w n).length = 16 := by simp [hxB, hexN_len]
theorem hexN_at (w i : Nat) (h : i < 16) : (hexN w 16)[i]? = some (hexC (w / 16 ^ (15 - i) % 16)) := by
 simp [hexN, h]
theorem hxB_set (w n : Nat) (h : n < 16) : (hxB w n).set (15 - n) (hexC (w / 16 ^ n % 16)) = hxB w (n + 1) := by
 apply List.ext_getElem?
 intro j
 rw [List.getElem?_set, hxB_len w n (by omega)]
 have key : ∀ m, m ≤ 16 → ∀ j, (hxB w m)[j]? = if j < 16 - m then some 0 else (hexN w 16)[j]? := fun m hm j => by
  unfold hxB
  rw [List.getElem?_append, List.length_replicate]
  split
  ·simp [*]
  ·rw [List.getElem?_drop]; congr; omega
 rw [key n (by omega), key (n + 1) (by omega)]
 by_cases h1 : 15 - n = j
 ·subst h1
  rw [if_pos rfl, if_pos (by omega), if_neg (by omega), hexN_at w _ (by omega), show 15 - (15 - n) = n by omega]
 ·rw [if_neg h1]
  by_cases h2 : j < 16 - n
  ·rw [if_pos h2, if_pos (by omega)]
  ·rw [if_neg h2, if_neg (by omega)]
theorem hexL_at (k : Fin 16) : ([48, 49, 50, 51, 52, 53, 54, 55, 56, 57, 97, 98, 99, 100, 101, 102] : Bs).getD k.val 0 = hexC k.val := by revert k; decide
theorem itext_t (w : Nat) (hw : w < 18446744073709551616) : Triple P0 68 [uw w] [] (sV (hexN w 16)) [] := by
 have hmax := maxLen_big
 refine ident_Text_triple rfl (by decide) ?_
 have hz : zerosAt 16 (.v (.int .u8 0)) = bys (hxB w 0) := rfl
 simp only [ident_Text_pc, uw, hz, push_cast, ↓reduceIte, reduceCtorEq, zB, zE, zA, zS, zL, zD, zM]
 refine ⟨by omega, ?_⟩
 have sz : ({ data := #[48, 49, 50, 51, 52, 53, 54, 55, 56, 57, 97, 98, 99, 100, 101, 102] } : ByteArray).size = 16 := rfl
 refine run_loop [(0, false), (3, false), (7, false), (8, false)] (fun vs pos los => ∃ n : Nat, n ≤ 16 ∧ vs = [int .u64 w, .own 2000000 0 0 16, int .i64 16, int .i64 n] ∧ pos = [] ∧ los = [rowB (hxB w n)])
  (fun vs _ _ => match vs with | [_, _, _, .r (.v (.int _ j))] => (16 - j).toNat | _ => 0) rfl ?_ ?_
 ·simp only [push_cast, ↓reduceIte, reduceCtorEq, zB, zE, zA, zS, zL, zD, zM]
  exact ⟨0, by omega, rfl, rfl⟩
 ·rintro vs pos los ⟨n, n16, rfl, rfl, rfl⟩
  simp only [push_cast, ↓reduceIte, reduceCtorEq, zB, zE, zA, zS, zL, zD, zM]
  refine cnd_mk (fun hi => ?_) (fun hi => ?_)
  ·have hi : n < 16 := by simp at hi; omega
   have w7 : IntKind.i64.wrap (4 * (n : Int)) = 4 * (n : Int) := wrap_id (by omega)
   have w7' : IntKind.u64.wrap (4 * (n : Int)) = 4 * (n : Int) := by rw [IntKind.wrap_u64]; omega
   have w8 : IntKind.i64.wrap ((n : Int) + 1) = (n : Int) + 1 := wrap_id (by omega)
   have w9 : IntKind.i64.wrap (15 - (n : Int)) = ((15 - n : Nat) : Int) := by rw [wrap_id (by omega)]; omega
   obtain ⟨D, hD⟩ : ∃ D, w / 16 ^ n % 16 = D := ⟨_, rfl⟩
   have hD16 : D < 16 := by omega
   have esh : IntKind.u64.wrap (BitVec.ofInt IntKind.u64.bits ((w : Int).fdiv (2 ^ min (4 * (n : Int)).toNat IntKind.u64.bits)) &&& BitVec.ofInt IntKind.u64.bits 15).toNat = (D : Int) := by
    rw [shr_and (k := 4 * n) (n := 4) (by omega) (by omega) (by decide) (by decide) hw, ← hD]
    rw [show 2 ^ (4 * n) = 16 ^ n by rw [show (16 : Nat) = 2 ^ 4 from rfl, ← Nat.pow_mul]]
   have hx := hexL_at ⟨D, hD16⟩
   simp only at hx
   have hxs : ({ data := #[48, 49, 50, 51, 52, 53, 54, 55, 56, 57, 97, 98, 99, 100, 101, 102] } : ByteArray).data.toList.getD D 0 = hexC D := hx
   have hset : (bys (hxB w n)).set (15 - n) (.v (.int .u8 (hexC D).toNat)) = bys (hxB w (n + 1)) := by
    rw [← hxB_set w n hi, hD]
    show (List.map by8 _).set _ (by8 _) = List.map by8 _
    rw [List.map_set]
   have hg : ∀ z, (bys (hxB w n)).getD (15 - n) z = .v (.int .u8 ((hxB w n).getD (15 - n) 0).toNat) := fun z => by
    have hlen := hxB_len w n (by omega)
    rw [zag, zag]
    simp [bys, by8, show 15 - n < (hxB w n).length by omega]
   simp only [w7, w7', w8, w9, esh, hxs, sz, hg, hset, zad, zae, zab, push_cast, ↓reduceIte, reduceCtorEq, zB, zE, zA, zS, zL, zD, zM]
   repeat refine And.intro (by first | decide | omega | exact fun _ => by decide | (simp +contextual; done) | kernel_rfl) ?_
   exact ⟨⟨n + 1, by omega, by simp, rfl⟩, by omega⟩
  ·have hi : n = 16 := by simp at hi; omega
   subst hi
   have ht : (bys (hxB w 16)).take 16 = bys (hexN w 16) := by
    rw [zaa (by simp [hxB_len]), show hxB w 16 = hexN w 16 by simp [hxB]]
   simp only [ht, bys_isByte, bstr_of_bys, push_cast, ↓reduceIte, reduceCtorEq, zB, zE, zA, zS, zL, zD, zM]

noncomputable def ask_form_text_pc : PC :=
  (.seq (.reg [p_a 2 (.box (.t 0)), p_a 3 (.box (.t 1)), p_s 4 (.mov (.c (.r (.v (.string ⟨#[]⟩)))))])
 (.seq (.reg [p_s 5 (.mov (.c (.nils 1 (.v (.string ⟨#[]⟩)))))])
 (.seq (.drw [p_s 15 (.fa 2 (.t 3)), p_s 16 (.ld none (.t 15)), p_s 17 (.fa 1 (.t 3)), p_s 18 (.ld none (.t 17)), p_m 6 16, p_m 7 18]
 [[], [0], [], [2], [0, 1], [0, 1, 2, 3, 4]])
 (.seq (.seq (.reg [p_s 19 (.fa 2 (.t 2)), p_s 20 (.ld none (.t 19)), p_s 21 (.len false (.t 20)), p_s 22 (.mov (o_i 0))])
 (.block 0 (.loop (.seq (.reg [p_s 23 (.bin .lss (.t 22) (.t 21))])
 (.seq (.cond (.t 23)
 .skip
 (.exit 0))
 (.seq (.block 1 (.seq (.reg [p_s 24 (.ia 2 (.agg [(.v (.string ⟨#[]⟩)), (.v (.bool false))]) (.t 20) (.t 22)), p_s 25 (.ld (some 2) (.t 24)), p_a 9 (.new [(.r (.v (.string ⟨#[]⟩))), (.r (.v (.bool false)))]),
 ⟨none, none, 0, .act (.st 2 (.t 9) (.t 25))⟩])
 (.seq (.reg [p_s 10 (.mov (.c (.r (.v (.string ⟨#[]⟩)))))])
 (.seq (.block 2 (.seq (.reg [p_s 27 (.fa 1 (.t 9)), p_s 28 (.ld none (.t 27)), p_m 29 28, p_g 30 29 true (.mov (.t 6)), p_g 31 29 true (.len false (.t 30)), p_g 32 29 true (.bin .gtr (.t 31) (o_i 0)),
 p_s 33 (.pick (.t 29) (.t 32) (.c (.r (.v (.bool false))))), p_m 26 33])
 (.cond (.t 26)
 (.drw [p_m 34 6, p_s 35 (.ia 1 (.v (.int .u64 0)) (.t 34) (o_i 0)), p_s 36 (.ld none (.t 35)), p_c 37 1 68 [.t 36], p_m 38 6, p_s 39 (.sll 1 (.t 38) (some (o_i 1)) none none),
 p_m 10 37, p_m 6 39]
 [[], [0], [0, 1], [0, 1, 2], [], [4], [0, 1, 2, 3], [0, 1, 2, 3, 4, 5, 6]])
 (.seq (.reg [p_s 41 (.fa 1 (.t 9)), p_s 42 (.ld none (.t 41)), p_s 43 (.un .not (.t 42)), p_m 44 43, p_g 45 44 true (.mov (.t 7)), p_g 46 44 true (.len false (.t 45)), p_g 47 44 true (.bin .gtr (.t 46) (o_i 0)),
 p_s 48 (.pick (.t 44) (.t 47) (.c (.r (.v (.bool false))))), p_m 40 48])
 (.cond (.t 40)
 (.drw [p_m 49 7, p_s 50 (.ia 1 (.v (.int .i64 0)) (.t 49) (o_i 0)), p_s 51 (.ld none (.t 50)), p_c 52 2 69 [.t 51], p_m 53 7, p_s 54 (.sll 1 (.t 53) (some (o_i 1)) none none),
 p_m 10 52, p_m 7 54]
 [[], [0], [0, 1], [0, 1, 2], [], [4], [0, 1, 2, 3], [0, 1, 2, 3, 4, 5, 6]])
 .skip)))))
 (.reg [p_m 55 5, p_s 56 (.fa 0 (.t 9)), p_s 57 (.ld none (.t 56)), p_s 58 (.bin .add (.t 57) (.c (.r (.v (.string ⟨#[61]⟩))))), p_m 59 10, p_s 60 (.bin .add (.t 58) (.t 59)),
 p_a 61 (.bsl 1 (.v (.string ⟨#[]⟩)) [(.t 60)]), p_a 62 (.app 1 (.v (.string ⟨#[]⟩)) 16 (.t 55) (.t 61)), p_m 5 62])))))
 (.reg [p_s 63 (.bin .add (.t 22) (o_i 1)), p_m 22 63])))))))
 (.seq (.seq (.reg [p_s 64 (.fa 0 (.t 2)), p_s 65 (.ld none (.t 64)), p_s 66 (.bin .eql (.t 65) (o_i 15))])
 (.cond (.t 66)
 (.seq (.reg [p_s 11 (.mov (.c (.nils 1 (.v (.string ⟨#[]⟩)))))])
 (.seq (.seq (.reg [p_s 67 (.fa 3 (.t 3)), p_s 68 (.ld none (.t 67)), p_s 69 (.len false (.t 68)), p_s 70 (.mov (o_i 0))])
 (.block 3 (.loop (.seq (.reg [p_s 71 (.bin .lss (.t 70) (.t 69))])
 (.seq (.cond (.t 71)
 .skip
 (.exit 3))
 (.seq (.block 4 (.seq (.reg [p_s 72 (.ia 2 (.agg [(.v (.int .i64 0)), (.v (.int .i64 0))]) (.t 68) (.t 70)), p_s 73 (.ld (some 2) (.t 72)), p_a 13 (.new [(.r (.v (.int .i64 0))), (.r (.v (.int .i64 0)))]),
 ⟨none, none, 0, .act (.st 2 (.t 13) (.t 73))⟩])
 (.drw [p_m 74 11, p_s 75 (.iaa 2 1 (.t 13) (o_i 0)), p_s 76 (.ld none (.t 75)), p_c 77 3 69 [.t 76], p_s 78 (.iaa 2 1 (.t 13) (o_i 1)), p_s 79 (.ld none (.t 78)), p_c 80 4 69 [.t 79],
 p_a 81 (.bsl 1 (.v (.string ⟨#[]⟩)) [(.t 77), (.t 80)]), p_a 82 (.app 1 (.v (.string ⟨#[]⟩)) 16 (.t 74) (.t 81)), p_m 11 82]
 [[], [], [1], [1, 2], [], [4], [1, 2, 3, 4, 5], [1, 2, 3, 4, 5, 6], [0, 1, 2, 3, 4, 5, 6, 7], [0, 1, 2, 3, 4, 5, 6, 7, 8]])))
 (.reg [p_s 83 (.bin .add (.t 70) (o_i 1)), p_m 70 83])))))))
 (.reg [p_m 84 5, p_m 85 11, p_c 86 5 70 [(.t 85), (.c (.r (.v (.string ⟨#[44]⟩))))], p_s 87 (.bin .add (.c (.r (.v (.string ⟨#[112, 61]⟩)))) (.t 86)), p_a 88 (.bsl 1 (.v (.string ⟨#[]⟩)) [(.t 87)]),
 p_a 89 (.app 1 (.v (.string ⟨#[]⟩)) 16 (.t 84) (.t 88)), p_m 5 89])))
 .skip))
 (.seq (.reg [p_s 90 (.fa 1 (.t 2)), p_s 91 (.ld none (.t 90)), p_s 92 (.bin .add (.c (.r (.v (.string ⟨#[47]⟩)))) (.t 91)), p_m 14 92])
 (.seq (.seq (.reg [p_m 93 5, p_s 94 (.len false (.t 93)), p_s 95 (.bin .gtr (.t 94) (o_i 0))])
 (.cond (.t 95)
 (.reg [p_m 96 14, p_m 97 5, p_c 98 6 70 [(.t 97), (.c (.r (.v (.string ⟨#[38]⟩))))], p_s 99 (.bin .add (.c (.r (.v (.string ⟨#[63]⟩)))) (.t 98)), p_s 100 (.bin .add (.t 96) (.t 99)),
 p_m 14 100])
 .skip))
 (.seq (.reg [p_m 101 14, p_m 4 101])
 .ret))))))))
theorem ask_form_text_triple : Fun P0 44 2 [(4, false, none)] ask_form_text_pc := fun_mk Go.Proofs.Tryz.func44 rfl (by decide) (by kernel_rfl) (by decide) rfl (by kernel_rfl) (by kernel_rfl) (by decide)
def fldT : List (UInt8 × Bool) → List Nat → List Int → List Bs
 | [], _, _ => []
 | (c, true) :: fs, [], ns => [c, 61] :: fldT fs [] ns
 | (c, true) :: fs, w :: ws, ns => ([c, 61] ++ hexN w 16) :: fldT fs ws ns
 | (c, false) :: fs, ws, [] => [c, 61] :: fldT fs ws []
 | (c, false) :: fs, ws, n :: ns => ([c, 61] ++ Lib.itoa n) :: fldT fs ws ns
def crnT (rg : List (Int × Int)) : List Bs := rg.flatMap fun p => [Lib.itoa p.1, Lib.itoa p.2]
def partsT (f : Form) (a : AskD) : List Bs := fldT f.2.2 a.ws a.ns ++ if f.1 = 15 then [[112, 61] ++ Lib.join (crnT a.rg) [44]] else []
def formT (f : Form) (a : AskD) : Bs := 47 :: f.2.1 ++ if partsT f a = [] then [] else 63 :: Lib.join (partsT f a) [38]
theorem join_le (c : UInt8) (K : Nat) (ps : List Bs) (h : ∀ p ∈ ps, p.length ≤ K) : (Lib.join ps [c]).length ≤ (K + 1) * ps.length := by
 have hl : ∀ ps : List Bs, (∀ p ∈ ps, p.length ≤ K) → Lib.lens ps ≤ K * ps.length := fun ps => by
  induction ps with
  | nil => intro _; simp [Lib.lens]
  | cons p r ih =>
   intro h
   have h1 := h p (by simp)
   have h2 := ih fun q hq => h q (by simp [hq])
   simp only [Lib.lens, List.map_cons, List.sum_cons, zak, Nat.mul_add] at h2 ⊢
   omega
 cases ps with
 | nil => simp [Lib.join_nil]
 | cons p r =>
  rw [Lib.join_length]
  have := hl _ h
  simp only [zak, List.length_nil] at this ⊢
  have e : (K + 1) * (r.length + 1) = K * (r.length + 1) + (r.length + 1) := by rw [Nat.add_mul]; omega
  omega
theorem fldT_len : ∀ (fs : List (UInt8 × Bool)) (ws : List Nat) (ns : List Int), (fldT fs ws ns).length = fs.length
 | [], _, _ => rfl
 | (c, true) :: fs, [], ns => by simp [fldT, fldT_len fs]
 | (c, true) :: fs, w :: ws, ns => by simp [fldT, fldT_len fs]
 | (c, false) :: fs, ws, [] => by simp [fldT, fldT_len fs]
 | (c, false) :: fs, ws, n :: ns => by simp [fldT, fldT_len fs]
theorem fldT_le : ∀ (fs : List (UInt8 × Bool)) (ws : List Nat) (ns : List Int), (∀ n ∈ ns, in64 n) → ∀ p ∈ fldT fs ws ns, p.length ≤ 30
 | [], _, _, _, p, hp => by simp [fldT] at hp
 | (c, true) :: fs, [], ns, h, p, hp => by
  simp only [fldT, zac] at hp
  rcases hp with rfl | hp
  ·simp
  ·exact fldT_le fs [] ns h p hp
 | (c, true) :: fs, w :: ws, ns, h, p, hp => by
  simp only [fldT, zac] at hp
  rcases hp with rfl | hp
  ·simp [hexN_len]
  ·exact fldT_le fs ws ns h p hp
 | (c, false) :: fs, ws, [], h, p, hp => by
  simp only [fldT, zac] at hp
  rcases hp with rfl | hp
  ·simp
  ·exact fldT_le fs ws [] h p hp
 | (c, false) :: fs, ws, n :: ns, h, p, hp => by
  simp only [fldT, zac] at hp
  rcases hp with rfl | hp
  ·have := itoa_len n (h n (by simp))
   simp; omega
  ·exact fldT_le fs ws ns (fun m hm => h m (by simp [hm])) p hp
theorem crnT_len (rg : List (Int × Int)) : (crnT rg).length = 2 * rg.length := by
 unfold crnT
 induction rg with
 | nil => rfl
 | cons p r ih => simp [ih]; omega
theorem crnT_le (rg : List (Int × Int)) (h : ∀ p ∈ rg, in64 p.1 ∧ in64 p.2) : ∀ p ∈ crnT rg, p.length ≤ 21 := fun p hp => by
 simp only [crnT, List.mem_flatMap, zac, List.not_mem_nil, or_false] at hp
 obtain ⟨q, hq, rfl | rfl⟩ := hp
 ·exact itoa_len _ (h q hq).1
 ·exact itoa_len _ (h q hq).2
set_option maxHeartbeats 4000000 in
theorem ftext_t (f : Form) (a : AskD) (ha : AskOk a) (hf : f.2.2.length ≤ 100) (hn : f.2.1.length ≤ 100) (hr : a.rg.length ≤ 1000) :
  Triple P0 44 [.r (formR f), .r a.rv] [] (sV (formT f a)) [] := by
 obtain ⟨hk, hns, hws, hrg, hnl, hwl, hrl, hol⟩ := ha
 obtain ⟨k, nm, fs⟩ := f
 obtain ⟨k', ns, ws, rg, os⟩ := a
 simp only at hk hns hws hrg hnl hwl hrl hol hf hn hr
 obtain ⟨Q, hQ⟩ : ∃ Q, formT (k, nm, fs) ⟨k', ns, ws, rg, os⟩ = Q := ⟨_, rfl⟩
 rw [hQ]
 have hrv : AskD.rv ⟨k', ns, ws, rg, os⟩ = .agg [.v (.int .i64 k'), .sl 1 (ns.map n8), .sl 1 (ws.map u8R), .sl 2 (rg.map ptR), .sl 5 (os.map opR)] := rfl
 have hfr : formR (k, nm, fs) = .agg [.v (.int .i64 k), .v (.string (bstr nm)), .sl 2 (fs.map fldR)] := rfl
 rw [hrv, hfr]
 have hmax := maxLen_big
 refine ask_form_text_triple rfl (by decide) ?_
 simp only [ask_form_text_pc, push_cast, ↓reduceIte, reduceCtorEq, zB, zE, zA, zS, zL, zD, zM]
 refine And.intro (by kernel_rfl) ?_
 refine run_loop [(2, false), (3, false), (5, true), (6, false), (7, false), (20, false), (21, false), (22, false)] (fun vs pos los => ∃ (i : Nat) (P : List Bs) (ws' : List Nat) (ns' : List Int), i ≤ fs.length ∧ P.length = i ∧ P ++ fldT (fs.drop i) ws' ns' = fldT fs ws ns ∧
   (∀ n ∈ ns', in64 n) ∧ (∀ w ∈ ws', w < 18446744073709551616) ∧ ns'.length ≤ 1000000 ∧ ws'.length ≤ 1000000 ∧
   vs = [.ptr 2000000 0 0, .ptr 2000001 0 0, .own 2000002 0 0 P.length, .r (.sl 1 (ws'.map u8R)), .r (.sl 1 (ns'.map n8)), .r (.sl 2 (fs.map fldR)), int .i64 fs.length, int .i64 i] ∧ pos = [] ∧
   los = [.box [int .i64 k, .r (.v (.string (bstr nm))), .r (.sl 2 (fs.map fldR))], .box [int .i64 k', .r (.sl 1 (ns.map n8)), .r (.sl 1 (ws.map u8R)), .r (.sl 2 (rg.map ptR)), .r (.sl 5 (os.map opR))], rowS P])
  (fun vs _ _ => match vs with | [_, _, _, _, _, _, _, .r (.v (.int _ j))] => (fs.length - j).toNat | _ => 0) rfl ?_ ?_
 ·simp only [push_cast, ↓reduceIte, reduceCtorEq, zB, zE, zA, zS, zL, zD, zM]
  exact ⟨0, [], ws, ns, by omega, rfl, rfl, hns, hws, hnl, hwl, rfl, rfl⟩
 ·rintro vs pos los ⟨i, P, ws', ns', i0, hPl, hP, hns', hws', hnl', hwl', rfl, rfl, rfl⟩
  simp only [push_cast, ↓reduceIte, reduceCtorEq, zB, zE, zA, zS, zL, zD, zM]
  refine cnd_mk (fun hi => ?_) (fun hi => ?_)
  ·have hi : i < fs.length := by simpa using hi
   have w1 : IntKind.i64.wrap ((i : Int) + 1) = (i : Int) + 1 := wrap_id (by omega)
   obtain ⟨⟨c, b⟩, hc⟩ : ∃ x, fs[i] = x := ⟨_, rfl⟩
   have hg : ∀ z, (fs.map fldR).getD i z = .agg [.v (.string (bstr [c])), .v (.bool b)] := fun z => by
    rw [zag]
    simp [hi, hc, fldR]
   rw [zap hi, hc] at hP
   have l61 : ({ data := #[61] } : ByteArray) = bstr [61] := rfl
   have hPP : (strs P).take P.length = strs P := zaa (by simp [strs])
   have z0 : decide ((0 : Int) > 0) = false := rfl
   have t0 : Int.toNat 0 = 0 := rfl
   have e0 : bstr [c, 61] ++ ⟨#[]⟩ = bstr [c, 61] := (bstr_app [c, 61] []).trans (by rw [zaf])
   have e1 : (⟨#[]⟩ : ByteArray).size = 0 := rfl
   have sd : ∀ j : Nat, ¬ j ∈ ([] : List Nat) := fun _ => by simp
   have e2 : ∀ l : Bs, bstr [c, 61] ++ bstr l = bstr ([c, 61] ++ l) := fun l => bstr_app _ _
   have a1 : bstr [c] ++ bstr [61] = bstr [c, 61] := bstr_app _ _
   have zc : ∀ m : Nat, decide (((m : Nat) : Int) + 1 > 0) = true := fun m => decide_eq_true (by omega)
   have tk : ∀ {α : Type} (g : α → RV) (l : List α), List.take l.length (l.map g) = l.map g := fun g l => zaa (by simp)
   have sP : ∀ p : Bs, strs P ++ [.v (.string (bstr p))] = strs (P ++ [p]) := fun p => by simp [strs, strR]
   have lP : ∀ p : Bs, (P ++ [p]).length = P.length + 1 := fun p => by simp
   cases b with
   | true =>
    cases ws' with
    | nil =>
     have hP' : (P ++ [[c, 61]]) ++ fldT (fs.drop (i + 1)) [] ns' = fldT fs ws ns := by rw [← hP]; simp [fldT]
     simp only [hg, w1, l61, z0, a1, e0, e1, hPP, sP, sd, bstr_size, zad, zae, zab, push_cast, ↓reduceIte, reduceCtorEq, zB, zE, zA, zS, zL, zD, zM]
     exact ⟨by omega, ⟨by omega, by omega⟩, ⟨i + 1, P ++ [[c, 61]], [], ns', by omega, by simp; omega, hP', hns', by simp, hnl', by simp, by simp, rfl⟩, by omega⟩
    | cons w wr =>
     have hP' : (P ++ [[c, 61] ++ hexN w 16]) ++ fldT (fs.drop (i + 1)) wr ns' = fldT fs ws ns := by rw [← hP]; simp [fldT]
     simp only [hg, w1, l61, zc, t0, a1, e2, hPP, sP, tk, u8R, sd, bstr_size, zad, zae, zab, push_cast, ↓reduceIte, reduceCtorEq, zB, zE, zA, zS, zL, zD, zM]
     refine ⟨by omega, by omega, ?_⟩
     refine dcall_mk (itext_t w (hws' w (by simp))) rfl trivial ?_
     simp only [hg, w1, l61, zc, t0, a1, e2, hPP, sP, tk, u8R, sd, bstr_size, zad, zae, zab, push_cast, ↓reduceIte, reduceCtorEq, zB, zE, zA, zS, zL, zD, zM]
     have hl16 := hexN_len w 16
     exact ⟨⟨by omega, by omega, by omega⟩, by kernel_rfl, by omega, ⟨by omega, by omega⟩, ⟨i + 1, P ++ [[c, 61] ++ hexN w 16], wr, ns', by omega, by simp; omega, hP', hns', fun m hm => hws' m (by simp [hm]), hnl', by simp at hwl'; omega, by simp, rfl⟩, by omega⟩
   | false =>
    cases ns' with
    | nil =>
     have hP' : (P ++ [[c, 61]]) ++ fldT (fs.drop (i + 1)) ws' [] = fldT fs ws ns := by rw [← hP]; simp [fldT]
     simp only [hg, w1, l61, z0, a1, e0, e1, hPP, sP, sd, bstr_size, zad, zae, zab, push_cast, ↓reduceIte, reduceCtorEq, zB, zE, zA, zS, zL, zD, zM]
     exact ⟨by omega, ⟨by omega, by omega⟩, ⟨i + 1, P ++ [[c, 61]], ws', [], by omega, by simp; omega, hP', by simp, hws', by simp, hwl', by simp, rfl⟩, by omega⟩
    | cons n nr =>
     have hP' : (P ++ [[c, 61] ++ Lib.itoa n]) ++ fldT (fs.drop (i + 1)) ws' nr = fldT fs ws ns := by rw [← hP]; simp [fldT]
     have htx := text_t n (hns' n (by simp))
     rw [txt_eq] at htx
     have hil := itoa_len n (hns' n (by simp))
     simp only [hg, w1, l61, zc, t0, a1, e2, hPP, sP, tk, n8, sd, bstr_size, zad, zae, zab, push_cast, ↓reduceIte, reduceCtorEq, zB, zE, zA, zS, zL, zD, zM]
     refine ⟨by omega, by omega, ?_⟩
     refine dcall_mk htx rfl trivial ?_
     simp only [hg, w1, l61, zc, t0, a1, e2, hPP, sP, tk, n8, sd, bstr_size, zad, zae, zab, push_cast, ↓reduceIte, reduceCtorEq, zB, zE, zA, zS, zL, zD, zM]
     exact ⟨⟨by omega, by omega, by omega⟩, by kernel_rfl, by omega, ⟨by omega, by omega⟩, ⟨i + 1, P ++ [[c, 61] ++ Lib.itoa n], ws', nr, by omega, by simp; omega, hP', fun m hm => hns' m (by simp [hm]), hws', by simp at hnl'; omega, hwl', by simp, rfl⟩, by omega⟩
  ·have hi : i = fs.length := Nat.le_antisymm i0 (by simpa using hi)
   have hP1 : P = fldT fs ws ns := by
    rw [← hP, hi, List.drop_of_length_le (Nat.le_refl _)]
    simp [fldT]
   have hPle := fldT_le fs ws ns hns
   rw [← hP1] at hPle
   have hP2 : partsT (k, nm, fs) ⟨k', ns, ws, rg, os⟩ = P ++ if k = 15 then [[112, 61] ++ Lib.join (crnT rg) [44]] else [] := by rw [hP1]; rfl
   have hQ2 : Q = 47 :: nm ++ if partsT (k, nm, fs) ⟨k', ns, ws, rg, os⟩ = [] then [] else 63 :: Lib.join (partsT (k, nm, fs) ⟨k', ns, ws, rg, os⟩) [38] := hQ.symm
   rw [hP2] at hQ2
   clear hP hP2 hQ hws' hns' hwl' hnl'
   have hPl2 : P.length ≤ 100 := by omega
   simp only [push_cast, ↓reduceIte, reduceCtorEq, zB, zE, zA, zS, zL, zD, zM]
   have l47 : ({ data := #[47] } : ByteArray) = bstr [47] := rfl
   have l63 : ({ data := #[63] } : ByteArray) = bstr [63] := rfl
   have s38 : ({ data := #[38] } : ByteArray) = bstr [38] := rfl
   have hjl : ∀ ps : List Bs, (∀ p ∈ ps, p.length ≤ 100000) → ps.length ≤ 200 → (Lib.join ps [38]).length ≤ 100001 * 200 := fun ps h1 h2 => by
    have := join_le 38 100000 ps h1
    have h3 : (100000 + 1) * ps.length ≤ 100001 * 200 := Nat.mul_le_mul_left _ h2
    omega
   refine cnd_mk (fun h15 => ?_) (fun h15 => ?_)
   ·have h15 : k = 15 := by simpa using h15
    subst h15
    rw [if_pos rfl] at hQ2
    simp only [push_cast, ↓reduceIte, reduceCtorEq, zB, zE, zA, zS, zL, zD, zM]
    refine run_loop [(2, false), (3, false), (5, false), (11, true), (68, false), (69, false), (70, false)] (fun vs pos los => ∃ (j : Nat), j ≤ rg.length ∧
      vs = [.ptr 2000000 0 0, .ptr 2000001 0 0, .own 2000002 0 0 P.length, .own 2000003 0 0 (crnT (rg.take j)).length, .r (.sl 2 (rg.map ptR)), int .i64 rg.length, int .i64 j] ∧ pos = [] ∧
      los = [.box [int .i64 15, .r (.v (.string (bstr nm))), .r (.sl 2 (fs.map fldR))], .box [int .i64 k', .r (.sl 1 (ns.map n8)), .r (.sl 1 (ws.map u8R)), .r (.sl 2 (rg.map ptR)), .r (.sl 5 (os.map opR))], rowS P, rowS (crnT (rg.take j))])
     (fun vs _ _ => match vs with | [_, _, _, _, _, _, .r (.v (.int _ j))] => (rg.length - j).toNat | _ => 0) rfl ?_ ?_
    ·simp only [push_cast, ↓reduceIte, reduceCtorEq, zB, zE, zA, zS, zL, zD, zM]
     exact ⟨0, by omega, rfl, rfl⟩
    ·rintro vs pos los ⟨j, j0, rfl, rfl, rfl⟩
     simp only [push_cast, ↓reduceIte, reduceCtorEq, zB, zE, zA, zS, zL, zD, zM]
     refine cnd_mk (fun hj => ?_) (fun hj => ?_)
     ·have hj : j < rg.length := by simpa using hj
      have w1 : IntKind.i64.wrap ((j : Int) + 1) = (j : Int) + 1 := wrap_id (by omega)
      obtain ⟨⟨x, y⟩, hc⟩ : ∃ x, rg[j] = x := ⟨_, rfl⟩
      have hxy := hrg (x, y) (by rw [← hc]; exact List.getElem_mem hj)
      have hg : ∀ z, (rg.map ptR).getD j z = .agg [.v (.int .i64 x), .v (.int .i64 y)] := fun z => by
       rw [zag]
       simp [hj, hc, ptR]
      have t1 := text_t x hxy.1
      have t2 := text_t y hxy.2
      rw [txt_eq] at t1 t2
      have hC : crnT (rg.take (j + 1)) = crnT (rg.take j) ++ [Lib.itoa x, Lib.itoa y] := by
       rw [List.take_succ_eq_append_getElem hj, hc]
       simp [crnT]
      obtain ⟨C, hCC⟩ : ∃ C, crnT (rg.take j) = C := ⟨_, rfl⟩
      have hCl : C.length = 2 * j := by rw [← hCC, crnT_len]; simp; omega
      rw [hCC] at hC ⊢
      have hst : (strs C).take C.length = strs C := zaa (by simp [strs])
      have sC : strs C ++ [.v (.string (bstr (Lib.itoa x))), .v (.string (bstr (Lib.itoa y)))] = strs (C ++ [Lib.itoa x, Lib.itoa y]) := by simp [strs, strR]
      have sd : ∀ j : Nat, ¬ j ∈ ([] : List Nat) := fun _ => by simp
      have t0 : Int.toNat 0 = 0 := rfl
      have t00 : Int.toNat 1 = 1 := rfl
      simp only [hg, w1, hst, t0, t00, zad, zae, zab, push_cast, ↓reduceIte, reduceCtorEq, zB, zE, zA, zS, zL, zD, zM]
      refine ⟨by omega, ?_⟩
      repeat refine And.intro (by first | omega | decide | (simp; done) | kernel_rfl) ?_
      refine dcall_mk t1 rfl trivial ?_
      simp only [hg, w1, hst, t0, t00, zad, zae, zab, push_cast, ↓reduceIte, reduceCtorEq, zB, zE, zA, zS, zL, zD, zM]
      repeat refine And.intro (by first | omega | decide | (simp; done) | kernel_rfl) ?_
      refine dcall_mk t2 rfl trivial ?_
      simp only [hg, w1, hst, sC, sd, t0, t00, zad, zae, zab, push_cast, ↓reduceIte, reduceCtorEq, zB, zE, zA, zS, zL, zD, zM]
      refine And.intro ⟨by omega, by omega⟩ (And.intro (by kernel_rfl) ⟨⟨j + 1, by omega, ?_, ?_⟩, by omega⟩)
      ·rw [hC, zah]; rfl
      ·rw [hC]
     ·have hj : j = rg.length := Nat.le_antisymm j0 (by simpa using hj)
      subst hj
      rw [List.take_length]
      have hcl := crnT_len rg
      have hcle := crnT_le rg hrg
      have hst : (strs (crnT rg)).take (crnT rg).length = strs (crnT rg) := zaa (by simp [strs])
      have hj1 := join_le 44 21 (crnT rg) hcle
      have hjt := join_t (crnT rg) 44 (by omega) (by omega)
      have l44 : ({ data := #[44] } : ByteArray) = bstr [44] := rfl
      simp only [hst, l44, push_cast, ↓reduceIte, reduceCtorEq, zB, zE, zA, zS, zL, zD, zM]
      refine callA_give ?_
      simp only [hst, l44, push_cast, ↓reduceIte, reduceCtorEq, zB, zE, zA, zS, zL, zD, zM]
      refine call_mk hjt rfl trivial ?_
      obtain ⟨J, hJ⟩ : ∃ J, Lib.join (crnT rg) [44] = J := ⟨_, rfl⟩
      rw [hJ] at hQ2 hj1 ⊢
      have l112 : ({ data := #[112, 61] } : ByteArray) = bstr [112, 61] := rfl
      have hPP : (strs P).take P.length = strs P := zaa (by simp [strs])
      obtain ⟨p1, hp1⟩ : ∃ p1, [112, 61] ++ J = p1 := ⟨_, rfl⟩
      have hp1l : p1.length = J.length + 2 := by rw [← hp1]; simp
      rw [hp1] at hQ2
      have sP : List.map strR P ++ [.v (.string (bstr p1))] = strs (P ++ [p1]) := by simp [strs, strR]
      have sd : ∀ j : Nat, ¬ j ∈ ([] : List Nat) := fun _ => by simp
      have e2 : bstr [112, 61] ++ bstr J = bstr p1 := by rw [← hp1]; exact bstr_app _ _
      have e47 : bstr [47] ++ bstr nm = bstr (47 :: nm) := bstr_app _ _
      rw [if_neg (by simp)] at hQ2
      have zc : decide (((P.length : Nat) : Int) + 1 > 0) = true := decide_eq_true (by omega)
      have hPle' : ∀ p ∈ P ++ [p1], p.length ≤ 100000 := fun p hp => by
       rcases zai.1 hp with hp | hp
       ·have := hPle p hp; omega
       ·simp at hp; subst hp; omega
      have hlen : (P ++ [p1]).length = P.length + 1 := by simp
      have hj := hjl _ hPle' (by omega)
      have hjt := join_t (P ++ [p1]) 38 (by omega) (by omega)
      obtain ⟨PP, hPd⟩ : ∃ PP, P ++ [p1] = PP := ⟨_, rfl⟩
      rw [hPd] at hj hjt hQ2 sP hlen
      have hst : List.take (P.length + 1) (strs PP) = strs PP := zaa (by simp [strs]; omega)
      clear hPle' hjl
      simp only [l112, l47, l63, s38, e2, e47, sd, hPP, sP, zc, hst, bstr_size, push_cast, ↓reduceIte, reduceCtorEq, zB, zE, zA, zS, zL, zD, zM]
      refine ⟨by omega, ⟨by omega, by omega⟩, by omega, callA_give ?_⟩
      simp only [hst, push_cast, ↓reduceIte, reduceCtorEq, zB, zE, zA, zS, zL, zD, zM]
      refine call_mk hjt rfl trivial ?_
      simp only [bstr_app, bstr_size, push_cast, ↓reduceIte, reduceCtorEq, zB, zE, zA, zS, zL, zD, zM]
      exact ⟨by omega, by first | omega | (simp; omega), by rw [hQ2]; simp⟩
   ·have h15 : k ≠ 15 := by simpa using h15
    rw [if_neg h15, zaf] at hQ2
    simp only [l47, l63, s38, bstr_app, bstr_size, push_cast, ↓reduceIte, reduceCtorEq, zB, zE, zA, zS, zL, zD, zM]
    refine ⟨by first | omega | (simp; omega), ?_⟩
    rcases P with _ | ⟨p0, P⟩
    ·rw [if_pos rfl, zaf] at hQ2
     subst hQ2
     have z0 : decide ((0 : Int) > 0) = false := rfl
     simp only [z0, push_cast, ↓reduceIte, reduceCtorEq, zB, zE, zA, zS, zL, zD, zM]
    ·rw [if_neg (by simp)] at hQ2
     have hj := hjl (p0 :: P) (fun p hp => by have := hPle p hp; omega) (by omega)
     have zc : decide ((((p0 :: P).length : Nat) : Int) > 0) = true := decide_eq_true (by simp)
     have hst : (strs (p0 :: P)).take (p0 :: P).length = strs (p0 :: P) := zaa (by simp [strs])
     have hjt := join_t (p0 :: P) 38 (by omega) (by omega)
     obtain ⟨PP, hPP⟩ : ∃ PP, p0 :: P = PP := ⟨_, rfl⟩
     rw [hPP] at hj zc hst hjt hPl2 hQ2 ⊢
     simp only [zc, hst, push_cast, ↓reduceIte, reduceCtorEq, zB, zE, zA, zS, zL, zD, zM]
     refine callA_give ?_
     simp only [hst, push_cast, ↓reduceIte, reduceCtorEq, zB, zE, zA, zS, zL, zD, zM]
     refine call_mk hjt rfl trivial ?_
     simp only [bstr_app, bstr_size, push_cast, ↓reduceIte, reduceCtorEq, zB, zE, zA, zS, zL, zD, zM]
     exact ⟨by omega, by omega, by rw [hQ2]; simp⟩

def wcF (fs : List (UInt8 × Bool)) : Nat := (fs.filter fun x => x.2).length
def ncF (fs : List (UInt8 × Bool)) : Nat := (fs.filter fun x => !x.2).length
def Good (f : Form) (a : AskD) : Prop :=
 if f.1 = 16 then batchE a.os = 0 ∧ a.ns = [] ∧ a.ws = [] ∧ a.rg = []
 else a.ws.length = wcF f.2.2 ∧ a.ns.length = ncF f.2.2 ∧ (∀ w ∈ a.ws, isWB w = true) ∧ (if f.1 = 15 then 1 ≤ a.rg.length ∧ a.rg.length ≤ 100 else a.rg = []) ∧ a.os = []
theorem fldsR_good : ∀ (fs : List (UInt8 × Bool)) (ps : List Bs) (ns : List Int) (ws : List Bs), (fldsR fs ps ns ws).2.2 = true → (fldsR fs ps ns ws).1.length = ns.length + ncF fs ∧ (fldsR fs ps ns ws).2.1.length = ws.length + wcF fs
 | [], ps, ns, ws, h => by simp [fldsR, ncF, wcF]
 | (c, w) :: fs, ps, ns, ws, h => by
  rw [fldsR] at h ⊢
  cases hv : valP c (ps.headD []) with
  | none => rw [hv] at h; cases h
  | some v =>
   rw [hv] at h
   simp only at h ⊢
   cases w with
   | true =>
    simp only at h ⊢
    have := fldsR_good fs ps.tail ns (ws ++ [v]) h
    simp [ncF, wcF] at this ⊢
    omega
   | false =>
    simp only at h ⊢
    cases hp : pv v with
    | none => rw [hp] at h; cases h
    | some n =>
     rw [hp] at h
     simp only at h ⊢
     have := fldsR_good fs ps.tail (ns ++ [n]) ws h
     simp [ncF, wcF] at this ⊢
     omega
theorem identP_wb (s : Bs) (h : (identP s).2 = 0) : isWB (identP s).1 = true := by
 unfold identP at h ⊢
 cases hd : digitsP s with
 | none =>
  rw [hd] at h
  exact absurd h (by decide)
 | some w =>
  rw [hd] at h
  by_cases hw : isWB w = true
  ·simp only [hw, if_true]
  ·simp only at h
   rw [if_neg hw] at h
   exact absurd h (by decide)
theorem wordsP_good : ∀ (ws : List Bs) (acc wl : List Nat), wordsP ws acc = .ok wl → wl.length = acc.length + ws.length ∧ ((∀ w ∈ acc, isWB w = true) → ∀ w ∈ wl, isWB w = true)
 | [], acc, wl, h => by cases h; simp
 | s :: r, acc, wl, h => by
  unfold wordsP at h
  split at h
  ·rename_i h0
   obtain ⟨h1, h2⟩ := wordsP_good r _ _ h
   refine ⟨by simp at h1 ⊢; omega, fun ha => h2 fun w hw => ?_⟩
   rcases zai.1 hw with hw | hw
   ·exact ha w hw
   ·simp at hw
    subst hw
    exact identP_wb s h0
  ·cases h
theorem wordsP_err : ∀ (ws : List Bs) (acc : List Nat) (e : Int), wordsP ws acc = .error e → e ≠ 0
 | [], acc, e, h => by cases h
 | s :: r, acc, e, h => by
  unfold wordsP at h
  split at h
  ·exact wordsP_err r _ _ h
  ·rename_i h0
   cases h
   exact h0
theorem nil_form : ∀ f ∈ formsL, f.2.2 = [] → f.1 ≠ 15 := by decide
theorem ringP_good {s : Bs} {rg : List (Int × Int)} (h : ringP s = some rg) : 1 ≤ rg.length ∧ rg.length ≤ 100 := by
 have h1 := ringP_ne h
 have h2 : 1 ≤ rg.length := by cases rg with
  | nil => exact absurd rfl h1
  | cons => simp
 unfold ringP at h
 simp only at h
 split at h
 ·cases h
 ·have := cornP_len _ _ _ h
  simp at this
  omega
theorem queryR_good (f : Form) (q : Bs) (h : (queryR f q).1.2.2 = true) : (queryR f q).1.1.length = ncF f.2.2 ∧ (queryR f q).1.2.1.length = wcF f.2.2 ∧ (if f.1 = 15 then 1 ≤ (queryR f q).2.length ∧ (queryR f q).2.length ≤ 100 else (queryR f q).2 = []) := by
 have hG : ∀ (ps : List Bs) (rg : List (Int × Int)), (queryG f ps rg).1.2.2 = true → (queryG f ps rg).1.1.length = ncF f.2.2 ∧ (queryG f ps rg).1.2.1.length = wcF f.2.2 ∧ (queryG f ps rg).2 = rg := fun ps rg h => by
  unfold queryG at h ⊢
  split at h
  ·cases h
  ·rename_i hl
   rw [if_neg hl]
   have := fldsR_good _ _ _ _ h
   simp at this
   exact ⟨this.1, this.2, rfl⟩
 unfold queryR at h ⊢
 split at h
 ·rename_i h15
  rw [if_pos h15]
  cases hv : valP 112 ((pieces 38 q).getLastD []) with
  | none => rw [hv] at h; cases h
  | some p =>
   rw [hv] at h
   simp only at h ⊢
   cases hr : ringP p with
   | none => rw [hr] at h; cases h
   | some rg =>
    rw [hr] at h
    simp only at h ⊢
    obtain ⟨g1, g2, g3⟩ := hG _ _ h
    rw [if_pos h15, g3]
    exact ⟨g1, g2, ringP_good hr⟩
 ·rename_i h15
  rw [if_neg h15]
  obtain ⟨g1, g2, g3⟩ := hG _ _ h
  rw [if_neg h15]
  exact ⟨g1, g2, g3⟩
theorem opsR_good {l : Bs} {os : List Op5} (h : opsR l = some os) : batchE os = 0 := by
 unfold opsR at h
 split at h
 ·cases h
 ·rename_i hc
  cases h
  exact Classical.byContradiction fun e => hc (.inr e)
theorem whole_good (f : Form) (hf : f ∈ formsL) (rest : Bs) (a : AskD) (h : wholeD f rest = (a, 0)) : a.k = f.1 ∧ Good f a := by
 unfold wholeD at h
 unfold Good
 split at h
 ·rename_i h16
  rw [if_pos h16]
  cases ho : opsR rest.tail with
  | none => rw [ho] at h; simp [loadD] at h
  | some os =>
   rw [ho] at h
   simp only [loadD, Prod.mk.injEq] at h
   obtain ⟨rfl, _⟩ := h
   exact ⟨rfl, opsR_good ho, rfl, rfl, rfl⟩
 ·rename_i h16
  rw [if_neg h16]
  split at h
  ·rename_i h0
   simp only [Prod.mk.injEq] at h
   obtain ⟨rfl, _⟩ := h
   refine ⟨rfl, ?_, ?_, ?_, ?_, rfl⟩
   ·rw [h0.1]; rfl
   ·rw [h0.1]; rfl
   ·simp
   ·rw [if_neg (nil_form f hf h0.1)]
  ·split at h
   ·simp at h
   ·split at h
    ·rename_i hq
     obtain ⟨g1, g2, g3⟩ := queryR_good f rest.tail hq
     cases hw : wordsP (queryR f rest.tail).1.2.1 [] with
     | error e =>
      rw [hw] at h
      simp only [finD, Prod.mk.injEq] at h
      exact absurd h.2 (wordsP_err _ _ _ hw)
     | ok wl =>
      rw [hw] at h
      simp only [finD, Prod.mk.injEq] at h
      obtain ⟨rfl, _⟩ := h
      obtain ⟨w1, w2⟩ := wordsP_good _ _ _ hw
      exact ⟨rfl, by simp at w1; rw [w1, g2], g1, w2 (by simp), g3, rfl⟩
    ·simp at h
theorem parse_good (b : Bs) (a : AskD) (h : parseD b = (a, 0)) : b.length ≤ 10000 ∧ ∃ f ∈ formsL, f.1 = a.k ∧ Good f a := by
 unfold parseD at h
 split at h
 ·simp at h
 ·rename_i hl
  refine ⟨by omega, ?_⟩
  cases hf : formsL.find? (nmF (upTo stopB (bhd b)).1) with
  | none => rw [hf] at h; simp at h
  | some f =>
   rw [hf] at h
   simp only at h
   split at h
   ·simp at h
   ·have hm := zal hf
    obtain ⟨h1, h2⟩ := whole_good f hm _ a h
    exact ⟨f, hm, h1.symm, h2⟩
def joinS : Bool → List Bs → Bs
 | _, [] => []
 | b, p :: ps => [if b then 63 else 38] ++ (p ++ joinS false ps)
theorem joinS_app : ∀ (b : Bool) (l r : List Bs), joinS b (l ++ r) = joinS b l ++ joinS (b && l.isEmpty) r
 | b, [], r => by simp [joinS]
 | b, p :: l, r => by simp [joinS, joinS_app false l r]
theorem joinS_false : ∀ ps : List Bs, joinS false ps = Lib.joinTail [38] ps
 | [] => rfl
 | p :: ps => by simp [joinS, joinS_false ps, Lib.joinTail]
theorem joinS_true (ps : List Bs) : joinS true ps = if ps = [] then [] else 63 :: Lib.join ps [38] := by
 cases ps with
 | nil => rfl
 | cons p r => rw [if_neg (by simp), Lib.join_cons, joinS, joinS_false]; rfl
theorem formT_eq (f : Form) (a : AskD) : formT f a = 47 :: f.2.1 ++ joinS true (partsT f a) := by rw [joinS_true]; rfl
def wOk (a : AskD) (w m : Nat) : Prop := w + m ≤ a.ws.length ∧ ∀ i, i < m → isWB (a.ws.getD (w + i) 0) = true
theorem txS_gen (a : AskD) (rest : Bs) : ∀ (fs : List (UInt8 × Bool)) (b : Bool) (s : Bs) (n w r : Nat), (∀ x ∈ fs, wordB a.k x.1 = x.2 ∧ x.1 ≠ 112) →
  ((n + ncF fs ≤ a.ns.length ∧ wOk a w (wcF fs)) → txS a (fs.map (·.1) ++ rest) b s n w r = txS a rest (b && fs.isEmpty) (s ++ joinS b (fldT fs (a.ws.drop w) (a.ns.drop n))) (n + ncF fs) (w + wcF fs) r) ∧
  (¬ (n + ncF fs ≤ a.ns.length ∧ wOk a w (wcF fs)) → n ≤ a.ns.length → w ≤ a.ws.length → txS a (fs.map (·.1) ++ rest) b s n w r = none)
 | [], b, s, n, w, r, _ => by
  refine ⟨fun _ => by simp [ncF, wcF, fldT, joinS], fun h hn hw => absurd ⟨by simpa [ncF] using hn, ?_⟩ h⟩
  exact ⟨by simpa [wcF] using hw, fun i hi => by simp [wcF] at hi⟩
 | (c, true) :: fs, b, s, n, w, r, hx => by
  have hc := (hx (c, true) (by simp)).1
  have ih := txS_gen a rest fs false (s ++ ([if b then 63 else 38] ++ ([c, 61] ++ hexN (a.ws.getD w 0) 16))) n (w + 1) r fun x h => hx x (by simp [h])
  have hn' : ncF ((c, true) :: fs) = ncF fs := by simp [ncF]
  have hw' : wcF ((c, true) :: fs) = wcF fs + 1 := by simp [wcF]
  have hun : txS a (((c, true) :: fs).map (·.1) ++ rest) b s n w r = if w < a.ws.length ∧ isWB (a.ws.getD w 0) = true then txS a (fs.map (·.1) ++ rest) false (s ++ ([if b then 63 else 38] ++ ([c, 61] ++ hexN (a.ws.getD w 0) 16))) n (w + 1) r else none := by
   rw [List.map_cons, zam, txS, if_pos hc]
  rw [hun, hn', hw']
  refine ⟨fun ⟨h1, h2, h3⟩ => ?_, fun h h1 h2 => ?_⟩
  ·have h0 := h3 0 (by omega)
   rw [Nat.add_zero] at h0
   rw [if_pos ⟨by omega, h0⟩, ih.1 ⟨h1, by omega, fun i hi => by have := h3 (i + 1) (by omega); rwa [show w + (i + 1) = w + 1 + i by omega] at this⟩]
   have hd : a.ws.drop w = a.ws.getD w 0 :: a.ws.drop (w + 1) := by
    have hlt : w < a.ws.length := by omega
    rw [zap hlt, zag, zan hlt]
    rfl
   rw [hd, fldT, joinS]
   simp only [Bool.false_and, List.isEmpty_cons, Bool.and_false, List.append_assoc]
   rw [show w + 1 + wcF fs = w + (wcF fs + 1) by omega]
  ·split
   ·rename_i hq
    refine ih.2 (fun ⟨g1, g2, g3⟩ => h ⟨g1, by omega, fun i hi => ?_⟩) h1 (by omega)
    cases i with
    | zero => exact hq.2
    | succ i => have := g3 i (by omega); rwa [show w + 1 + i = w + (i + 1) by omega] at this
   ·rfl
 | (c, false) :: fs, b, s, n, w, r, hx => by
  have hc := (hx (c, false) (by simp)).1
  have hc2 := (hx (c, false) (by simp)).2
  have ih := txS_gen a rest fs false (s ++ ([if b then 63 else 38] ++ ([c, 61] ++ Lib.itoa (a.ns.getD n 0)))) (n + 1) w r fun x h => hx x (by simp [h])
  have hn' : ncF ((c, false) :: fs) = ncF fs + 1 := by simp [ncF]
  have hw' : wcF ((c, false) :: fs) = wcF fs := by simp [wcF]
  have hun : txS a (((c, false) :: fs).map (·.1) ++ rest) b s n w r = if n < a.ns.length then txS a (fs.map (·.1) ++ rest) false (s ++ ([if b then 63 else 38] ++ ([c, 61] ++ Lib.itoa (a.ns.getD n 0)))) (n + 1) w r else none := by
   rw [List.map_cons, zam, txS, if_neg (by rw [hc]; simp), if_neg hc2]
  rw [hun, hn', hw']
  refine ⟨fun ⟨h1, h2⟩ => ?_, fun h h1 h2 => ?_⟩
  ·rw [if_pos (by omega), ih.1 ⟨by omega, h2⟩]
   have hd : a.ns.drop n = a.ns.getD n 0 :: a.ns.drop (n + 1) := by
    have hlt : n < a.ns.length := by omega
    rw [zap hlt, zag, zan hlt]
    rfl
   rw [hd, fldT, joinS]
   simp only [Bool.false_and, List.isEmpty_cons, Bool.and_false, List.append_assoc]
   rw [show n + 1 + ncF fs = n + (ncF fs + 1) by omega]
  ·split
   ·exact ih.2 (fun ⟨g1, g2⟩ => h ⟨by omega, g2⟩) (by omega) h2
   ·rfl
theorem jt_cons (c : UInt8) (x : Bs) (l : List Bs) : Lib.joinTail [c] (x :: l) = c :: (x ++ Lib.joinTail [c] l) := by simp [Lib.joinTail]
theorem jt_crn : ∀ r : List (Int × Int), Lib.joinTail [44] (crnT r) = r.flatMap fun q => (44 : UInt8) :: (Lib.itoa q.1 ++ 44 :: Lib.itoa q.2)
 | [] => rfl
 | q :: r => by
  have : crnT (q :: r) = Lib.itoa q.1 :: Lib.itoa q.2 :: crnT r := rfl
  rw [this, jt_cons, jt_cons, jt_crn r]
  simp
theorem rgT_join (rg : List (Int × Int)) (h : rg ≠ []) : rgT rg = Lib.join (crnT rg) [44] := by
 cases rg with
 | nil => exact absurd rfl h
 | cons p r =>
  have : crnT (p :: r) = Lib.itoa p.1 :: Lib.itoa p.2 :: crnT r := rfl
  rw [this, Lib.join_cons, jt_cons, jt_crn]
  simp [rgT]
theorem form_keys : ∀ f ∈ formsL, f.1 ≠ 16 → keysL.getD (f.1 - 1).toNat [] = f.2.2.map (·.1) ++ (if f.1 = 15 then [112] else []) ∧ ∀ x ∈ f.2.2, wordB f.1 x.1 = x.2 ∧ x.1 ≠ 112 ∧ x.1 ≠ 38 := by decide
theorem form_nm : ∀ f ∈ formsL, nmS f.1 = f.2.1 ∧ f.2.1 ≠ [] ∧ f.2.1.length ≤ 10 ∧ f.2.2.length ≤ 5 ∧ formsL.find? (fun g => g.1 == f.1) = some f := by decide
theorem form_nm2 : ∀ f ∈ formsL, formsL.find? (nmF f.2.1) = some f := by decide
theorem form_nm3 : ∀ f ∈ formsL, ∀ c ∈ f.2.1, stopB c = false := by decide
theorem form_16 : ∀ f ∈ formsL, f.1 = 16 → f = (16, [108, 111, 97, 100], []) := by decide
theorem form_none (k : Int) (h : formsL.find? (fun g => g.1 == k) = none) : nmS k = [] := by
 unfold nmS
 split
 ·rename_i hk
  rw [List.find?_eq_none] at h
  have hall : ∀ m : Fin 16, ∃ f ∈ formsL, f.1 = (m.val : Int) + 1 := by decide
  obtain ⟨f, hf, e⟩ := hall ⟨(k - 1).toNat, by omega⟩
  have := h f hf
  simp only at e
  rw [show k = f.1 by omega] at this
  simp at this
 ·rfl
def progB (f : Form) (a : AskD) : Bs := formT f a ++ if f.1 = 16 then 10 :: (if batchE a.os = 0 then opsBs a.os else []) else []
theorem partsT_16 (a : AskD) : partsT (16, [108, 111, 97, 100], []) a = [] := by simp [partsT, fldT]
theorem progB_16 (a : AskD) (h : batchE a.os = 0) : progB (16, [108, 111, 97, 100], []) a = 47 :: ([108, 111, 97, 100] ++ 10 :: opsBs a.os) := by
 unfold progB
 rw [formT_eq, partsT_16, if_pos rfl, if_pos h]
 rfl
theorem nms_16 : nmS 16 = [108, 111, 97, 100] := rfl
theorem wOk_iff (a : AskD) (fs : List (UInt8 × Bool)) (hl : a.ws.length = wcF fs) : wOk a 0 (wcF fs) ↔ ∀ w ∈ a.ws, isWB w = true := by
 unfold wOk
 constructor
 ·rintro ⟨_, h⟩ w hw
  obtain ⟨i, hi, rfl⟩ := List.mem_iff_getElem.1 hw
  have := h i (by omega)
  rw [zab, zag, zan hi] at this
  exact this
 ·intro h
  refine ⟨by omega, fun i hi => ?_⟩
  rw [zab, zag, zan (by omega)]
  exact h _ (List.getElem_mem _)
theorem txS_nil (a : AskD) (b : Bool) (s : Bs) (n w r : Nat) : txS a [] b s n w r = some (s, n, w, r) := rfl
theorem txS_p (a : AskD) (hk : a.k = 15) (b : Bool) (s : Bs) (n w r : Nat) : txS a [112] b s n w r = if 1 ≤ a.rg.length ∧ a.rg.length ≤ 100 then some (s ++ ([if b then 63 else 38] ++ ([112, 61] ++ rgT a.rg)), n, w, a.rg.length) else none := by
 rw [txS, if_neg (by rw [hk]; decide), if_pos rfl]
 rfl
theorem textS_good (f : Form) (hf : f ∈ formsL) (a : AskD) (hk : f.1 = a.k) (hG : Good f a) : textS a = if (progB f a).length ≤ 10000 then (progB f a, true) else ([], false) := by
 obtain ⟨n1, n2, n3, n4, n5⟩ := form_nm f hf
 unfold Good at hG
 unfold textS
 rw [← hk, n1, if_neg n2]
 split at hG
 ·rename_i h16
  obtain rfl := form_16 f hf h16
  obtain ⟨g1, g2, g3, g4⟩ := hG
  have hos : a.os.length ≤ 500 := by
   unfold batchE at g1
   split at g1
   ·cases g1
   ·omega
  have hl := opsBs_len a.os
  have hl2 : (47 :: ([108, 111, 97, 100] ++ 10 :: opsBs a.os)).length ≤ 10000 := by simp; omega
  rw [if_pos rfl, if_neg (by simp [g1, g2, g3, g4]), progB_16 a g1, nms_16, if_pos hl2, decide_eq_true hl2]
 ·rename_i h16
  obtain ⟨g1, g2, g3, g4, g5⟩ := hG
  obtain ⟨k1, k2⟩ := form_keys f hf h16
  rw [if_neg h16, k1]
  have hgen := (txS_gen a (if f.1 = 15 then [112] else []) f.2.2 true (47 :: f.2.1) 0 0 0 fun x hx => ⟨by rw [← hk]; exact (k2 x hx).1, (k2 x hx).2.1⟩).1 ⟨by omega, (wOk_iff a f.2.2 g1).2 g3⟩
  rw [hgen]
  simp only [List.drop_zero, zab]
  have hp : progB f a = 47 :: f.2.1 ++ joinS true (partsT f a) := by
   unfold progB
   rw [formT_eq, if_neg h16, zaf]
  rw [hp]
  unfold partsT
  by_cases h15 : f.1 = 15
  ·rw [if_pos h15] at g4 ⊢
   have hne : a.rg ≠ [] := fun e => by rw [e] at g4; simp at g4
   rw [txS_p a (by omega), if_pos g4, if_pos h15, joinS_app]
   have hfl : (fldT f.2.2 a.ws a.ns).isEmpty = f.2.2.isEmpty := by
    have := fldT_len f.2.2 a.ws a.ns
    cases hq : fldT f.2.2 a.ws a.ns <;> cases hr : f.2.2 <;> rw [hq, hr] at this <;> simp at this <;> rfl
   rw [hfl, joinS, joinS, rgT_join _ hne]
   simp only [zaf, List.append_assoc]
   generalize 47 :: f.2.1 ++ _ = B
   by_cases hB : B.length ≤ 10000
   ·rw [if_pos hB, if_neg (by simp [g1, g2, g5]; omega)]
   ·rw [if_neg hB, if_pos (.inr (.inr (.inr (.inr (by omega)))))]
  ·rw [if_neg h15] at g4 ⊢
   rw [txS_nil, if_neg h15, zaf]
   simp only
   generalize 47 :: f.2.1 ++ _ = B
   by_cases hB : B.length ≤ 10000
   ·rw [if_pos hB, if_neg (by simp [g1, g2, g4, g5]; omega)]
   ·rw [if_neg hB, if_pos (.inr (.inr (.inr (.inr (by omega)))))]
theorem textS_bad (f : Form) (hf : f ∈ formsL) (a : AskD) (hk : f.1 = a.k) (hG : ¬ Good f a) : textS a = ([], false) := by
 obtain ⟨n1, n2, n3, n4, n5⟩ := form_nm f hf
 unfold Good at hG
 unfold textS
 rw [← hk, n1, if_neg n2]
 split at hG
 ·rename_i h16
  rw [if_pos h16, if_pos]
  exact Classical.byContradiction fun e => hG (by
   simp only [not_or, Classical.not_not] at e
   exact e)
 ·rename_i h16
  obtain ⟨k1, k2⟩ := form_keys f hf h16
  rw [if_neg h16, k1]
  have hgen := txS_gen a (if f.1 = 15 then [112] else []) f.2.2 true (47 :: f.2.1) 0 0 0 fun x hx => ⟨by rw [← hk]; exact (k2 x hx).1, (k2 x hx).2.1⟩
  by_cases hc : 0 + ncF f.2.2 ≤ a.ns.length ∧ wOk a 0 (wcF f.2.2)
  ·rw [hgen.1 hc]
   by_cases h15 : f.1 = 15
   ·rw [if_pos h15] at hG ⊢
    rw [txS_p a (by omega)]
    split
    ·rfl
    ·rename_i s n w r hq
     split at hq
     ·rename_i hr
      cases hq
      rw [if_pos]
      refine Classical.byContradiction fun e => hG ?_
      simp only [not_or, Classical.not_not] at e
      obtain ⟨e1, e2, _, e4, _⟩ := e
      have e2' : a.ws.length = wcF f.2.2 := by omega
      exact ⟨e2', by omega, (wOk_iff a f.2.2 e2').1 hc.2, hr, e4⟩
     ·cases hq
   ·rw [if_neg h15] at hG ⊢
    rw [txS_nil]
    simp only
    rw [if_pos]
    refine Classical.byContradiction fun e => hG ?_
    simp only [not_or, Classical.not_not] at e
    obtain ⟨e1, e2, e3, e4, _⟩ := e
    have e2' : a.ws.length = wcF f.2.2 := by omega
    exact ⟨e2', by omega, (wOk_iff a f.2.2 e2').1 hc.2, zaj (by omega), e4⟩
  ·rw [hgen.2 hc (by omega) (by omega)]
theorem textS_none (a : AskD) (h : formsL.find? (fun g => g.1 == a.k) = none) : textS a = ([], false) := by
 unfold textS
 rw [form_none _ h, if_pos rfl]

theorem join_cons2 (c : UInt8) (p q : Bs) (r : List Bs) : Lib.join (p :: q :: r) [c] = p ++ c :: Lib.join (q :: r) [c] := by
 rw [Lib.join_cons, Lib.join_cons, jt_cons]
theorem pieces_join (c : UInt8) : ∀ ps : List Bs, ps ≠ [] → (∀ p ∈ ps, c ∉ p) → pieces c (Lib.join ps [c]) = ps
 | [], h, _ => absurd rfl h
 | [p], _, h => by rw [Lib.join_one, pieces_free c p (h p (by simp))]
 | p :: q :: r, _, h => by rw [join_cons2, pieces_cut c p _ (h p (by simp)), pieces_join c (q :: r) (by simp) fun x hx => h x (by simp [hx])]
theorem pv_itoa {n : Int} (h : in64 n) : pv (Lib.itoa n) = some n := (pv_iff _ _).2 ⟨h, rfl⟩
theorem cornP_crn : ∀ (rg out : List (Int × Int)), (∀ p ∈ rg, in64 p.1 ∧ in64 p.2) → cornP (crnT rg) out = some (out ++ rg)
 | [], out, _ => by simp [crnT, cornP]
 | p :: r, out, h => by
  have : crnT (p :: r) = Lib.itoa p.1 :: Lib.itoa p.2 :: crnT r := rfl
  rw [this, cornP, pv_itoa (h p (by simp)).1, pv_itoa (h p (by simp)).2]
  simp only
  rw [cornP_crn r _ fun q hq => h q (by simp [hq])]
  simp
theorem plain_44 {l : Bs} (h : ∀ c ∈ l, plainC c) : (44 : UInt8) ∉ l := fun hm => plain_ne (h _ hm) (by decide) rfl
theorem crn_plain (rg : List (Int × Int)) : ∀ p ∈ crnT rg, ∀ c ∈ p, plainC c := fun p hp => by
 simp only [crnT, List.mem_flatMap, zac, List.not_mem_nil, or_false] at hp
 obtain ⟨q, hq, rfl | rfl⟩ := hp
 ·exact itoa_plain _
 ·exact itoa_plain _
theorem ringP_join (rg : List (Int × Int)) (h : ∀ p ∈ rg, in64 p.1 ∧ in64 p.2) (h1 : 1 ≤ rg.length) (h2 : rg.length ≤ 100) : ringP (Lib.join (crnT rg) [44]) = some rg := by
 have hl := crnT_len rg
 have hp : pieces 44 (Lib.join (crnT rg) [44]) = crnT rg := pieces_join 44 _ (fun e => by rw [e] at hl; simp at hl; omega) fun p hp => plain_44 (crn_plain rg p hp)
 unfold ringP
 simp only [hp, hl]
 rw [if_neg (by omega), cornP_crn rg [] h]
 rfl
theorem fldsR_fldT : ∀ (fs : List (UInt8 × Bool)) (ws : List Nat) (ns : List Int) (n0 : List Int) (w0 : List Bs), ws.length = wcF fs → ns.length = ncF fs → (∀ n ∈ ns, in64 n) →
  fldsR fs (fldT fs ws ns) n0 w0 = (n0 ++ ns, w0 ++ ws.map (fun w => hexN w 16), true)
 | [], ws, ns, n0, w0, h1, h2, _ => by
  obtain rfl : ws = [] := zaj (by simpa [wcF] using h1)
  obtain rfl : ns = [] := zaj (by simpa [ncF] using h2)
  simp [fldsR]
 | (c, true) :: fs, [], ns, n0, w0, h1, h2, _ => by simp [wcF] at h1
 | (c, true) :: fs, w :: ws, ns, n0, w0, h1, h2, h => by
  have hv : valP c ([c, 61] ++ hexN w 16) = some (hexN w 16) := valP_kv c _
  rw [fldT, fldsR, List.headD_cons, hv]
  simp only [zao]
  rw [fldsR_fldT fs ws ns _ _ (by simpa [wcF] using h1) (by simpa [ncF] using h2) h]
  simp
 | (c, false) :: fs, ws, [], n0, w0, h1, h2, _ => by simp [ncF] at h2
 | (c, false) :: fs, ws, n :: ns, n0, w0, h1, h2, h => by
  have hv : valP c ([c, 61] ++ Lib.itoa n) = some (Lib.itoa n) := valP_kv c _
  rw [fldT, fldsR, List.headD_cons, hv]
  simp only [zao, pv_itoa (h n (by simp))]
  rw [fldsR_fldT fs ws ns _ _ (by simpa [wcF] using h1) (by simpa [ncF] using h2) fun m hm => h m (by simp [hm])]
  simp
theorem wordsP_hex : ∀ (ws acc : List Nat), (∀ w ∈ ws, w < 18446744073709551616) → (∀ w ∈ ws, isWB w = true) → wordsP (ws.map fun w => hexN w 16) acc = .ok (acc ++ ws)
 | [], acc, _, _ => by simp [wordsP]
 | w :: ws, acc, h1, h2 => by
  have := identP_good (h1 w (by simp)) (h2 w (by simp))
  rw [List.map_cons, wordsP, this, if_pos rfl, wordsP_hex ws _ (fun x hx => h1 x (by simp [hx])) fun x hx => h2 x (by simp [hx])]
  simp
theorem fldT_free : ∀ (fs : List (UInt8 × Bool)) (ws : List Nat) (ns : List Int), (∀ x ∈ fs, x.1 ≠ 38) → ∀ p ∈ fldT fs ws ns, (38 : UInt8) ∉ p
 | [], _, _, _, p, hp => by simp [fldT] at hp
 | (c, true) :: fs, [], ns, h, p, hp => by
  have hc : (38 : UInt8) ≠ c := fun e => h (c, true) (by simp) e.symm
  simp only [fldT, zac] at hp
  rcases hp with rfl | hp
  ·simp [hc]
  ·exact fldT_free fs [] ns (fun x hx => h x (by simp [hx])) p hp
 | (c, true) :: fs, w :: ws, ns, h, p, hp => by
  have hc : (38 : UInt8) ≠ c := fun e => h (c, true) (by simp) e.symm
  simp only [fldT, zac] at hp
  rcases hp with rfl | hp
  ·simp [hc, plain_free (hexN_plain w 16)]
  ·exact fldT_free fs ws ns (fun x hx => h x (by simp [hx])) p hp
 | (c, false) :: fs, ws, [], h, p, hp => by
  have hc : (38 : UInt8) ≠ c := fun e => h (c, false) (by simp) e.symm
  simp only [fldT, zac] at hp
  rcases hp with rfl | hp
  ·simp [hc]
  ·exact fldT_free fs ws [] (fun x hx => h x (by simp [hx])) p hp
 | (c, false) :: fs, ws, n :: ns, h, p, hp => by
  have hc : (38 : UInt8) ≠ c := fun e => h (c, false) (by simp) e.symm
  simp only [fldT, zac] at hp
  rcases hp with rfl | hp
  ·simp [hc, plain_free (itoa_plain n)]
  ·exact fldT_free fs ws ns (fun x hx => h x (by simp [hx])) p hp
theorem join_mem (c : UInt8) (x : UInt8) : ∀ ps : List Bs, x ∈ Lib.join ps [c] → x = c ∨ ∃ p ∈ ps, x ∈ p
 | [], h => by rw [Lib.join_nil] at h; simp at h
 | [p], h => by rw [Lib.join_one] at h; exact .inr ⟨p, by simp, h⟩
 | p :: q :: r, h => by
  rw [join_cons2] at h
  rcases zai.1 h with h | h
  ·exact .inr ⟨p, by simp, h⟩
  ·rcases zac.1 h with h | h
   ·exact .inl h
   ·rcases join_mem c x (q :: r) h with h | ⟨y, hy, h⟩
    ·exact .inl h
    ·exact .inr ⟨y, by simp at hy ⊢; exact .inr hy, h⟩
theorem parts_free (f : Form) (a : AskD) (h : ∀ x ∈ f.2.2, x.1 ≠ 38) : ∀ p ∈ partsT f a, (38 : UInt8) ∉ p := fun p hp hm => by
 unfold partsT at hp
 rcases zai.1 hp with hp | hp
 ·exact fldT_free _ _ _ h p hp hm
 ·split at hp
  ·simp only [List.mem_singleton] at hp
   subst hp
   rcases zai.1 hm with hm | hm
   ·simp at hm
   ·rcases join_mem 44 38 _ hm with e | ⟨y, hy, e⟩
    ·cases e
    ·exact plain_free (crn_plain a.rg y hy) e
  ·simp at hp
theorem query_parts (f : Form) (a : AskD) (hx : ∀ x ∈ f.2.2, x.1 ≠ 38) (hG : Good f a) (ha : AskOk a) (h16 : f.1 ≠ 16) (hne : partsT f a ≠ []) :
  queryR f (Lib.join (partsT f a) [38]) = ((a.ns, a.ws.map (fun w => hexN w 16), true), a.rg) := by
 have hp := pieces_join 38 _ hne (parts_free f a hx)
 unfold Good at hG
 rw [if_neg h16] at hG
 obtain ⟨g1, g2, g3, g4, g5⟩ := hG
 unfold queryR
 rw [hp]
 have hfl := fldT_len f.2.2 a.ws a.ns
 have hr := fldsR_fldT f.2.2 a.ws a.ns [] [] g1 g2 ha.ns
 simp only [List.nil_append] at hr
 by_cases h15 : f.1 = 15
 ·rw [if_pos h15] at g4 ⊢
  have hpt : partsT f a = fldT f.2.2 a.ws a.ns ++ [[112, 61] ++ Lib.join (crnT a.rg) [44]] := by unfold partsT; rw [if_pos h15]
  have hlast : (partsT f a).getLastD [] = [112, 61] ++ Lib.join (crnT a.rg) [44] := by rw [hpt]; simp
  have hv : valP 112 ([112, 61] ++ Lib.join (crnT a.rg) [44]) = some (Lib.join (crnT a.rg) [44]) := valP_kv 112 _
  rw [hlast, hv]
  simp only [ringP_join a.rg ha.rg g4.1 g4.2]
  unfold queryG
  rw [hpt, List.dropLast_concat, if_neg (by omega), hr]
 ·rw [if_neg h15] at g4 ⊢
  have hpt : partsT f a = fldT f.2.2 a.ws a.ns := by unfold partsT; rw [if_neg h15, zaf]
  unfold queryG
  rw [hpt, if_neg (by omega), hr, g4]
theorem parse_find (f : Form) (hf : f ∈ formsL) (r : Bs) (hr : r = [] ∨ ∃ c q, r = c :: q ∧ stopB c = true) (hl : (47 :: (f.2.1 ++ r)).length ≤ 10000) :
  parseD (47 :: (f.2.1 ++ r)) = if decide ((r.headD 0).toNat = 10) ≠ decide (f.1 = 16) then (ask0, 15) else wholeD f r := by
 have hb : bhd (47 :: (f.2.1 ++ r)) = f.2.1 ++ r := by unfold bhd; rw [if_pos (by simp)]; rfl
 have hu : upTo stopB (f.2.1 ++ r) = (f.2.1, r) := by
  rcases hr with rfl | ⟨c, q, rfl, hc⟩
  ·rw [zaf]; exact upTo_free stopB _ (form_nm3 f hf)
  ·exact upTo_cut stopB c q hc _ (form_nm3 f hf)
 unfold parseD
 rw [if_neg (by omega), hb, hu]
 simp only [form_nm2 f hf]
 have ht : ((47 :: (f.2.1 ++ r)).take 1 == [47]) = true := by simp
 rw [ht]
 simp
theorem parse_prog (f : Form) (hf : f ∈ formsL) (a : AskD) (hk : f.1 = a.k) (hG : Good f a) (ha : AskOk a) (hl : (progB f a).length ≤ 10000) (hops : batchE a.os = 0 → opsR (opsBs a.os) = some a.os) : parseD (progB f a) = (a, 0) := by
 by_cases h16 : f.1 = 16
 ·obtain rfl := form_16 f hf h16
  unfold Good at hG
  rw [if_pos rfl] at hG
  obtain ⟨g1, g2, g3, g4⟩ := hG
  rw [progB_16 a g1] at hl ⊢
  have := parse_find _ hf (10 :: opsBs a.os) (.inr ⟨10, _, rfl, by decide⟩) hl
  rw [this]
  simp only [List.headD_cons]
  rw [if_neg (by simp)]
  unfold wholeD
  rw [if_pos rfl, zao, hops g1]
  obtain ⟨k, ns, ws, rg, os⟩ := a
  simp only at g2 g3 g4 hk
  subst g2; subst g3; subst g4; subst hk
  rfl
 ·have hp : progB f a = 47 :: (f.2.1 ++ joinS true (partsT f a)) := by
   unfold progB
   rw [formT_eq, if_neg h16, zaf]
   rfl
  rw [hp] at hl ⊢
  obtain ⟨k1, k2⟩ := form_keys f hf h16
  by_cases hne : partsT f a = []
  ·rw [hne] at hl ⊢
   have := parse_find f hf [] (.inl rfl) hl
   rw [joinS, this, if_neg (by simp [h16])]
   have hfs : f.2.2 = [] := by
    have h1 := fldT_len f.2.2 a.ws a.ns
    unfold partsT at hne
    rw [(List.append_eq_nil_iff.1 hne).1] at h1
    exact zaj h1.symm
   have h15 : f.1 ≠ 15 := nil_form f hf hfs
   unfold Good at hG
   rw [if_neg h16, if_neg h15, hfs] at hG
   obtain ⟨g1, g2, g3, g4, g5⟩ := hG
   unfold wholeD
   rw [if_neg h16, if_pos ⟨hfs, rfl⟩]
   obtain ⟨k, ns, ws, rg, os⟩ := a
   simp only at g1 g2 g4 g5 hk
   obtain rfl : ws = [] := zaj g1
   obtain rfl : ns = [] := zaj g2
   subst g4; subst g5; subst hk
   rfl
  ·rw [joinS_true, if_neg hne] at hl ⊢
   have := parse_find f hf (63 :: Lib.join (partsT f a) [38]) (.inr ⟨63, _, rfl, by decide⟩) hl
   rw [this, if_neg (by simp [h16])]
   have hfs : f.2.2 ≠ [] := fun e => hne (by
    unfold partsT
    rw [e, if_neg (nil_form f hf e)]
    rfl)
   have hq := query_parts f a (fun x hx => (k2 x hx).2.2) hG ha h16 hne
   unfold wholeD
   rw [if_neg h16, if_neg (by simp [hfs]), if_neg (by simp [hfs]), zao, hq]
   unfold Good at hG
   rw [if_neg h16] at hG
   obtain ⟨g1, g2, g3, g4, g5⟩ := hG
   simp only [if_true]
   rw [wordsP_hex a.ws [] ha.ws g3]
   obtain ⟨k, ns, ws, rg, os⟩ := a
   simp only at g5 hk
   subst g5; subst hk
   rfl
theorem byte_nat (n : Nat) : (UInt8.ofNat n).toNat = n % 256 := by simp
theorem beN_num4 (n : Nat) : beN (num4 n) 0 = n % 4294967296 := by
 simp only [num4, beN, byte_nat]
 omega
theorem put4_parts (key x y v : Int) (r : Bs) : ((put4 key x y v ++ r).take 4 = num4 (IntKind.u64.wrap key).toNat ∧ ((put4 key x y v ++ r).take 8).drop 4 = num4 (IntKind.u64.wrap x).toNat ∧ ((put4 key x y v ++ r).take 12).drop 8 = num4 (IntKind.u64.wrap y).toNat ∧
  ((put4 key x y v ++ r).take 16).drop 12 = num4 (IntKind.u64.wrap v).toNat) ∧ (put4 key x y v ++ r).drop 16 = r := by
 simp [put4, num4]
theorem put4_len (key x y v : Int) : (put4 key x y v).length = 16 := rfl
theorem u64_small {n : Int} (h0 : 0 ≤ n) (h1 : n < 4294967296) : (((IntKind.u64.wrap n).toNat % 4294967296 : Nat) : Int) = n := by
 rw [IntKind.wrap_u64]
 omega
theorem s32_back {v : Int} (h0 : -2147483648 ≤ v) (h1 : v ≤ 2147483647) : s32 ((IntKind.u64.wrap v).toNat % 4294967296) = v := by
 rw [IntKind.wrap_u64]
 unfold s32
 split <;> omega
theorem ropsP_op (o : Op5) (hb : opB o = true) (m : Nat) (r : Bs) (acc : List Op5) : ropsP (m + 1) (opBs o ++ r) acc = ropsP m r (acc ++ [o]) := by
 obtain ⟨k, key, x, y, v⟩ := o
 unfold opB at hb
 by_cases h1 : k = 1
 ·subst h1
  simp only [if_true, ptB, keyB, inWB, Bool.and_eq_true, decide_eq_true_eq] at hb
  obtain ⟨hk, hx, hy, hv⟩ := hb
  have e : opBs ⟨1, key, x, y, v⟩ = 1 :: put4 key x y v := rfl
  obtain ⟨⟨p1, p2, p3, p4⟩, p5⟩ := put4_parts key x y v r
  have hlen : 16 ≤ (put4 key x y v ++ r).length := by rw [zah, put4_len]; omega
  rw [e, zam, ropsP, if_pos ⟨rfl, hlen⟩, p1, p2, p3, p4, p5, beN_num4, beN_num4, beN_num4, beN_num4, u64_small (by omega) (by omega), u64_small (by omega) (by omega), u64_small (by omega) (by omega), s32_back (by omega) (by omega)]
 ·simp only [h1, if_false] at hb
  by_cases h2 : k = 2
  ·subst h2
   simp only [if_true, keyB, Bool.and_eq_true, decide_eq_true_eq] at hb
   obtain ⟨hk, rfl, rfl, rfl⟩ := hb
   have e : opBs ⟨2, key, 0, 0, 0⟩ = 2 :: num4 (IntKind.u64.wrap key).toNat := rfl
   have p1 : (num4 (IntKind.u64.wrap key).toNat ++ r).take 4 = num4 (IntKind.u64.wrap key).toNat := by simp [num4]
   have p2 : (num4 (IntKind.u64.wrap key).toNat ++ r).drop 4 = r := by simp [num4]
   have hlen : 4 ≤ (num4 (IntKind.u64.wrap key).toNat ++ r).length := by simp [num4]
   rw [e, zam, ropsP, if_neg (by simp), if_pos ⟨rfl, hlen⟩, p1, p2, beN_num4, u64_small (by omega) (by omega)]
  ·simp [h2] at hb
theorem ropsP_back : ∀ (os : List Op5) (m : Nat) (acc : List Op5), os.all opB = true → os.length ≤ m → ropsP m (opsBs os) acc = some (acc ++ os)
 | [], m, acc, _, _ => by cases m <;> simp [opsBs, ropsP]
 | o :: os, 0, acc, h, hm => by simp at hm
 | o :: os, m + 1, acc, h, hm => by
  simp only [List.all_cons, Bool.and_eq_true] at h
  have : opsBs (o :: os) = opBs o ++ opsBs os := rfl
  rw [this, ropsP_op o h.1, ropsP_back os m _ h.2 (by simpa using hm)]
  simp
theorem opBs_pos (o : Op5) : 1 ≤ (opBs o).length := by unfold opBs; simp
theorem opsBs_pos : ∀ os : List Op5, os.length ≤ (opsBs os).length
 | [] => by simp [opsBs]
 | o :: os => by
  have := opsBs_pos os
  have h := opBs_pos o
  have e : opsBs (o :: os) = opBs o ++ opsBs os := rfl
  rw [e, zah]
  simp; omega
theorem opsR_back (os : List Op5) (h : batchE os = 0) : opsR (opsBs os) = some os := by
 have hall : os.all opB = true := by
  unfold batchE at h
  split at h
  ·cases h
  ·split at h
   ·cases h
   ·rename_i hc
    exact Classical.byContradiction fun e => hc (.inr (by simpa using e))
 rw [opsR_eq]
 unfold ropsR
 rw [ropsP_back os _ [] hall (opsBs_pos os)]
 simp [h]
def textP (a : AskD) : Option Bs := match formsL.find? (fun g => g.1 == a.k) with
 | none => none
 | some f => if 200 < a.rg.length then none else if (parseD (progB f a)).2 = 0 ∧ a = (parseD (progB f a)).1 then some (progB f a) else none
theorem text_law (a : AskD) (ha : AskOk a) : match textP a with
  | some b => textS a = (b, true) ∧ parseD b = (a, 0)
  | none => textS a = ([], false) := by
 unfold textP
 cases hf : formsL.find? (fun g => g.1 == a.k) with
 | none => exact textS_none a hf
 | some f =>
  have hm := zal hf
  have hk : f.1 = a.k := by have := List.find?_some hf; simpa using this
  simp only
  by_cases hG : Good f a
  ·have h200 : ¬ 200 < a.rg.length := by
    unfold Good at hG
    split at hG
    ·rw [hG.2.2.2]; simp
    ·have := hG.2.2.2.1
     split at this
     ·omega
     ·rw [this]; simp
   rw [if_neg h200]
   have hs := textS_good f hm a hk hG
   by_cases hl : (progB f a).length ≤ 10000
   ·have hp := parse_prog f hm a hk hG ha hl fun h => opsR_back a.os h
    rw [if_pos (by rw [hp]; exact ⟨rfl, rfl⟩)]
    rw [if_pos hl] at hs
    exact ⟨hs, hp⟩
   ·rw [if_neg hl] at hs
    rw [if_neg]
    ·exact hs
    ·rintro ⟨h1, h2⟩
     exact hl (parse_good (progB f a) a (Prod.ext h2.symm h1)).1
  ·have hs := textS_bad f hm a hk hG
   have hno : ¬ ((parseD (progB f a)).2 = 0 ∧ a = (parseD (progB f a)).1) := by
    rintro ⟨h1, h2⟩
    obtain ⟨_, g, hg, hgk, hgG⟩ := parse_good (progB f a) a (Prod.ext h2.symm h1)
    have e1 := (form_nm g hg).2.2.2.2
    rw [hgk, hf] at e1
    cases e1
    exact hG hgG
   split
   ·rename_i b hb
    split at hb
    ·cases hb
    ·first | cases hb | (rw [if_neg hno] at hb; cases hb)
   ·exact hs

noncomputable def ask_Text_1_pc : PC :=
  (.seq (.reg [p_a 2 (.box (.t 0)), p_s 3 (.mov (.c (.r (.v (.bool false)))))])
 (.seq (.reg [p_s 4 (.fa 0 (.t 2)), p_s 5 (.ld none (.t 4)), p_s 6 (.fa 0 (.t 1)), p_s 7 (.ld none (.t 6)), p_s 8 (.bin .eql (.t 5) (.t 7)), p_m 3 8])
 .ret))
theorem ask_Text_1_triple : Fun P0 43 2 [(3, false, none)] ask_Text_1_pc := fun_mk Go.Proofs.Tryz.func43 rfl (by decide) (by kernel_rfl) (by decide) rfl (by kernel_rfl) (by kernel_rfl) (by decide)
noncomputable def ask_Text_pc : PC :=
  (.seq (.reg [p_a 1 (.box (.t 0)), p_s 2 (.mov (.c (.nils 1 (.v (.int .u8 0))))), p_s 3 (.mov (.c (.r (.v (.bool false)))))])
 (.seq (.reg [p_s 12 (.mkf (.func 43) [(.t 1)]), p_c 13 1 21 [.t 12], p_m 11 13, p_s 14 (.ext (.t 11) 0), p_s 15 (.ext (.t 11) 1), p_a 4 (.new [(.r (.v (.int .i64 0))), (.r (.v (.string ⟨#[]⟩))), (.nils 2 (.agg [(.v (.string ⟨#[]⟩)), (.v (.bool false))]))]),
 ⟨none, none, 0, .act (.st 3 (.t 4) (.t 14))⟩, p_m 5 15])
 (.seq (.seq (.reg [p_m 16 5, p_s 17 (.un .not (.t 16)), p_m 18 17, p_g 19 18 false (.fa 3 (.t 1)), p_g 20 18 false (.ld none (.t 19)), p_g 21 18 false (.len false (.t 20)), p_g 22 18 false (.bin .gtr (.t 21) (o_i 200)),
 p_s 23 (.pick (.t 18) (.c (.r (.v (.bool true)))) (.t 22))])
 (.cond (.t 23)
 (.seq (.reg [p_s 2 (.mov (.c (.nils 1 (.v (.int .u8 0))))), p_s 3 (.mov (.c (.r (.v (.bool false)))))])
 .ret)
 .skip))
 (.seq (.reg [p_s 24 (.ld (some 3) (.t 4)), p_s 25 (.ld (some 5) (.t 1)), p_c 26 2 44 [.t 24, .t 25], p_a 27 (.toBytes (.v (.int .u8 0)) (.t 26)), p_m 6 27])
 (.seq (.seq (.reg [p_s 28 (.fa 0 (.t 4)), p_s 29 (.ld none (.t 28)), p_s 30 (.bin .eql (.t 29) (o_i 16))])
 (.cond (.t 30)
 (.seq (.reg [p_s 32 (.fa 4 (.t 1)), p_s 33 (.ld none (.t 32)), p_c 34 3 45 [.t 33], p_m 31 34, p_s 35 (.ext (.t 31) 0), p_s 36 (.ext (.t 31) 1), p_m 7 35, p_m 8 36])
 (.reg [p_m 37 6, p_a 38 (.bsl 1 (.v (.int .u8 0)) [(.c (.r (.v (.int .u8 10))))]), p_a 39 (.app 1 (.v (.int .u8 0)) 1 (.t 37) (.t 38)), p_m 40 7, p_a 41 (.app 1 (.v (.int .u8 0)) 1 (.t 39) (.t 40)),
 p_m 6 41]))
 .skip))
 (.seq (.reg [p_m 43 6, p_c 44 4 11 [.t 43], p_m 42 44, p_s 45 (.ext (.t 42) 0), p_s 46 (.ext (.t 42) 1), p_a 9 (.new [(.r (.v (.int .i64 0))), (.nils 1 (.v (.int .i64 0))), (.nils 1 (.v (.int .u64 0))), (.nils 2 (.agg [(.v (.int .i64 0)), (.v (.int .i64 0))])), (.nils 5 (.agg [(.v (.int .i64 0)), (.v (.int .i64 0)), (.v (.int .i64 0)), (.v (.int .i64 0)), (.v (.int .i64 0))]))]),
 ⟨none, none, 0, .act (.st 5 (.t 9) (.t 45))⟩, p_m 10 46])
 (.seq (.seq (.reg [p_m 47 10, p_s 48 (.bin .neq (.t 47) (o_i 0)), p_m 49 48, p_g 50 49 false (.ld (some 5) (.t 1)), p_g 51 49 false (.ld (some 5) (.t 9)), ⟨(some 52), (some (49, false)), 5, .call 46 [(.t 50), (.t 51)]⟩,
 p_g 53 49 false (.un .not (.t 52)), p_s 54 (.pick (.t 49) (.c (.r (.v (.bool true)))) (.t 53))])
 (.cond (.t 54)
 (.seq (.reg [p_s 2 (.mov (.c (.nils 1 (.v (.int .u8 0))))), p_s 3 (.mov (.c (.r (.v (.bool false)))))])
 .ret)
 .skip))
 (.seq (.reg [p_m 55 6, p_m 2 55, p_s 3 (.mov (.c (.r (.v (.bool true)))))])
 .ret))))))))
theorem ask_Text_triple : Fun P0 19 1 [(2, false, none), (3, false, none)] ask_Text_pc := fun_mk Go.Proofs.Tryz.func19 rfl (by decide) (by kernel_rfl) (by decide) rfl (by kernel_rfl) (by kernel_rfl) (by decide)
def askC (a : AskD) : List AV := [int .i64 a.k, .r (.sl 1 (a.ns.map n8)), .r (.sl 1 (a.ws.map u8R)), .r (.sl 2 (a.rg.map ptR)), .r (.sl 5 (a.os.map opR))]
theorem text1_t (f : Form) (a : AskD) : Triple P0 43 [.r (formR f), .ptr 1000000 0 0] [.box (askC a)] (bl (f.1 == a.k)) [.box (askC a)] := by
 refine ask_Text_1_triple rfl (by simp [askC]) ?_
 have hfr : formR f = .agg [.v (.int .i64 f.1), .v (.string (bstr f.2.1)), .sl 2 (f.2.2.map fldR)] := rfl
 simp only [ask_Text_1_pc, hfr, askC, push_cast, ↓reduceIte, reduceCtorEq, zB, zE, zA, zS, zL, zD, zM]
def textA : Option Bs → AV
 | some b => .tup [sb b, bl true]
 | none => .tup [.nils 1 (.v (.int .u8 0)), bl false]
set_option maxHeartbeats 4000000 in
theorem atext_t (a : AskD) (ha : AskOk a) : Triple P0 19 [.r a.rv] [] (textA (textP a)) [] := by
 have hfind := find1_t 43 (askC a) rfl rfl (fun f => f.1 == a.k) fun f _ => text1_t f a
 obtain ⟨Q, hQ⟩ : ∃ Q, textP a = Q := ⟨_, rfl⟩
 rw [hQ]
 unfold textP at hQ
 have hrv : a.rv = .agg [.v (.int .i64 a.k), .sl 1 (a.ns.map n8), .sl 1 (a.ws.map u8R), .sl 2 (a.rg.map ptR), .sl 5 (a.os.map opR)] := rfl
 have hfn : isFn P0 43 = true := rfl
 have hmax := maxLen_big
 refine ask_Text_triple rfl (by decide) ?_
 simp only [ask_Text_pc, hrv, hfn, push_cast, ↓reduceIte, reduceCtorEq, zB, zE, zA, zS, zL, zD, zM]
 refine call_mk hfind rfl ⟨rfl, trivial⟩ ?_
 simp only [askC, hfn, push_cast, ↓reduceIte, reduceCtorEq, zB, zE, zA, zS, zL, zD, zM]
 cases hf : formsL.find? (fun g => g.1 == a.k) with
 | none =>
  rw [hf] at hQ
  subst hQ
  simp only [findV, hfn, push_cast, ↓reduceIte, reduceCtorEq, zB, zE, zA, zS, zL, zD, zM]
  rfl
 | some f =>
  rw [hf] at hQ
  have hm := zal hf
  have hfr : formR f = .agg [.v (.int .i64 f.1), .v (.string (bstr f.2.1)), .sl 2 (f.2.2.map fldR)] := rfl
  simp only [findV, hfr, hfn, push_cast, ↓reduceIte, reduceCtorEq, zB, zE, zA, zS, zL, zD, zM]
  refine cnd_mk (fun h200 => ?_) (fun h200 => ?_)
  ·have h200 : 200 < a.rg.length := by have := of_decide_eq_true h200; omega
   simp only [if_pos h200] at hQ
   subst hQ
   simp only [push_cast, ↓reduceIte, reduceCtorEq, zB, zE, zA, zS, zL, zD, zM]
   rfl
  ·have h200 : ¬ 200 < a.rg.length := by have := of_decide_eq_false h200; omega
   simp only [if_neg h200] at hQ
   obtain ⟨n1, n2, n3, n4, n5⟩ := form_nm f hm
   have hft := ftext_t f a ha (by omega) (by omega) (by omega)
   have hTl : (formT f a).length ≤ 90000 := by
    have e : formT f a = 47 :: f.2.1 ++ joinS true (partsT f a) := formT_eq f a
    have hps : ∀ p ∈ partsT f a, p.length ≤ 10000 := fun p hp => by
     unfold partsT at hp
     rcases zai.1 hp with hp | hp
     ·have := fldT_le _ _ _ ha.ns p hp; omega
     ·split at hp
      ·simp only [List.mem_singleton] at hp
       subst hp
       have h1 := join_le 44 21 _ (crnT_le a.rg ha.rg)
       have h2 := crnT_len a.rg
       simp only [zah, zak, List.length_nil]
       omega
      ·simp at hp
    have hpl : (partsT f a).length ≤ 6 := by
     unfold partsT
     rw [zah, fldT_len]
     split <;> simp <;> omega
    have h1 := join_le 38 10000 _ hps
    have h3 : (10000 + 1) * (partsT f a).length ≤ 10001 * 6 := Nat.mul_le_mul_left _ hpl
    rw [e, joinS_true, zah, zak]
    split
    ·simp; omega
    ·simp only [zak]; omega
   have hol := ha.ol
   have hbt := batch_t a.os (by omega)
   have hrv' : AskD.rv a = .agg [.v (.int .i64 a.k), .sl 1 (a.ns.map n8), .sl 1 (a.ws.map u8R), .sl 2 (a.rg.map ptR), .sl 5 (a.os.map opR)] := rfl
   have hPd : progB f a = formT f a ++ if f.1 = 16 then 10 :: (if batchE a.os = 0 then opsBs a.os else []) else [] := rfl
   obtain ⟨T, hT⟩ : ∃ T, formT f a = T := ⟨_, rfl⟩
   rw [hT] at hft hTl hPd
   rw [hfr, hrv'] at hft
   simp only [push_cast, ↓reduceIte, reduceCtorEq, zB, zE, zA, zS, zL, zD, zM]
   refine call_as (as' := [.r (formR f), .r a.rv]) rfl ?_
   rw [hfr, hrv']
   refine call_mk hft rfl trivial ?_
   have hby : (bstr T).data.toList.map (fun b => RV.v (.int .u8 b.toNat)) = bys T := by rw [bstr_data]; rfl
   simp only [hby, bstr_size, push_cast, ↓reduceIte, reduceCtorEq, zB, zE, zA, zS, zL, zD, zM]
   refine ⟨by omega, ?_⟩
   refine cnd_mk (fun h16 => ?_) (fun h16 => ?_)
   ·have h16 : f.1 = 16 := by simpa using h16
    rw [if_pos h16] at hPd
    rw [hPd] at hQ
    have htk : (bys T).take T.length = bys T := zaa (by simp)
    have hos := opsBs_len a.os
    have hbl : batchE a.os = 0 → (opsBs a.os).length ≤ 9000 := fun h => by
     unfold batchE at h
     split at h
     ·cases h
     ·omega
    simp only [push_cast, ↓reduceIte, reduceCtorEq, zB, zE, zA, zS, zL, zD, zM]
    refine call_as (as' := [.r (.sl 5 (a.os.map opR))]) rfl ?_
    by_cases hb0 : batchE a.os = 0
    ·have hbl := hbl hb0
     simp only [batchV, batchO, if_pos hb0] at hbt
     rw [if_pos hb0] at hQ
     refine call_mk hbt rfl trivial ?_
     obtain ⟨O, hO⟩ : ∃ O, opsBs a.os = O := ⟨_, rfl⟩
     rw [hO] at hbl hQ
     have hrO : rowB (opsBs a.os) = .row 1 (.v (.int .u8 0)) true true (bys O) := by rw [hO]
     have b10 : bys T ++ [.v (.int .u8 10)] = bys (T ++ [10]) := by simp [bys, by8]
     have hOt : (bys O).take O.length = bys O := zaa (by simp)
     have bO : bys (T ++ [10]) ++ bys O = bys (T ++ 10 :: O) := by simp [bys]
     have t10 : (bys (T ++ [10])).take (T.length + 1) = bys (T ++ [10]) := zaa (by simp)
     have sd : ∀ j : Nat, ¬ j ∈ ([] : List Nat) := fun _ => by simp
     obtain ⟨B, hB⟩ : ∃ B, T ++ 10 :: O = B := ⟨_, rfl⟩
     have hBl : B.length = T.length + 1 + O.length := by rw [← hB]; simp; omega
     rw [hB] at hQ bO
     simp only [hO, htk, b10, hOt, bO, t10, sd, push_cast, ↓reduceIte, reduceCtorEq, zB, zE, zA, zS, zL, zD, zM]
     have hBt : (bys B).take (T.length + 1 + O.length) = bys B := zaa (by simp; omega)
     refine ⟨⟨by omega, by omega⟩, ⟨by omega, by omega⟩, ?_⟩
     refine callA_give ?_
     simp only [hBt, push_cast, ↓reduceIte, reduceCtorEq, zB, zE, zA, zS, zL, zD, zM]
     refine call_mk (parse_any (B) (by omega)) rfl trivial ?_
     obtain ⟨⟨x, E⟩, hAE⟩ : ∃ x, parseD (B) = x := ⟨_, rfl⟩
     rw [hAE] at hQ ⊢
     have hrx : x.rv = .agg [.v (.int .i64 x.k), .sl 1 (x.ns.map n8), .sl 1 (x.ws.map u8R), .sl 2 (x.rg.map ptR), .sl 5 (x.os.map opR)] := rfl
     have hsm := same_t a x (by have := ha.nl; omega) (by have := ha.wl; omega) (by have := ha.rl; omega) (by omega)
     rw [hrv', hrx] at hsm
     by_cases hE : E = 0
     ·subst hE
      have e00 : ((0 : Int) != 0) = false := rfl
      simp only [hrx, e00, push_cast, ↓reduceIte, reduceCtorEq, zB, zE, zA, zS, zL, zD, zM]
      refine call_as (as' := [.r a.rv, .r x.rv]) rfl ?_
      rw [hrv', hrx]
      refine call_mk hsm rfl trivial ?_
      by_cases hx : a = x
      ·subst hx
       simp only [true_and, if_true] at hQ
       subst hQ
       simp only [hBt, push_cast, ↓reduceIte, reduceCtorEq, zB, zE, zA, zS, zL, zD, zM]
       rfl
      ·rw [decide_eq_false hx]
       simp only [true_and, if_neg hx] at hQ
       subst hQ
       simp only [push_cast, ↓reduceIte, reduceCtorEq, zB, zE, zA, zS, zL, zD, zM]
       rfl
     ·have hE' : (E != 0) = true := by simp [hE]
      simp only [hE, false_and, if_false] at hQ
      subst hQ
      simp only [hrx, hE', push_cast, ↓reduceIte, reduceCtorEq, zB, zE, zA, zS, zL, zD, zM]
      rfl
    ·simp only [batchV, batchO, if_neg hb0] at hbt
     rw [if_neg hb0] at hQ
     refine call_mk hbt rfl trivial ?_
     have b10 : bys T ++ [.v (.int .u8 10)] = bys (T ++ [10]) := by simp [bys, by8]
     have t10 : (bys (T ++ [10])).take (T.length + 1) = bys (T ++ [10]) := zaa (by simp)
     have sd : ∀ j : Nat, ¬ j ∈ ([] : List Nat) := fun _ => by simp
     have hBl : (T ++ [10]).length = T.length + 1 := by simp
     simp only [htk, b10, t10, sd, Nat.add_zero, push_cast, ↓reduceIte, reduceCtorEq, zB, zE, zA, zS, zL, zD, zM]
     refine ⟨⟨by omega, by omega⟩, ⟨by omega, by omega⟩, ?_⟩
     refine callA_give ?_
     simp only [t10, Nat.add_zero, push_cast, ↓reduceIte, reduceCtorEq, zB, zE, zA, zS, zL, zD, zM]
     refine call_mk (parse_any (T ++ [10]) (by omega)) rfl trivial ?_
     obtain ⟨⟨x, E⟩, hAE⟩ : ∃ x, parseD (T ++ [10]) = x := ⟨_, rfl⟩
     rw [hAE] at hQ ⊢
     have hrx : x.rv = .agg [.v (.int .i64 x.k), .sl 1 (x.ns.map n8), .sl 1 (x.ws.map u8R), .sl 2 (x.rg.map ptR), .sl 5 (x.os.map opR)] := rfl
     have hsm := same_t a x (by have := ha.nl; omega) (by have := ha.wl; omega) (by have := ha.rl; omega) (by omega)
     rw [hrv', hrx] at hsm
     by_cases hE : E = 0
     ·subst hE
      have e00 : ((0 : Int) != 0) = false := rfl
      simp only [hrx, e00, push_cast, ↓reduceIte, reduceCtorEq, zB, zE, zA, zS, zL, zD, zM]
      refine call_as (as' := [.r a.rv, .r x.rv]) rfl ?_
      rw [hrv', hrx]
      refine call_mk hsm rfl trivial ?_
      by_cases hx : a = x
      ·subst hx
       simp only [true_and, if_true] at hQ
       subst hQ
       simp only [t10, Nat.add_zero, push_cast, ↓reduceIte, reduceCtorEq, zB, zE, zA, zS, zL, zD, zM]
       rfl
      ·rw [decide_eq_false hx]
       simp only [true_and, if_neg hx] at hQ
       subst hQ
       simp only [push_cast, ↓reduceIte, reduceCtorEq, zB, zE, zA, zS, zL, zD, zM]
       rfl
     ·have hE' : (E != 0) = true := by simp [hE]
      simp only [hE, false_and, if_false] at hQ
      subst hQ
      simp only [hrx, hE', push_cast, ↓reduceIte, reduceCtorEq, zB, zE, zA, zS, zL, zD, zM]
      rfl
   ·have h16 : f.1 ≠ 16 := by simpa using h16
    rw [if_neg h16, zaf] at hPd
    rw [hPd] at hQ
    have htk : (bys T).take T.length = bys T := zaa (by simp)
    simp only [htk, push_cast, ↓reduceIte, reduceCtorEq, zB, zE, zA, zS, zL, zD, zM]
    refine callA_give ?_
    simp only [htk, push_cast, ↓reduceIte, reduceCtorEq, zB, zE, zA, zS, zL, zD, zM]
    refine call_mk (parse_any T (by omega)) rfl trivial ?_
    obtain ⟨⟨x, E⟩, hAE⟩ : ∃ x, parseD T = x := ⟨_, rfl⟩
    rw [hAE] at hQ ⊢
    have hrx : x.rv = .agg [.v (.int .i64 x.k), .sl 1 (x.ns.map n8), .sl 1 (x.ws.map u8R), .sl 2 (x.rg.map ptR), .sl 5 (x.os.map opR)] := rfl
    have hsm := same_t a x (by have := ha.nl; omega) (by have := ha.wl; omega) (by have := ha.rl; omega) (by omega)
    rw [hrv', hrx] at hsm
    by_cases hE : E = 0
    ·subst hE
     have e00 : ((0 : Int) != 0) = false := rfl
     simp only [hrx, e00, push_cast, ↓reduceIte, reduceCtorEq, zB, zE, zA, zS, zL, zD, zM]
     refine call_as (as' := [.r a.rv, .r x.rv]) rfl ?_
     rw [hrv', hrx]
     refine call_mk hsm rfl trivial ?_
     by_cases hx : a = x
     ·subst hx
      simp only [true_and, if_true] at hQ
      subst hQ
      simp only [push_cast, ↓reduceIte, reduceCtorEq, zB, zE, zA, zS, zL, zD, zM]
      rfl
     ·rw [decide_eq_false hx]
      simp only [true_and, if_neg hx] at hQ
      subst hQ
      simp only [push_cast, ↓reduceIte, reduceCtorEq, zB, zE, zA, zS, zL, zD, zM]
      rfl
    ·have hE' : (E != 0) = true := by simp [hE]
     simp only [hE, false_and, if_false] at hQ
     subst hQ
     simp only [hrx, hE', push_cast, ↓reduceIte, reduceCtorEq, zB, zE, zA, zS, zL, zD, zM]
     rfl

noncomputable def apiarylaw25_AskTexts_pc : PC :=
  (.seq (.reg [p_a 4 (.box (.t 0)), p_s 8 (.mov (.c (.r (.v (.bool false)))))])
 (.seq (.seq (.reg [p_s 17 (.fa 1 (.t 4)), p_s 18 (.ld none (.t 17)), p_s 19 (.len false (.t 18)), p_s 20 (.bin .gtr (.t 19) (o_i 30)), p_m 21 20, p_g 22 21 false (.fa 2 (.t 4)), p_g 23 21 false (.ld none (.t 22)),
 p_g 24 21 false (.len false (.t 23)), p_g 25 21 false (.bin .gtr (.t 24) (o_i 30)), p_s 26 (.pick (.t 21) (.c (.r (.v (.bool true)))) (.t 25)), p_m 27 26, p_g 28 27 false (.fa 3 (.t 4)),
 p_g 29 27 false (.ld none (.t 28)), p_g 30 27 false (.len false (.t 29)), p_g 31 27 false (.bin .gtr (.t 30) (o_i 200)), p_s 32 (.pick (.t 27) (.c (.r (.v (.bool true)))) (.t 31)),
 p_m 33 32, p_g 34 33 false (.fa 4 (.t 4)), p_g 35 33 false (.ld none (.t 34)), p_g 36 33 false (.len false (.t 35)), p_g 37 33 false (.bin .gtr (.t 36) (o_i 60)),
 p_s 38 (.pick (.t 33) (.c (.r (.v (.bool true)))) (.t 37)), p_m 39 38, p_g 40 39 false (.mov (.t 2)), p_g 41 39 false (.len false (.t 40)), p_g 42 39 false (.bin .gtr (.t 41) (o_i 40)),
 p_s 43 (.pick (.t 39) (.c (.r (.v (.bool true)))) (.t 42)), p_m 44 43, p_g 45 44 false (.mov (.t 3)), p_g 46 44 false (.len false (.t 45)), p_g 47 44 false (.bin .gtr (.t 46) (o_i 100)),
 p_s 48 (.pick (.t 44) (.c (.r (.v (.bool true)))) (.t 47))])
 (.cond (.t 48)
 (.seq (.reg [p_c 49 1 9 [], p_m 8 49])
 .ret)
 .skip))
 (.seq (.reg [p_s 50 (.ld (some 5) (.t 4)), p_a 9 (.new [(.r (.v (.int .i64 0))), (.nils 1 (.v (.int .i64 0))), (.nils 1 (.v (.int .u64 0))), (.nils 2 (.agg [(.v (.int .i64 0)), (.v (.int .i64 0))])), (.nils 5 (.agg [(.v (.int .i64 0)), (.v (.int .i64 0)), (.v (.int .i64 0)), (.v (.int .i64 0)), (.v (.int .i64 0))]))]),
 ⟨none, none, 0, .act (.st 5 (.t 9) (.t 50))⟩])
 (.seq (.seq (.reg [p_s 10 (.mov (o_i 0))])
 (.block 0 (.loop (.seq (.seq (.reg [p_m 51 10, p_s 52 (.bin .lss (.t 51) (o_i 2))])
 (.cond (.t 52)
 .skip
 (.exit 0)))
 (.seq (.block 1 (.seq (.reg [p_s 56 (.ld (some 5) (.t 9)), p_c 57 2 19 [.t 56], p_m 55 57, p_s 58 (.ext (.t 55) 0), p_s 59 (.ext (.t 55) 1), p_m 11 58, p_m 12 59])
 (.seq (.reg [p_s 61 (.ld (some 5) (.t 9)), p_c 62 3 15 [.t 61], p_m 60 62, p_s 63 (.ext (.t 60) 0), p_s 64 (.ext (.t 60) 1), p_m 13 63, p_m 14 64])
 (.seq (.seq (.reg [p_m 65 12, p_m 66 14, p_s 67 (.beq true (.t 65) (.t 66)), p_m 68 67, p_g 69 68 false (.mov (.t 11)), p_g 70 68 false (.toStr (.t 69)), p_g 71 68 false (.mov (.t 13)),
 p_g 72 68 false (.bin .neq (.t 70) (.t 71)), p_s 73 (.pick (.t 68) (.c (.r (.v (.bool true)))) (.t 72))])
 (.cond (.t 73)
 (.seq (.reg [p_s 8 (.mov (.c (.r (.v (.bool false)))))])
 .ret)
 .skip))
 (.seq (.seq (.reg [p_m 74 14])
 (.cond (.t 74)
 (.seq (.reg [p_m 76 11, p_c 77 4 11 [.t 76], p_m 75 77, p_s 78 (.ext (.t 75) 0), p_s 79 (.ext (.t 75) 1), p_a 15 (.new [(.r (.v (.int .i64 0))), (.nils 1 (.v (.int .i64 0))), (.nils 1 (.v (.int .u64 0))), (.nils 2 (.agg [(.v (.int .i64 0)), (.v (.int .i64 0))])), (.nils 5 (.agg [(.v (.int .i64 0)), (.v (.int .i64 0)), (.v (.int .i64 0)), (.v (.int .i64 0)), (.v (.int .i64 0))]))]),
 ⟨none, none, 0, .act (.st 5 (.t 15) (.t 78))⟩, p_m 16 79])
 (.seq (.reg [p_m 80 16, p_s 81 (.bin .neq (.t 80) (o_i 0)), p_m 82 81, p_g 83 82 false (.ld (some 5) (.t 15)), p_g 84 82 false (.ld (some 5) (.t 9)), ⟨(some 85), (some (82, false)), 5, .call 18 [(.t 83), (.t 84)]⟩,
 p_g 86 82 false (.un .not (.t 85)), p_s 87 (.pick (.t 82) (.c (.r (.v (.bool true)))) (.t 86))])
 (.cond (.t 87)
 (.seq (.reg [p_s 8 (.mov (.c (.r (.v (.bool false)))))])
 .ret)
 .skip)))
 .skip))
 (.reg [p_m 88 1, p_m 89 2, p_m 90 3, p_c 91 6 16 [.t 88, .t 89, .t 90], ⟨none, none, 0, .act (.st 5 (.t 9) (.t 91))⟩]))))))
 (.reg [p_m 53 10, p_s 54 (.bin .add (.t 53) (o_i 1)), p_m 10 54]))))))
 (.seq (.reg [p_m 92 1, p_c 93 7 10 [.t 92], p_m 94 1, p_c 95 8 20 [.t 94], p_s 96 (.bin .eql (.t 93) (.t 95)), p_m 97 96, ⟨(some 98), (some (97, true)), 9, .call 9 []⟩, p_s 99 (.pick (.t 97) (.t 98) (.c (.r (.v (.bool false))))),
 p_m 8 99])
 .ret)))))
theorem apiarylaw25_AskTexts_triple : Fun P0 8 4 [(8, false, none)] apiarylaw25_AskTexts_pc := fun_mk Go.Proofs.Tryz.func8 rfl (by decide) (by kernel_rfl) (by decide) rfl (by kernel_rfl) (by kernel_rfl) (by decide)
theorem name_eq (k : Int) : nameL k = nmS k := by
 unfold nameL
 cases hf : formsL.find? (fun f => f.1 == k) with
 | none => exact (form_none k hf).symm
 | some f =>
  have hk : f.1 = k := by have := List.find?_some hf; simpa using this
  rw [← hk]
  exact (form_nm f (zal hf)).1.symm
structure AskIn (a : AskD) : Prop where
 k : in64 a.k
 ns : ∀ n ∈ a.ns, in64 n
 ws : ∀ w ∈ a.ws, w < 18446744073709551616
 rg : ∀ p ∈ a.rg, in64 p.1 ∧ in64 p.2
set_option maxHeartbeats 8000000 in
theorem texts_law (raw : AskD) (kind : Int) (l : List Int) (os : List Op5) (hraw : AskIn raw) (hk : in64 kind) (hl : ∀ n ∈ l, in64 n) :
  Triple P0 8 [.r raw.rv, int .i64 kind, .r (.sl 1 (l.map n8)), .r (.sl 5 (os.map opR))] [] (bl true) [] := by
 have hrv : raw.rv = .agg [.v (.int .i64 raw.k), .sl 1 (raw.ns.map n8), .sl 1 (raw.ws.map u8R), .sl 2 (raw.rg.map ptR), .sl 5 (raw.os.map opR)] := rfl
 refine apiarylaw25_AskTexts_triple rfl (by decide) ?_
 rw [hrv]
 have gd : ∀ (m k : Nat), decide (((m : Nat) : Int) > (k : Int)) = decide (m > k) := fun m k => by rw [Bool.eq_iff_iff, decide_eq_true_eq, decide_eq_true_eq]; omega
 have g0 : decide (((raw.ns.length : Nat) : Int) > 30) = decide (raw.ns.length > 30) := gd _ 30
 have g1 : decide (((raw.ws.length : Nat) : Int) > 30) = decide (raw.ws.length > 30) := gd _ 30
 have g2 : decide (((raw.rg.length : Nat) : Int) > 200) = decide (raw.rg.length > 200) := gd _ 200
 have g3 : decide (((raw.os.length : Nat) : Int) > 60) = decide (raw.os.length > 60) := gd _ 60
 have g4 : decide (((l.length : Nat) : Int) > 40) = decide (l.length > 40) := gd _ 40
 have g5 : decide (((os.length : Nat) : Int) > 100) = decide (os.length > 100) := gd _ 100
 by_cases h0 : raw.ns.length > 30
 ·rw [decide_eq_true h0] at g0
  simp only [apiarylaw25_AskTexts_pc, g0, push_cast, ↓reduceIte, reduceCtorEq, zB, zE, zA, zS, zL, zD, zM]
  refine call_mk askawake_t rfl trivial ?_
  simp only [push_cast, ↓reduceIte, reduceCtorEq, zB, zE, zA, zS, zL, zD, zM]
 ·rw [decide_eq_false h0] at g0
  by_cases h1 : raw.ws.length > 30
  ·rw [decide_eq_true h1] at g1
   simp only [apiarylaw25_AskTexts_pc, g0, g1, push_cast, ↓reduceIte, reduceCtorEq, zB, zE, zA, zS, zL, zD, zM]
   refine call_mk askawake_t rfl trivial ?_
   simp only [push_cast, ↓reduceIte, reduceCtorEq, zB, zE, zA, zS, zL, zD, zM]
  ·rw [decide_eq_false h1] at g1
   by_cases h2 : raw.rg.length > 200
   ·rw [decide_eq_true h2] at g2
    simp only [apiarylaw25_AskTexts_pc, g0, g1, g2, push_cast, ↓reduceIte, reduceCtorEq, zB, zE, zA, zS, zL, zD, zM]
    refine call_mk askawake_t rfl trivial ?_
    simp only [push_cast, ↓reduceIte, reduceCtorEq, zB, zE, zA, zS, zL, zD, zM]
   ·rw [decide_eq_false h2] at g2
    by_cases h3 : raw.os.length > 60
    ·rw [decide_eq_true h3] at g3
     simp only [apiarylaw25_AskTexts_pc, g0, g1, g2, g3, push_cast, ↓reduceIte, reduceCtorEq, zB, zE, zA, zS, zL, zD, zM]
     refine call_mk askawake_t rfl trivial ?_
     simp only [push_cast, ↓reduceIte, reduceCtorEq, zB, zE, zA, zS, zL, zD, zM]
    ·rw [decide_eq_false h3] at g3
     by_cases h4 : l.length > 40
     ·rw [decide_eq_true h4] at g4
      simp only [apiarylaw25_AskTexts_pc, g0, g1, g2, g3, g4, push_cast, ↓reduceIte, reduceCtorEq, zB, zE, zA, zS, zL, zD, zM]
      refine call_mk askawake_t rfl trivial ?_
      simp only [push_cast, ↓reduceIte, reduceCtorEq, zB, zE, zA, zS, zL, zD, zM]
     ·rw [decide_eq_false h4] at g4
      by_cases h5 : os.length > 100
      ·rw [decide_eq_true h5] at g5
       simp only [apiarylaw25_AskTexts_pc, g0, g1, g2, g3, g4, g5, push_cast, ↓reduceIte, reduceCtorEq, zB, zE, zA, zS, zL, zD, zM]
       refine call_mk askawake_t rfl trivial ?_
       simp only [push_cast, ↓reduceIte, reduceCtorEq, zB, zE, zA, zS, zL, zD, zM]
      ·rw [decide_eq_false h5] at g5
       obtain ⟨hok, htx, hne, hle⟩ := made_ok kind l os hl
       have hmk := make_w kind l os hk hl (by omega) (by omega)
       obtain ⟨M, hM⟩ : ∃ M, makeD kind l os = M := ⟨_, rfl⟩
       rw [hM] at hok hmk
       have hrawk : AskOk raw := ⟨hraw.k, hraw.ns, hraw.ws, hraw.rg, by omega, by omega, by omega, by omega⟩
       clear htx hne hle hM
       simp only [apiarylaw25_AskTexts_pc, g0, g1, g2, g3, g4, g5, push_cast, ↓reduceIte, reduceCtorEq, zB, zE, zA, zS, zL, zD, zM]
       refine run_loop [(1, false), (2, false), (3, false), (9, false), (10, false)] (fun vs pos los => ∃ (i : Nat) (a : AskD), i ≤ 2 ∧ AskOk a ∧ vs = [int .i64 kind, .r (.sl 1 (l.map n8)), .r (.sl 5 (os.map opR)), .ptr 2000000 0 0, int .i64 i] ∧ pos = [] ∧ los = [.box (askC a)])
        (fun vs _ _ => match vs with | [_, _, _, _, .r (.v (.int _ j))] => (2 - j).toNat | _ => 0) rfl ?_ ?_
       ·simp only [push_cast, ↓reduceIte, reduceCtorEq, zB, zE, zA, zS, zL, zD, zM]
        exact ⟨0, raw, by omega, hrawk, rfl, rfl⟩
       ·rintro vs pos los ⟨i, a, i2, ha, rfl, rfl, rfl⟩
        have hMv : M.rv = .agg [.v (.int .i64 M.k), .sl 1 (M.ns.map n8), .sl 1 (M.ws.map u8R), .sl 2 (M.rg.map ptR), .sl 5 (M.os.map opR)] := rfl
        have hav : a.rv = .agg [.v (.int .i64 a.k), .sl 1 (a.ns.map n8), .sl 1 (a.ws.map u8R), .sl 2 (a.rg.map ptR), .sl 5 (a.os.map opR)] := rfl
        simp only [askC, push_cast, ↓reduceIte, reduceCtorEq, zB, zE, zA, zS, zL, zD, zM]
        refine cnd_mk (fun hi => ?_) (fun hi => ?_)
        ·have hi : i < 2 := by have := of_decide_eq_true hi; omega
         have wi : IntKind.i64.wrap ((i : Int) + 1) = (i : Int) + 1 := wrap_id (by omega)
         have hat := atext_t a ha
         have hrt := rtxt_t a ha
         have hlaw := text_law a ha
         have hnl := ha.nl
         have hwl := ha.wl
         have hrl := ha.rl
         have hol := ha.ol
         cases hP : textP a with
         | some b =>
          rw [hP] at hat hlaw
          obtain ⟨h1, h2⟩ := hlaw
          rw [h1] at hrt
          have hbl := (parse_good b a h2).1
          have hpa := parse_any b (by omega)
          rw [h2] at hpa
          simp only at hpa
          have hsa := sameask_t a.k a.ns a.ws a.rg a.os a.k a.ns a.ws a.rg a.os (by omega) (by omega) (by omega) (by omega)
          rw [sameB_refl] at hsa
          have e00 : ((0 : Int) != 0) = false := rfl
          have etb : ((bstr b).toList == (bstr b).toList) = true := by simp
          have ett : ((true == true) : Bool) = true := rfl
          simp only [push_cast, ↓reduceIte, reduceCtorEq, zB, zE, zA, zS, zL, zD, zM]
          refine call_as (as' := [.r a.rv]) rfl ?_
          refine call_mk hat rfl trivial ?_
          simp only [textA, push_cast, ↓reduceIte, reduceCtorEq, zB, zE, zA, zS, zL, zD, zM]
          refine call_as (as' := [.r a.rv]) rfl ?_
          refine call_mk hrt rfl trivial ?_
          simp only [bys_isByte, bstr_of_bys, etb, ett, push_cast, ↓reduceIte, reduceCtorEq, zB, zE, zA, zS, zL, zD, zM]
          refine call_mk hpa rfl trivial ?_
          simp only [hav, e00, push_cast, ↓reduceIte, reduceCtorEq, zB, zE, zA, zS, zL, zD, zM]
          refine call_as (as' := [.r a.rv, .r a.rv]) rfl ?_
          refine call_mk hsa rfl trivial ?_
          simp only [push_cast, ↓reduceIte, reduceCtorEq, zB, zE, zA, zS, zL, zD, zM]
          refine call_mk hmk rfl trivial ?_
          simp only [hMv, wi, push_cast, ↓reduceIte, reduceCtorEq, zB, zE, zA, zS, zL, zD, zM]
          exact ⟨⟨i + 1, M, by omega, hok, by simp, rfl⟩, by omega⟩
         | none =>
          rw [hP] at hat hlaw
          simp only at hlaw
          rw [hlaw] at hrt
          simp only [push_cast, ↓reduceIte, reduceCtorEq, zB, zE, zA, zS, zL, zD, zM]
          refine call_as (as' := [.r a.rv]) rfl ?_
          refine call_mk hat rfl trivial ?_
          simp only [textA, push_cast, ↓reduceIte, reduceCtorEq, zB, zE, zA, zS, zL, zD, zM]
          refine call_as (as' := [.r a.rv]) rfl ?_
          refine call_mk hrt rfl trivial ?_
          simp only [push_cast, ↓reduceIte, reduceCtorEq, zB, zE, zA, zS, zL, zD, zM]
          have ee : (({ data := #[] } : ByteArray).toList == (bstr []).toList) = true := by rw [show ({ data := #[] } : ByteArray) = bstr [] from rfl]; simp
          simp only [ee, push_cast, ↓reduceIte, reduceCtorEq, zB, zE, zA, zS, zL, zD, zM]
          refine call_mk hmk rfl trivial ?_
          simp only [hMv, wi, push_cast, ↓reduceIte, reduceCtorEq, zB, zE, zA, zS, zL, zD, zM]
          exact ⟨⟨i + 1, M, by omega, hok, by simp, rfl⟩, by omega⟩
        ·have hi : i = 2 := by have := of_decide_eq_false hi; omega
         simp only [push_cast, ↓reduceIte, reduceCtorEq, zB, zE, zA, zS, zL, zD, zM]
         refine call_mk (askname_t kind) rfl trivial ?_
         simp only [push_cast, ↓reduceIte, reduceCtorEq, zB, zE, zA, zS, zL, zD, zM]
         refine call_mk (rname_t kind hk) rfl trivial ?_
         have hb : ((bstr (nameL kind)).toList == (bstr (nmS kind)).toList) = true := by rw [name_eq]; simp
         simp only [hb, push_cast, ↓reduceIte, reduceCtorEq, zB, zE, zA, zS, zL, zD, zM]
         refine call_mk askawake_t rfl trivial ?_
         simp only [push_cast, ↓reduceIte, reduceCtorEq, zB, zE, zA, zS, zL, zD, zM]

end Go.Ev

import Derived.WalkKit
import Derived.WalkSpells
import Derived.Lib.DecodeNEq
import Derived.Laws.BitsLemmas
import Derived.Test.YtfdjfbodgiodbaaGreatDoorM11
open Nat renaming reduceBEq → zB, reduceEqDiff → zE, reduceAdd → zA, reduceSub → zS, reduceLT → zL, reduceLeDiff → zD, reduceMul → zM
open Go.Proofs.Tryz renaming prog → P0
open Int renaming toNat_natCast → zaa, toNat_natCast_add_one → zab, toNat → zae, natCast_add → zai, natCast_mul → zaj, natCast_emod → zak
open Nat renaming zero_add → zac, le_refl → zaf, le_antisymm → zao
open UInt8 renaming ofNat → zad, toNat_lt → zan
open Bool renaming false_and → zag, eq_iff_iff → zaq
open List renaming getD_eq_getElem?_getD → zah, take → zal, drop_of_length_le → zam, take_of_length_le → zap, set_cons_zero → zar, set_cons_succ → zas, length_pos_iff → zat, drop_eq_getElem_cons → zau, length_eq_zero_iff → zav, take_succ_eq_append_getElem → zaw
namespace Go.Ev
set_option maxRecDepth 100000
open Go Go.RowKit
set_option linter.unusedSectionVars false
set_option linter.unnecessarySimpa false
set_option linter.unusedSimpArgs false
set_option linter.unusedVariables false
theorem triple_of_bytes {P : Program} {f : FuncId} {l : Bs} {r : AV} (h : ∀ w ad cap, Gl P w (fun _ => False) → l.length ≤ cap → (∀ (i : Nat) (x : UInt8), l[i]? = some x → w.cell? ⟨ad.block, ad.off + i, none⟩ = some (.int .u8 x.toNat)) →
  ad.spot = none → Calls P f #[.slice (some ad) l.length cap] w fun e w' => ∃ c, e = .returned c ∧ Below w.heap.size w w' ∧ ∀ R ob ρ, RelA w' R ob ρ r c) (hl : l ≠ []) : Triple P f [sb l] [] r [] := by
 intro w cargs ρ B hgl hB hM hs hargs
 have hgl := hgl.keep (I' := fun _ => False) (w' := w) fun g _ _ => ⟨rfl, id⟩
 have hs1 : cargs.size = 1 := hs
 obtain ⟨c0, hc0⟩ : ∃ c0, cargs = #[c0] := ⟨cargs[0]'(by omega), by
  apply Array.ext (by simp [hs1])
  intro i h1 h2
  have : i = 0 := by omega
  subst this
  rfl⟩
 subst hc0
 have h0 := hargs 0 (sb l) c0 rfl rfl
 cases h0 with
 | r h0 =>
  cases h0 with
  | sl sz xs A cap hc hm b o g hA hz hg hr =>
   obtain ⟨rfl, _⟩ := hA (by simp; exact zat.2 hl)
   have hb : (bys l).length = l.length := by simp
   rw [hb] at hc
   rw [hb]
   refine (h w ⟨b, o, none⟩ cap hgl hc (fun i x hi => ?_) rfl).mono ?_
   ·have hi2 : (bys l)[i]? = some (by8 x) := by simp [hi]
    obtain ⟨k1, k2⟩ := hg i (by8 x) 0 (by8 x) hi2 rfl
    have k3 := hr i (by8 x) 0 (by8 x) hi2 rfl
    rw [Nat.mul_one, Nat.add_zero] at k1
    generalize g i 0 = q at k1 k3
    cases k3
    exact k1
   ·rintro e w' ⟨c, rfl, hb, hr⟩
    refine ⟨c, ρ, rfl, ⟨fun id v o h => by simp [obs] at h, fun id id' x x' b h => by simp [obs] at h, ⟨hb.os, hb.tape, hb.output, hb.size, fun b hlt _ => hb.block b hlt⟩, fun id v o b h => by simp [obs] at h, fun id b hp => ?_⟩, hr _ _ _⟩
    simp [pinOf, obs] at hp
theorem ualloc_cell {W : World} {a : Addr} {v : Value} (o : Obj) (h : W.cell? a = some v) : (W.alloc o).cell? a = some v := by
 have hlt : a.block < W.heap.size := by
  rcases Nat.lt_or_ge a.block W.heap.size with h' | h'
  ·exact h'
  ·simp [World.cell?, Array.getElem?_eq_none h'] at h
 rw [← h]
 simp only [World.cell?, World.alloc, Array.getElem?_push, Nat.ne_of_lt hlt, if_false]
theorem umask241 : wrap32 517543559168 / 2147483648 = -1 := by unfold wrap32; omega
theorem udrop_byte : ∀ x : Fin 256, bits .or .i32 (bits .andNot .i32 ((x.val : Nat) : Int) (-1)) (bits .and .i32 65533 (-1)) = 65533 := by decide
def decB (n b0 b1 b2 b3 : Nat) : Nat × Nat := if 240 ≤ Lib.firstT b0 then (65533, 1) else Lib.slowN n b0 b1 b2 b3 (Lib.firstT b0 % 8) (Lib.accLo (Lib.firstT b0 / 16)) (Lib.accHi (Lib.firstT b0 / 16))
theorem glob_fst : (P0).globalNamed "unicode/utf8.first" = some 0 := by kernel_rfl
theorem glob_acc : (P0).globalNamed "unicode/utf8.acceptRanges" = some 1 := by kernel_rfl
set_option maxHeartbeats 4000000 in
set_option maxRecDepth 1000000 in
theorem slow_calls (w : World) (ad : Addr) (n cap b0 b1 b2 b3 : Nat) (hn : 1 ≤ n) (h0 : w.cell? ad = some (.int .u8 b0)) (h1 : 1 < n → w.cell? ⟨ad.block, ad.off + 1, none⟩ = some (.int .u8 b1)) (h2 : 2 < n → w.cell? ⟨ad.block, ad.off + 2, none⟩ = some (.int .u8 b2))
  (h3 : 3 < n → w.cell? ⟨ad.block, ad.off + 3, none⟩ = some (.int .u8 b3)) (l0 : b0 < 256) (l1 : b1 < 256) (l2 : b2 < 256) (l3 : b3 < 256) (h128 : 128 ≤ b0)
  (hT : Lib.Utf8Tabs 0 1 w) :
  Calls P0 105 #[.slice (some ad) n cap] w fun e w' => e = .returned (.tuple #[.int .i32 (decB n b0 b1 b2 b3).1, .int .i64 (decB n b0 b1 b2 b3).2]) ∧ Below w.heap.size w w' := by
 have hz0 : (0 : Int) < (n : Int) := by omega
 have hz0' : ¬ ((n : Int) < 1) := by omega
 have hc0 := hT.1 b0 l0
 rcases Lib.firstT_cases b0 with hX | hX | hX | hX | hX | hX | hX | hX | hX
 ·exfalso
  unfold Lib.firstT at hX
  repeat' split at hX
  all_goals omega
 ·have hd : decB n b0 b1 b2 b3 = (65533, 1) := by unfold decB; rw [hX]; rfl
  rw [hd]
  rw [hX] at hc0
  clear hT hX hd
  go_enter Go.Proofs.Tryz.func105, Go.Proofs.Tryz.ntmps105
  go_wp2_with fail
  rw [umask241, udrop_byte ⟨b0, l0⟩]
  go_ret2
  exact ⟨rfl, Below.refl _ _⟩
 ·have hd : decB n b0 b1 b2 b3 = Lib.slowN n b0 b1 b2 b3 2 128 191 := by unfold decB; rw [hX]; rfl
  have ha0 : w.cell? ⟨1, 0, none⟩ = some (.int .u8 128) := (hT.2 0 (by omega)).1
  have ha1 : w.cell? ⟨1, 1, none⟩ = some (.int .u8 191) := (hT.2 0 (by omega)).2
  rw [hd]
  rw [hX] at hc0
  clear hT hX hd
  by_cases hs : n < 2
  ·have hnz : (n : Int) < 2 := by omega
   clear h1 h2 h3
   go_enter Go.Proofs.Tryz.func105, Go.Proofs.Tryz.ntmps105
   go_wp2_with fail
   all_goals (go_ret2; refine ⟨?_, (Below.refl _ _).alloc (zaf _) _⟩; unfold Lib.slowN; (repeat' split); all_goals first | (exfalso; omega) | rfl | (simp only [zai, zaj, zak, Int.natCast_ofNat]; rfl))
  ·have hnz : ¬ ((n : Int) < 2) := by omega
   have hz1 : (1 : Int) < (n : Int) := by omega
   have hb1 := ualloc_cell (.cells #[.int .u8 128, .int .u8 191] 186) (h1 (by omega))
   clear h1 h2 h3
   go_enter Go.Proofs.Tryz.func105, Go.Proofs.Tryz.ntmps105
   go_wp2_with fail
   all_goals (go_ret2; refine ⟨?_, (Below.refl _ _).alloc (zaf _) _⟩; unfold Lib.slowN; (repeat' split); all_goals first | (exfalso; omega) | rfl | (simp only [zai, zaj, zak, Int.natCast_ofNat]; rfl))
 ·have hd : decB n b0 b1 b2 b3 = Lib.slowN n b0 b1 b2 b3 3 160 191 := by unfold decB; rw [hX]; rfl
  have ha0 : w.cell? ⟨1, 2, none⟩ = some (.int .u8 160) := (hT.2 1 (by omega)).1
  have ha1 : w.cell? ⟨1, 3, none⟩ = some (.int .u8 191) := (hT.2 1 (by omega)).2
  rw [hd]
  rw [hX] at hc0
  clear hT hX hd
  by_cases hs : n < 3
  ·have hnz : (n : Int) < 3 := by omega
   clear h1 h2 h3
   go_enter Go.Proofs.Tryz.func105, Go.Proofs.Tryz.ntmps105
   go_wp2_with fail
   all_goals (go_ret2; refine ⟨?_, (Below.refl _ _).alloc (zaf _) _⟩; unfold Lib.slowN; (repeat' split); all_goals first | (exfalso; omega) | rfl | (simp only [zai, zaj, zak, Int.natCast_ofNat]; rfl))
  ·have hnz : ¬ ((n : Int) < 3) := by omega
   have hz1 : (1 : Int) < (n : Int) := by omega
   have hb1 := ualloc_cell (.cells #[.int .u8 160, .int .u8 191] 186) (h1 (by omega))
   have hz2 : (2 : Int) < (n : Int) := by omega
   have hb2 := ualloc_cell (.cells #[.int .u8 160, .int .u8 191] 186) (h2 (by omega))
   clear h1 h2 h3
   go_enter Go.Proofs.Tryz.func105, Go.Proofs.Tryz.ntmps105
   go_wp2_with fail
   all_goals (go_ret2; refine ⟨?_, (Below.refl _ _).alloc (zaf _) _⟩; unfold Lib.slowN; (repeat' split); all_goals first | (exfalso; omega) | rfl | (simp only [zai, zaj, zak, Int.natCast_ofNat]; rfl))
 ·have hd : decB n b0 b1 b2 b3 = Lib.slowN n b0 b1 b2 b3 3 128 191 := by unfold decB; rw [hX]; rfl
  have ha0 : w.cell? ⟨1, 0, none⟩ = some (.int .u8 128) := (hT.2 0 (by omega)).1
  have ha1 : w.cell? ⟨1, 1, none⟩ = some (.int .u8 191) := (hT.2 0 (by omega)).2
  rw [hd]
  rw [hX] at hc0
  clear hT hX hd
  by_cases hs : n < 3
  ·have hnz : (n : Int) < 3 := by omega
   clear h1 h2 h3
   go_enter Go.Proofs.Tryz.func105, Go.Proofs.Tryz.ntmps105
   go_wp2_with fail
   all_goals (go_ret2; refine ⟨?_, (Below.refl _ _).alloc (zaf _) _⟩; unfold Lib.slowN; (repeat' split); all_goals first | (exfalso; omega) | rfl | (simp only [zai, zaj, zak, Int.natCast_ofNat]; rfl))
  ·have hnz : ¬ ((n : Int) < 3) := by omega
   have hz1 : (1 : Int) < (n : Int) := by omega
   have hb1 := ualloc_cell (.cells #[.int .u8 128, .int .u8 191] 186) (h1 (by omega))
   have hz2 : (2 : Int) < (n : Int) := by omega
   have hb2 := ualloc_cell (.cells #[.int .u8 128, .int .u8 191] 186) (h2 (by omega))
   clear h1 h2 h3
   go_enter Go.Proofs.Tryz.func105, Go.Proofs.Tryz.ntmps105
   go_wp2_with fail
   all_goals (go_ret2; refine ⟨?_, (Below.refl _ _).alloc (zaf _) _⟩; unfold Lib.slowN; (repeat' split); all_goals first | (exfalso; omega) | rfl | (simp only [zai, zaj, zak, Int.natCast_ofNat]; rfl))
 ·have hd : decB n b0 b1 b2 b3 = Lib.slowN n b0 b1 b2 b3 3 128 159 := by unfold decB; rw [hX]; rfl
  have ha0 : w.cell? ⟨1, 4, none⟩ = some (.int .u8 128) := (hT.2 2 (by omega)).1
  have ha1 : w.cell? ⟨1, 5, none⟩ = some (.int .u8 159) := (hT.2 2 (by omega)).2
  rw [hd]
  rw [hX] at hc0
  clear hT hX hd
  by_cases hs : n < 3
  ·have hnz : (n : Int) < 3 := by omega
   clear h1 h2 h3
   go_enter Go.Proofs.Tryz.func105, Go.Proofs.Tryz.ntmps105
   go_wp2_with fail
   all_goals (go_ret2; refine ⟨?_, (Below.refl _ _).alloc (zaf _) _⟩; unfold Lib.slowN; (repeat' split); all_goals first | (exfalso; omega) | rfl | (simp only [zai, zaj, zak, Int.natCast_ofNat]; rfl))
  ·have hnz : ¬ ((n : Int) < 3) := by omega
   have hz1 : (1 : Int) < (n : Int) := by omega
   have hb1 := ualloc_cell (.cells #[.int .u8 128, .int .u8 159] 186) (h1 (by omega))
   have hz2 : (2 : Int) < (n : Int) := by omega
   have hb2 := ualloc_cell (.cells #[.int .u8 128, .int .u8 159] 186) (h2 (by omega))
   clear h1 h2 h3
   go_enter Go.Proofs.Tryz.func105, Go.Proofs.Tryz.ntmps105
   go_wp2_with fail
   all_goals (go_ret2; refine ⟨?_, (Below.refl _ _).alloc (zaf _) _⟩; unfold Lib.slowN; (repeat' split); all_goals first | (exfalso; omega) | rfl | (simp only [zai, zaj, zak, Int.natCast_ofNat]; rfl))
 ·have hd : decB n b0 b1 b2 b3 = Lib.slowN n b0 b1 b2 b3 4 144 191 := by unfold decB; rw [hX]; rfl
  have ha0 : w.cell? ⟨1, 6, none⟩ = some (.int .u8 144) := (hT.2 3 (by omega)).1
  have ha1 : w.cell? ⟨1, 7, none⟩ = some (.int .u8 191) := (hT.2 3 (by omega)).2
  rw [hd]
  rw [hX] at hc0
  clear hT hX hd
  by_cases hs : n < 4
  ·have hnz : (n : Int) < 4 := by omega
   clear h1 h2 h3
   go_enter Go.Proofs.Tryz.func105, Go.Proofs.Tryz.ntmps105
   go_wp2_with fail
   all_goals (go_ret2; refine ⟨?_, (Below.refl _ _).alloc (zaf _) _⟩; unfold Lib.slowN; (repeat' split); all_goals first | (exfalso; omega) | rfl | (simp only [zai, zaj, zak, Int.natCast_ofNat]; rfl))
  ·have hnz : ¬ ((n : Int) < 4) := by omega
   have hz1 : (1 : Int) < (n : Int) := by omega
   have hb1 := ualloc_cell (.cells #[.int .u8 144, .int .u8 191] 186) (h1 (by omega))
   have hz2 : (2 : Int) < (n : Int) := by omega
   have hb2 := ualloc_cell (.cells #[.int .u8 144, .int .u8 191] 186) (h2 (by omega))
   have hz3 : (3 : Int) < (n : Int) := by omega
   have hb3 := ualloc_cell (.cells #[.int .u8 144, .int .u8 191] 186) (h3 (by omega))
   clear h1 h2 h3
   go_enter Go.Proofs.Tryz.func105, Go.Proofs.Tryz.ntmps105
   go_wp2_with fail
   all_goals (go_ret2; refine ⟨?_, (Below.refl _ _).alloc (zaf _) _⟩; unfold Lib.slowN; (repeat' split); all_goals first | (exfalso; omega) | rfl | (simp only [zai, zaj, zak, Int.natCast_ofNat]; rfl))
 ·have hd : decB n b0 b1 b2 b3 = Lib.slowN n b0 b1 b2 b3 4 128 191 := by unfold decB; rw [hX]; rfl
  have ha0 : w.cell? ⟨1, 0, none⟩ = some (.int .u8 128) := (hT.2 0 (by omega)).1
  have ha1 : w.cell? ⟨1, 1, none⟩ = some (.int .u8 191) := (hT.2 0 (by omega)).2
  rw [hd]
  rw [hX] at hc0
  clear hT hX hd
  by_cases hs : n < 4
  ·have hnz : (n : Int) < 4 := by omega
   clear h1 h2 h3
   go_enter Go.Proofs.Tryz.func105, Go.Proofs.Tryz.ntmps105
   go_wp2_with fail
   all_goals (go_ret2; refine ⟨?_, (Below.refl _ _).alloc (zaf _) _⟩; unfold Lib.slowN; (repeat' split); all_goals first | (exfalso; omega) | rfl | (simp only [zai, zaj, zak, Int.natCast_ofNat]; rfl))
  ·have hnz : ¬ ((n : Int) < 4) := by omega
   have hz1 : (1 : Int) < (n : Int) := by omega
   have hb1 := ualloc_cell (.cells #[.int .u8 128, .int .u8 191] 186) (h1 (by omega))
   have hz2 : (2 : Int) < (n : Int) := by omega
   have hb2 := ualloc_cell (.cells #[.int .u8 128, .int .u8 191] 186) (h2 (by omega))
   have hz3 : (3 : Int) < (n : Int) := by omega
   have hb3 := ualloc_cell (.cells #[.int .u8 128, .int .u8 191] 186) (h3 (by omega))
   clear h1 h2 h3
   go_enter Go.Proofs.Tryz.func105, Go.Proofs.Tryz.ntmps105
   go_wp2_with fail
   all_goals (go_ret2; refine ⟨?_, (Below.refl _ _).alloc (zaf _) _⟩; unfold Lib.slowN; (repeat' split); all_goals first | (exfalso; omega) | rfl | (simp only [zai, zaj, zak, Int.natCast_ofNat]; rfl))
 ·have hd : decB n b0 b1 b2 b3 = Lib.slowN n b0 b1 b2 b3 4 128 143 := by unfold decB; rw [hX]; rfl
  have ha0 : w.cell? ⟨1, 8, none⟩ = some (.int .u8 128) := (hT.2 4 (by omega)).1
  have ha1 : w.cell? ⟨1, 9, none⟩ = some (.int .u8 143) := (hT.2 4 (by omega)).2
  rw [hd]
  rw [hX] at hc0
  clear hT hX hd
  by_cases hs : n < 4
  ·have hnz : (n : Int) < 4 := by omega
   clear h1 h2 h3
   go_enter Go.Proofs.Tryz.func105, Go.Proofs.Tryz.ntmps105
   go_wp2_with fail
   all_goals (go_ret2; refine ⟨?_, (Below.refl _ _).alloc (zaf _) _⟩; unfold Lib.slowN; (repeat' split); all_goals first | (exfalso; omega) | rfl | (simp only [zai, zaj, zak, Int.natCast_ofNat]; rfl))
  ·have hnz : ¬ ((n : Int) < 4) := by omega
   have hz1 : (1 : Int) < (n : Int) := by omega
   have hb1 := ualloc_cell (.cells #[.int .u8 128, .int .u8 143] 186) (h1 (by omega))
   have hz2 : (2 : Int) < (n : Int) := by omega
   have hb2 := ualloc_cell (.cells #[.int .u8 128, .int .u8 143] 186) (h2 (by omega))
   have hz3 : (3 : Int) < (n : Int) := by omega
   have hb3 := ualloc_cell (.cells #[.int .u8 128, .int .u8 143] 186) (h3 (by omega))
   clear h1 h2 h3
   go_enter Go.Proofs.Tryz.func105, Go.Proofs.Tryz.ntmps105
   go_wp2_with fail
   all_goals (go_ret2; refine ⟨?_, (Below.refl _ _).alloc (zaf _) _⟩; unfold Lib.slowN; (repeat' split); all_goals first | (exfalso; omega) | rfl | (simp only [zai, zaj, zak, Int.natCast_ofNat]; rfl))

open Go Go.RowKit
theorem utabs {w : World} (hgl : Gl P0 w fun _ => False) : Lib.Utf8Tabs 0 1 w := by
 constructor
 ·intro c hc
  obtain ⟨_, cs, e, fr, h2, h3⟩ := hgl.fst rfl _ glob_fst
  simp only [World.cell?, h2, Option.isSome_none, Bool.false_eq_true, if_false]
  exact h3 c hc
 ·intro i hi
  obtain ⟨_, cs, e, fr, h2, h3⟩ := hgl.acc rfl _ glob_acc
  simp only [World.cell?, h2, Option.isSome_none, Bool.false_eq_true, if_false]
  exact h3 i hi
theorem slow_t (l : Bs) (hl : l ≠ []) (h : 128 ≤ (l.getD 0 0).toNat) : Triple P0 105 [sb l] [] (.tup [int .i32 ((decB l.length (l.getD 0 0).toNat (l.getD 1 0).toNat (l.getD 2 0).toNat (l.getD 3 0).toNat).1 : Nat), int .i64 ((decB l.length (l.getD 0 0).toNat (l.getD 1 0).toNat (l.getD 2 0).toNat (l.getD 3 0).toNat).2 : Nat)]) [] := by
 have hn : 1 ≤ l.length := zat.2 hl
 refine triple_of_bytes (fun w ad cap hgl hc hcell hsp => ?_) hl
 have at_ : ∀ k, k < l.length → w.cell? ⟨ad.block, ad.off + k, none⟩ = some (.int .u8 (l.getD k 0).toNat) := fun k hk => by
  refine hcell k _ ?_
  simp [List.getD, hk]
 obtain ⟨b, o, s⟩ := ad
 simp only at hsp
 subst hsp
 refine (slow_calls w ⟨b, o, none⟩ l.length cap _ _ _ _ hn (at_ 0 (by omega)) (at_ 1) (at_ 2) (at_ 3) (zan _) (zan _) (zan _) (zan _) h (utabs hgl)).mono ?_
 rintro e w' ⟨rfl, hb⟩
 refine ⟨_, rfl, hb, fun R ob ρ => .tup _ _ (by simp) fun i x c hx hc => ?_⟩
 match i with
 | 0 => simp at hx hc; subst hx; subst hc; exact .r (.v _)
 | 1 => simp at hx hc; subst hx; subst hc; exact .r (.v _)
 | i + 2 => simp at hx
theorem decB_ok (n b0 b1 b2 b3 : Nat) (hn : 1 ≤ n) (h0 : 128 ≤ b0) (l0 : b0 < 256) (l1 : b1 < 256) (l2 : b2 < 256) (l3 : b3 < 256) :
  (decB n b0 b1 b2 b3).1 ≠ 63 ∧ (decB n b0 b1 b2 b3).1 ≠ 10 ∧ 1 ≤ (decB n b0 b1 b2 b3).2 ∧ (decB n b0 b1 b2 b3).2 ≤ n ∧ (1 < (decB n b0 b1 b2 b3).2 → 128 ≤ b1) ∧ (2 < (decB n b0 b1 b2 b3).2 → 128 ≤ b2) ∧ (3 < (decB n b0 b1 b2 b3).2 → 128 ≤ b3) ∧ (decB n b0 b1 b2 b3).2 ≤ 4 := by
 have hr : Lib.firstT b0 = 241 ∨ (Lib.firstT b0 = 2 ∧ 194 ≤ b0 ∧ b0 < 224) ∨ (Lib.firstT b0 = 19 ∧ b0 = 224) ∨ (Lib.firstT b0 = 3 ∧ 225 ≤ b0 ∧ b0 < 240) ∨ (Lib.firstT b0 = 35 ∧ b0 = 237) ∨ (Lib.firstT b0 = 52 ∧ b0 = 240) ∨
   (Lib.firstT b0 = 4 ∧ 241 ≤ b0 ∧ b0 < 244) ∨ (Lib.firstT b0 = 68 ∧ b0 = 244) := by
  unfold Lib.firstT
  repeat' split
  all_goals omega
 have fin : ∀ sz lo hi, decB n b0 b1 b2 b3 = Lib.slowN n b0 b1 b2 b3 sz lo hi → 2 ≤ sz → sz ≤ 4 → 128 ≤ lo → (sz = 2 → 194 ≤ b0 ∧ b0 < 224) → (sz = 3 → (b0 = 224 ∧ lo = 160) ∨ (225 ≤ b0 ∧ b0 < 240)) → (sz = 4 → (b0 = 240 ∧ lo = 144) ∨ (241 ≤ b0 ∧ b0 < 245)) → hi ≤ 191 →
   ((decB n b0 b1 b2 b3).1 ≠ 63 ∧ (decB n b0 b1 b2 b3).1 ≠ 10 ∧ 1 ≤ (decB n b0 b1 b2 b3).2 ∧ (decB n b0 b1 b2 b3).2 ≤ n ∧ (1 < (decB n b0 b1 b2 b3).2 → 128 ≤ b1) ∧ (2 < (decB n b0 b1 b2 b3).2 → 128 ≤ b2) ∧ (3 < (decB n b0 b1 b2 b3).2 → 128 ≤ b3) ∧ (decB n b0 b1 b2 b3).2 ≤ 4) := by
  intro sz lo hi hd hs2 hs4 hlo q2 q3 q4 hhi
  rw [hd]
  unfold Lib.slowN
  repeat' split
  all_goals (simp only; refine ⟨by omega, by omega, by omega, by omega, by omega, by omega, by omega, by omega⟩)
 rcases hr with h | ⟨h, g⟩ | ⟨h, g⟩ | ⟨h, g⟩ | ⟨h, g⟩ | ⟨h, g⟩ | ⟨h, g⟩ | ⟨h, g⟩
 ·have hd : decB n b0 b1 b2 b3 = (65533, 1) := by unfold decB; rw [h]; rfl
  rw [hd]
  simp only
  omega
 ·exact fin 2 128 191 (by unfold decB; rw [h]; rfl) (by omega) (by omega) (by omega) (by omega) (by omega) (by omega) (by omega)
 ·exact fin 3 160 191 (by unfold decB; rw [h]; rfl) (by omega) (by omega) (by omega) (by omega) (by omega) (by omega) (by omega)
 ·exact fin 3 128 191 (by unfold decB; rw [h]; rfl) (by omega) (by omega) (by omega) (by omega) (by omega) (by omega) (by omega)
 ·exact fin 3 128 159 (by unfold decB; rw [h]; rfl) (by omega) (by omega) (by omega) (by omega) (by omega) (by omega) (by omega)
 ·exact fin 4 144 191 (by unfold decB; rw [h]; rfl) (by omega) (by omega) (by omega) (by omega) (by omega) (by omega) (by omega)
 ·exact fin 4 128 191 (by unfold decB; rw [h]; rfl) (by omega) (by omega) (by omega) (by omega) (by omega) (by omega) (by omega)
 ·exact fin 4 128 143 (by unfold decB; rw [h]; rfl) (by omega) (by omega) (by omega) (by omega) (by omega) (by omega) (by omega)
theorem dec_slow (l : Bs) (hl : l ≠ []) (hn : l.length ≤ 140737488355328) (h : 128 ≤ (l.getD 0 0).toNat) : Triple P0 83 [sb l] [] (.tup [int .i32 ((decB l.length (l.getD 0 0).toNat (l.getD 1 0).toNat (l.getD 2 0).toNat (l.getD 3 0).toNat).1 : Nat), int .i64 ((decB l.length (l.getD 0 0).toNat (l.getD 1 0).toNat (l.getD 2 0).toNat (l.getD 3 0).toNat).2 : Nat)]) [] := by
 have hst := slow_t l hl h
 generalize decB l.length (l.getD 0 0).toNat (l.getD 1 0).toNat (l.getD 2 0).toNat (l.getD 3 0).toNat = d at hst ⊢
 have hpos : 0 < l.length := zat.2 hl
 obtain ⟨c, hc⟩ : ∃ c, l.getD 0 0 = c := ⟨_, rfl⟩
 rw [hc] at h
 have hg : ∀ z, (bys l).getD (zae 0) z = .v (.int .u8 c.toNat) := fun z => by
  rw [← hc, show zae 0 = 0 from rfl]
  cases l with
  | nil => exact absurd rfl hl
  | cons a b => rfl
 obtain ⟨N, hN⟩ : ∃ N : Int, ((l.length : Nat) : Int) = N := ⟨_, rfl⟩
 refine utf8_DecodeRune_triple rfl (by decide) ?_
 simp only [utf8_DecodeRune_pc, hN, push_cast, ↓reduceIte, reduceCtorEq, zB, zE, zA, zS, zL, zD, zM]
 refine run_loop [(0, false), (6, false), (7, false), (8, false)] (fun vs pos los => vs = [sb l, sb l, int .i64 N, int .i64 0] ∧ pos = [] ∧ los = []) (fun _ _ _ => 0) rfl ?_ ?_
 ·simp only [push_cast, ↓reduceIte, reduceCtorEq, zB, zE, zA, zS, zL, zD, zM]
 ·rintro vs pos los ⟨rfl, rfl, rfl⟩
  have g1 : decide ((0 : Int) < N) = true := by simp; omega
  have g2 : decide (((c.toNat : Nat) : Int) < 128) = false := by simp; omega
  simp only [g1, g2, hg, hN, push_cast, ↓reduceIte, reduceCtorEq, zB, zE, zA, zS, zL, zD, zM]
  refine ⟨by omega, ?_⟩
  refine call_mk hst rfl trivial ?_
  simp only [push_cast, ↓reduceIte, reduceCtorEq, zB, zE, zA, zS, zL, zD, zM]
theorem dec_any (l : Bs) (hl : l ≠ []) (hn : l.length ≤ 140737488355328) : Dec l := by
 cases l with
 | nil => exact absurd rfl hl
 | cons c t =>
  by_cases h : c.toNat < 128
  ·exact ⟨_, 1, dec_ascii c t h hn, by omega, by simp, .inl ⟨_, _, rfl, rfl, rfl⟩⟩
  ·have hd := dec_slow (c :: t) hl hn (by show 128 ≤ c.toNat; omega)
   obtain ⟨k1, k2, k3, k4, k5, k6, k7, k8⟩ := decB_ok (c :: t).length ((c :: t).getD 0 0).toNat ((c :: t).getD 1 0).toNat ((c :: t).getD 2 0).toNat ((c :: t).getD 3 0).toNat (by simp) (by show 128 ≤ c.toNat; omega) (zan _) (zan _) (zan _) (zan _)
   generalize decB (c :: t).length ((c :: t).getD 0 0).toNat ((c :: t).getD 1 0).toNat ((c :: t).getD 2 0).toNat ((c :: t).getD 3 0).toNat = d at hd k1 k2 k3 k4 k5 k6 k7 k8
   refine ⟨_, _, hd, k3, k4, .inr ⟨by omega, by omega, fun x hx => ?_⟩⟩
   obtain ⟨i, hi, hxi⟩ := List.mem_iff_getElem.1 hx
   rw [List.length_take] at hi
   rw [List.getElem_take] at hxi
   have hil : i < (c :: t).length := by omega
   have hx128 : 128 ≤ x.toNat := by
    have hgi : (c :: t).getD i 0 = x := by rw [← hxi, zah, List.getElem?_eq_getElem hil]; rfl
    have : i = 0 ∨ i = 1 ∨ i = 2 ∨ i = 3 := by omega
    rcases this with rfl | rfl | rfl | rfl
    ·have : c = x := hgi
     rw [← this]; omega
    ·rw [← hgi]; exact k5 (by omega)
    ·rw [← hgi]; exact k6 (by omega)
    ·rw [← hgi]; exact k7 (by omega)
   unfold stopB
   simp
   omega
theorem decs_any (l : Bs) (hn : l.length ≤ 140737488355328) : ∀ i, i < l.length → Dec (l.drop i) := fun i hi => dec_any _ (fun h => by
 have := congrArg List.length h
 simp at this
 omega) (by rw [List.length_drop]; omega)

open Go
noncomputable def rec_Reader_Take_pc : PC :=
  (.seq (.reg [p_s 4 (.mov (.c (.r (.v (.int .u64 0)))))])
 (.seq (.seq (.reg [p_m 8 0, p_s 9 (.nck (.t 8)), p_s 10 (.fa 0 (.t 9)), p_s 11 (.ld none (.t 10)), p_s 12 (.len false (.t 11)), p_m 13 1, p_s 14 (.bin .lss (.t 12) (.t 13))])
 (.cond (.t 14)
 (.seq (.reg [p_m 15 0, p_m 16 0, p_s 17 (.nck (.t 15)), p_s 18 (.fa 0 (.t 17)), ⟨none, none, 0, .act (.st 1 (.t 18) (.c (.nils 1 (.v (.int .u8 0)))))⟩, p_s 19 (.nck (.t 16)),
 p_s 20 (.fa 1 (.t 19)), ⟨none, none, 0, .act (.st 1 (.t 20) (.c (.r (.v (.bool true)))))⟩])
 (.seq (.reg [p_s 4 (.mov (.c (.r (.v (.int .u64 0)))))])
 .ret))
 .skip))
 (.seq (.reg [p_s 5 (.mov (.c (.r (.v (.int .u64 0)))))])
 (.seq (.seq (.reg [p_m 21 0, p_s 22 (.nck (.t 21)), p_s 23 (.fa 0 (.t 22)), p_s 24 (.ld none (.t 23)), p_m 25 1, p_s 26 (.sll 1 (.t 24) none (some (.t 25)) none), p_s 27 (.len false (.t 26)),
 p_s 28 (.mov (o_i 0))])
 (.block 0 (.loop (.seq (.reg [p_s 29 (.bin .lss (.t 28) (.t 27))])
 (.seq (.cond (.t 29)
 .skip
 (.exit 0))
 (.seq (.block 1 (.seq (.reg [p_s 30 (.ia 1 (.v (.int .u8 0)) (.t 26) (.t 28)), p_s 31 (.ld none (.t 30)), p_m 7 31])
 (.reg [p_m 32 5, p_s 33 (.bin .shl (.t 32) (.c (.r (.v (.int .u64 8))))), p_m 34 7, p_s 35 (.conv .u64 (.t 34)), p_s 36 (.bin .or (.t 33) (.t 35)), p_m 5 36])))
 (.reg [p_s 37 (.bin .add (.t 28) (o_i 1)), p_m 28 37])))))))
 (.seq (.reg [p_m 38 0, p_m 39 0, p_s 40 (.nck (.t 39)), p_s 41 (.fa 0 (.t 40)), p_s 42 (.ld none (.t 41)), p_m 43 1, p_s 44 (.sll 1 (.t 42) (some (.t 43)) none none), p_s 45 (.nck (.t 38)),
 p_s 46 (.fa 0 (.t 45)), ⟨none, none, 0, .act (.st 1 (.t 46) (.t 44))⟩])
 (.seq (.reg [p_m 47 5, p_m 4 47])
 .ret))))))
theorem rec_Reader_Take_triple : Fun P0 84 2 [(4, false, none)] rec_Reader_Take_pc := fun_mk Go.Proofs.Tryz.func84 rfl (by decide) (by kernel_rfl) (by decide) rfl (by kernel_rfl) (by kernel_rfl) (by decide)
noncomputable def rec_Ops_pc : PC :=
  (.seq (.reg [p_s 2 (.mov (.c (.nils 5 (.agg [(.v (.int .i64 0)), (.v (.int .i64 0)), (.v (.int .i64 0)), (.v (.int .i64 0)), (.v (.int .i64 0))])))), p_s 3 (.mov (o_i 0))])
 (.seq (.reg [p_m 9 0, p_s 10 (.build [(.nils 1 (.v (.int .u8 0))), (.r (.v (.bool false)))] [(0, 1, (.t 9))]), p_a 11 (.box (.t 10)), p_m 4 11])
 (.seq (.reg [p_s 5 (.mov (.c (.nils 5 (.agg [(.v (.int .i64 0)), (.v (.int .i64 0)), (.v (.int .i64 0)), (.v (.int .i64 0)), (.v (.int .i64 0))]))))])
 (.seq (.block 0 (.loop (.seq (.seq (.reg [p_m 12 4, p_s 13 (.nck (.t 12)), p_s 14 (.fa 0 (.t 13)), p_s 15 (.ld none (.t 14)), p_s 16 (.len false (.t 15)), p_s 17 (.bin .gtr (.t 16) (o_i 0)), p_m 18 17, p_g 19 18 true (.mov (.t 5)),
 p_g 20 18 true (.len false (.t 19)), p_g 21 18 true (.bin .leq (.t 20) (o_i 500)), p_s 22 (.pick (.t 18) (.t 21) (.c (.r (.v (.bool false)))))])
 (.cond (.t 22)
 .skip
 (.exit 0)))
 (.block 1 (.seq (.reg [p_m 23 4, p_c 24 1 84 [(.t 23), (o_i 1)], p_s 25 (.conv .i64 (.t 24)), p_s 26 (.build [(.r (.v (.int .i64 0))), (.r (.v (.int .i64 0))), (.r (.v (.int .i64 0))), (.r (.v (.int .i64 0))), (.r (.v (.int .i64 0)))] [(0, 1, (.t 25))]),
 p_a 6 (.new [(.r (.v (.int .i64 0))), (.r (.v (.int .i64 0))), (.r (.v (.int .i64 0))), (.r (.v (.int .i64 0))), (.r (.v (.int .i64 0)))]), ⟨none, none, 0, .act (.st 5 (.t 6) (.t 26))⟩])
 (.seq (.seq (.reg [p_s 27 (.fa 0 (.t 6)), p_s 28 (.ld none (.t 27)), p_s 29 (.bin .eql (.t 28) (o_i 1))])
 (.cond (.t 29)
 (.reg [p_m 30 4, p_c 31 2 85 [.t 30], p_s 32 (.fa 1 (.t 6)), ⟨none, none, 0, .act (.st 4 (.t 32) (.t 31))⟩])
 (.reg [p_m 33 4, p_c 34 3 84 [(.t 33), (o_i 4)], p_s 35 (.conv .i64 (.t 34)), p_s 36 (.fa 1 (.t 6)), p_s 37 (.fa 0 (.t 36)), ⟨none, none, 0, .act (.st 1 (.t 37) (.t 35))⟩])))
 (.reg [p_m 38 5, p_s 39 (.ld (some 5) (.t 6)), p_a 40 (.bsl 5 (.agg [(.v (.int .i64 0)), (.v (.int .i64 0)), (.v (.int .i64 0)), (.v (.int .i64 0)), (.v (.int .i64 0))]) [(.t 39)]),
 p_a 41 (.app 5 (.agg [(.v (.int .i64 0)), (.v (.int .i64 0)), (.v (.int .i64 0)), (.v (.int .i64 0)), (.v (.int .i64 0))]) 40 (.t 38) (.t 40)), p_m 5 41])))))))
 (.seq (.seq (.reg [p_m 43 5, p_c 44 4 45 [.t 43], p_m 42 44, p_s 45 (.ext (.t 42) 0), p_s 46 (.ext (.t 42) 1), p_m 7 45, p_m 8 46])
 (.seq (.reg [p_m 47 4, p_s 48 (.nck (.t 47)), p_s 49 (.fa 1 (.t 48)), p_s 50 (.ld none (.t 49)), p_m 51 50, p_g 52 51 false (.mov (.t 8)), p_g 53 51 false (.bin .neq (.t 52) (o_i 0)),
 p_s 54 (.pick (.t 51) (.c (.r (.v (.bool true)))) (.t 53))])
 (.cond (.t 54)
 (.seq (.reg [p_s 2 (.mov (.c (.nils 5 (.agg [(.v (.int .i64 0)), (.v (.int .i64 0)), (.v (.int .i64 0)), (.v (.int .i64 0)), (.v (.int .i64 0))])))), p_s 3 (.mov (o_i 10))])
 .ret)
 .skip)))
 (.seq (.reg [p_m 55 5, p_m 2 55, p_s 3 (.mov (o_i 0))])
 .ret))))))
theorem rec_Ops_triple : Fun P0 51 1 [(2, false, none), (3, false, none)] rec_Ops_pc := fun_mk Go.Proofs.Tryz.func51 rfl (by decide) (by kernel_rfl) (by decide) rfl (by kernel_rfl) (by kernel_rfl) (by decide)
noncomputable def rec_Batch_pc : PC :=
  (.seq (.reg [p_s 2 (.mov (.c (.nils 1 (.v (.int .u8 0))))), p_s 3 (.mov (o_i 0))])
 (.seq (.block 0 (.seq (.reg [p_m 8 0, p_s 9 (.len false (.t 8)), p_s 10 (.bin .gtr (.t 9) (o_i 500)), p_m 7 10])
 (.cond (.t 7)
 (.seq (.reg [p_s 2 (.mov (.c (.nils 1 (.v (.int .u8 0))))), p_s 3 (.mov (o_i 11))])
 .ret)
 (.seq (.reg [p_m 12 0, p_s 13 (.len false (.t 12)), p_s 14 (.bin .eql (.t 13) (o_i 0)), p_m 15 14, p_g 16 15 false (.mov (.t 0)), ⟨(some 17), (some (15, false)), 1, .call 71 [(.t 16), (.c (.fn (.func 72) []))]⟩,
 p_s 18 (.pick (.t 15) (.c (.r (.v (.bool true)))) (.t 17)), p_m 11 18])
 (.cond (.t 11)
 (.seq (.reg [p_s 2 (.mov (.c (.nils 1 (.v (.int .u8 0))))), p_s 3 (.mov (o_i 1))])
 .ret)
 .skip)))))
 (.seq (.reg [p_s 4 (.mov (.c (.nils 1 (.v (.int .u8 0)))))])
 (.seq (.seq (.reg [p_m 19 0, p_s 20 (.len false (.t 19)), p_s 21 (.mov (o_i 0))])
 (.block 1 (.loop (.seq (.reg [p_s 22 (.bin .lss (.t 21) (.t 20))])
 (.seq (.cond (.t 22)
 .skip
 (.exit 1))
 (.seq (.block 2 (.seq (.reg [p_s 23 (.ia 5 (.agg [(.v (.int .i64 0)), (.v (.int .i64 0)), (.v (.int .i64 0)), (.v (.int .i64 0)), (.v (.int .i64 0))]) (.t 19) (.t 21)), p_s 24 (.ld (some 5) (.t 23)),
 p_a 6 (.new [(.r (.v (.int .i64 0))), (.r (.v (.int .i64 0))), (.r (.v (.int .i64 0))), (.r (.v (.int .i64 0))), (.r (.v (.int .i64 0)))]), ⟨none, none, 0, .act (.st 5 (.t 6) (.t 24))⟩])
 (.seq (.reg [p_m 25 4, p_s 26 (.fa 0 (.t 6)), p_s 27 (.ld none (.t 26)), p_s 28 (.conv .u8 (.t 27)), p_a 29 (.bsl 1 (.v (.int .u8 0)) [(.t 28)]), p_a 30 (.app 1 (.v (.int .u8 0)) 1 (.t 25) (.t 29)),
 p_m 4 30])
 (.seq (.reg [p_s 31 (.fa 0 (.t 6)), p_s 32 (.ld none (.t 31)), p_s 33 (.bin .eql (.t 32) (o_i 1))])
 (.cond (.t 33)
 (.reg [p_m 34 4, p_s 35 (.fa 1 (.t 6)), p_s 36 (.ld (some 4) (.t 35)), p_c 37 2 74 [.t 34, .t 36], p_m 4 37])
 (.reg [p_m 38 4, p_s 39 (.fa 1 (.t 6)), p_s 40 (.fa 0 (.t 39)), p_s 41 (.ld none (.t 40)), p_s 42 (.conv .u64 (.t 41)), p_c 43 3 75 [(.t 38), (.t 42), (o_i 4)], p_m 4 43]))))))
 (.reg [p_s 44 (.bin .add (.t 21) (o_i 1)), p_m 21 44])))))))
 (.seq (.reg [p_m 45 4, p_m 2 45, p_s 3 (.mov (o_i 0))])
 .ret)))))
theorem rec_Batch_triple : Fun P0 45 1 [(2, false, none), (3, false, none)] rec_Batch_pc := fun_mk Go.Proofs.Tryz.func45 rfl (by decide) (by kernel_rfl) (by decide) rfl (by kernel_rfl) (by kernel_rfl) (by decide)
def beN : Bs → Nat → Nat
 | [], a => a
 | c :: r, a => beN r (a * 256 + c.toNat)
theorem take_t (l : Bs) (b : Bool) (k : Nat) (hk : k ≤ 4) (h : k ≤ l.length) (hl : l.length ≤ 140737488355328) : Triple P0 84 [.ptr 1000000 0 0, int .i64 k] [.box [sb l, bl b]] (uw (beN (l.take k) 0)) [.box [sb (l.drop k), bl b]] := by
 refine rec_Reader_Take_triple rfl (by simp) ?_
 have g1 : decide (((l.length : Nat) : Int) < (k : Int)) = false := by simp; omega
 have e1 : List.drop (zae 0) (zal k (bys l)) = bys (l.take k) := by
  rw [show zae 0 = 0 from rfl, List.drop_zero, ← List.map_take]
 have htl : (l.take k).length = k := by simp; omega
 simp only [rec_Reader_Take_pc, g1, zaa, zab, zac, push_cast, ↓reduceIte, reduceCtorEq, zB, zE, zA, zS, zL, zD, zM]
 refine ⟨by omega, ?_⟩
 simp only [e1, htl, zaa, zab, zac, push_cast, ↓reduceIte, reduceCtorEq, zB, zE, zA, zS, zL, zD, zM]
 refine run_loop [(0, false), (1, false), (5, false), (26, false), (27, false), (28, false)] (fun vs pos los => ∃ (i U : Nat), i ≤ k ∧ U < 256 ^ i ∧ beN ((l.take k).drop i) U = beN (l.take k) 0 ∧
   vs = [.ptr 1000000 0 0, int .i64 k, uw U, sb (l.take k), int .i64 k, int .i64 i] ∧ pos = [.box [sb l, bl b]] ∧ los = [])
  (fun vs _ _ => match vs with | [_, _, _, _, _, .r (.v (.int _ j))] => (k - j).toNat | _ => 0) rfl ?_ ?_
 ·simp only [push_cast, ↓reduceIte, reduceCtorEq, zB, zE, zA, zS, zL, zD, zM]
  exact ⟨0, 0, by omega, by decide, rfl, rfl⟩
 ·rintro vs pos los ⟨i, U, i0, hU, hb, rfl, rfl, rfl⟩
  obtain ⟨T, hT⟩ : ∃ T, l.take k = T := ⟨_, rfl⟩
  rw [hT] at hb htl ⊢
  simp only [uw, push_cast, ↓reduceIte, reduceCtorEq, zB, zE, zA, zS, zL, zD, zM]
  refine cnd_mk (fun hi => ?_) (fun hi => ?_)
  ·have hi : i < k := by simpa using hi
   have hiT : i < T.length := by omega
   obtain ⟨c, hc⟩ : ∃ c, T[i] = c := ⟨_, rfl⟩
   have hd : T.drop i = c :: T.drop (i + 1) := by rw [zau hiT, hc]
   have hg : ∀ z, (bys T).getD i z = .v (.int .u8 c.toNat) := fun z => by
    rw [zah]
    simp [hiT, hc, by8]
   have w1 : IntKind.i64.wrap ((i : Int) + 1) = (i : Int) + 1 := wrap_id (by omega)
   have hcl := c.toNat_lt
   have hU256 : 256 ^ i ≤ 16777216 := by
    have : (256 : Nat) ^ i ≤ 256 ^ 3 := Nat.pow_le_pow_right (by decide) (by omega)
    have h3 : (256 : Nat) ^ 3 = 16777216 := by decide
    omega
   have w3 : IntKind.u64.wrap ((c.toNat : Nat) : Int) = ((c.toNat : Nat) : Int) := by rw [IntKind.wrap_u64]; omega
   have nx : IntKind.u64.wrap ((BitVec.ofInt IntKind.u64.bits (IntKind.u64.wrap ((U : Int) * 2 ^ min (zae 8) IntKind.u64.bits)) ||| BitVec.ofInt IntKind.u64.bits ((c.toNat : Nat) : Int)).toNat : Int) = ((U * 256 + c.toNat : Nat) : Int) := by
    have hm : min (zae 8) IntKind.u64.bits = 8 := by decide
    have hsh : IntKind.u64.wrap ((U : Int) * 2 ^ min (zae 8) IntKind.u64.bits) = ((U * 256 : Nat) : Int) := by
     rw [hm, IntKind.wrap_u64]
     omega
    rw [hsh, or_u (by omega) (by omega), Nat.or_comm, or_high (k := 8) (by omega)]
   rw [hd, beN] at hb
   simp only [hg, w1, w3, nx, htl, zaa, zab, zac, push_cast, ↓reduceIte, reduceCtorEq, zB, zE, zA, zS, zL, zD, zM]
   exact ⟨by omega, by decide, ⟨i + 1, U * 256 + c.toNat, by omega, by rw [Nat.pow_succ]; omega, hb, by simp⟩, by omega⟩
  ·have hi : i = k := zao i0 (by simpa using hi)
   subst hi
   rw [zam (by omega), beN] at hb
   simp only [zaa, zab, zac, push_cast, ↓reduceIte, reduceCtorEq, zB, zE, zA, zS, zL, zD, zM]
   exact ⟨by omega, by rw [hb], by rw [← List.map_drop]⟩
theorem wload_t (f : Form) (rest : Bs) (hk : f.1 = 16) (hr : rest ≠ []) (hl : rest.length ≤ 1000000) (e : Int) (he : e ≠ 0) (hO : Triple P0 51 [sb rest.tail] [] (.tup [.nils 5 opZ, int .i64 e]) []) :
  Triple P0 27 [.r (formR f), sb rest] [] (.tup [askA 0 [] [] [], int .i64 e]) [] := by
 obtain ⟨k, nm, fs⟩ := f
 simp only at hk
 subst hk
 have hfr : formR (16, nm, fs) = .agg [.v (.int .i64 16), .v (.string (bstr nm)), .sl 2 (fs.map fldR)] := rfl
 refine ask_form_whole_triple rfl (by decide) ?_
 have g16 : ((16 : Int) == 16) = true := rfl
 obtain ⟨N, hN⟩ : ∃ N : Int, ((rest.length : Nat) : Int) = N := ⟨_, rfl⟩
 have hN1 : 1 ≤ N := by
  have : rest.length ≠ 0 := fun h => hr (zav.1 h)
  omega
 have e1 : List.drop (zae 1) (zal N.toNat (bys rest)) = bys rest.tail := by
  rw [show N.toNat = rest.length by omega, take_map_len, show zae 1 = 1 from rfl, ← List.map_drop, List.drop_one]
 have ge : (e != 0) = true := by simp [he]
 simp only [ask_form_whole_pc, hfr, g16, hN, e1, push_cast, ↓reduceIte, reduceCtorEq, zB, zE, zA, zS, zL, zD, zM]
 refine ⟨by omega, ?_⟩
 refine call_as (as' := [sb rest.tail]) rfl ?_
 refine call_mk hO rfl trivial ?_
 simp only [ge, push_cast, ↓reduceIte, reduceCtorEq, zB, zE, zA, zS, zL, zD, zM]
 rfl

noncomputable def apiaryref21_word_pc : PC :=
  (.seq (.reg [p_s 4 (.mov (.c (.r (.v (.bool false)))))])
 (.seq (.reg [p_m 5 1, p_s 6 (.bin .eql (.t 5) (.c (.r (.v (.int .u8 119))))), p_m 7 6, p_g 8 7 false (.mov (.t 0)), p_g 9 7 false (.bin .eql (.t 8) (o_i 7)), p_g 10 7 false (.mov (.t 9)),
 p_g 11 10 true (.mov (.t 1)), p_g 12 10 true (.bin .eql (.t 11) (.c (.r (.v (.int .u8 118))))), p_g 13 7 false (.pick (.t 10) (.t 12) (.c (.r (.v (.bool false))))),
 p_s 14 (.pick (.t 7) (.c (.r (.v (.bool true)))) (.t 13)), p_m 4 14])
 .ret))
theorem apiaryref21_word_triple : Fun P0 33 2 [(4, false, none)] apiaryref21_word_pc := fun_mk Go.Proofs.Tryz.func33 rfl (by decide) (by kernel_rfl) (by decide) rfl (by kernel_rfl) (by kernel_rfl) (by decide)
noncomputable def apiaryref1_IsWord_pc : PC :=
  (.seq (.reg [p_s 2 (.mov (.c (.r (.v (.bool false)))))])
 (.seq (.reg [p_m 6 0, p_c 7 1 61 [.t 6], p_m 5 7, p_s 8 (.ext (.t 5) 0), p_s 9 (.ext (.t 5) 1), p_a 3 (.new [(.r (.v (.int .i64 0))), (.r (.v (.int .i64 0))), (.r (.v (.int .i64 0)))]),
 ⟨none, none, 0, .act (.st 3 (.t 3) (.t 8))⟩, p_m 4 9])
 (.seq (.reg [p_m 10 4, p_s 11 (.bin .eql (.t 10) (o_i 0)), p_m 2 11])
 .ret)))
theorem apiaryref1_IsWord_triple : Fun P0 34 1 [(2, false, none)] apiaryref1_IsWord_pc := fun_mk Go.Proofs.Tryz.func34 rfl (by decide) (by kernel_rfl) (by decide) rfl (by kernel_rfl) (by kernel_rfl) (by decide)
def wordB (k : Int) (c : UInt8) : Bool := decide (c.toNat = 119 ∨ k = 7 ∧ c.toNat = 118)
theorem qword_t (k : Int) (c : UInt8) : Triple P0 33 [int .i64 k, int .u8 c.toNat] [] (bl (wordB k c)) [] := by
 refine apiaryref21_word_triple rfl (by decide) ?_
 simp only [apiaryref21_word_pc, push_cast, ↓reduceIte, reduceCtorEq, zB, zE, zA, zS, zL, zD, zM]
 refine ⟨by intro h1 h2; rw [h1, h2]; rfl, by intro h; rw [h]; rfl, ?_⟩
 unfold wordB
 by_cases h1 : c.toNat = 119
 ·simp [h1]
 ·by_cases h2 : k = 7
  ·subst h2
   have : ((c.toNat : Int) == 119) = false := by rw [beq_eq_false_iff_ne]; omega
   rw [this]
   by_cases h3 : c.toNat = 118
   ·simp [h1, h3]
   ·have h3' : ((c.toNat : Int) == 118) = false := by rw [beq_eq_false_iff_ne]; omega
    simp [h1, h3, h3']
  ·have : ((c.toNat : Int) == 119) = false := by rw [beq_eq_false_iff_ne]; omega
   simp [h1, h2, this]
theorem risword_t (w : Nat) (hw : w < 18446744073709551616) : Triple P0 34 [uw w] [] (bl (isWB w)) [] := by
 refine apiaryref1_IsWord_triple rfl (by decide) ?_
 simp only [apiaryref1_IsWord_pc, uw, push_cast, ↓reduceIte, reduceCtorEq, zB, zE, zA, zS, zL, zD, zM]
 have h := rcell_t w hw
 cases hb : isWB w <;> rw [hb] at h <;> simp only [Bool.false_eq_true, ↓reduceIte] at h
 all_goals refine call_mk h rfl trivial ?_
 all_goals simp only [cel, push_cast, ↓reduceIte, reduceCtorEq, zB, zE, zA, zS, zL, zD, zM]
 all_goals rfl
def uhx : Bs → Nat → Option Nat
 | [], a => some a
 | c :: r, a => match hxD c with
  | none => none
  | some d => uhx r (a * 16 % 18446744073709551616 + d)
def unhexV (s : Bs) : AV := match uhx s 0 with
 | some w => .tup [uw w, bl (decide (s.length = 16))]
 | none => .tup [uw 0, bl false]

noncomputable def apiaryref1_Same_pc : PC :=
  (.seq (.reg [p_s 4 (.mov (.c (.r (.v (.bool false)))))])
 (.seq (.seq (.reg [p_m 6 0, p_s 7 (.len false (.t 6)), p_m 8 1, p_s 9 (.len false (.t 8)), p_s 10 (.bin .neq (.t 7) (.t 9))])
 (.cond (.t 10)
 (.seq (.reg [p_s 4 (.mov (.c (.r (.v (.bool false)))))])
 .ret)
 .skip))
 (.seq (.seq (.reg [p_s 5 (.mov (o_i 0))])
 (.block 0 (.loop (.seq (.seq (.reg [p_m 11 5, p_m 12 0, p_s 13 (.len false (.t 12)), p_s 14 (.bin .lss (.t 11) (.t 13))])
 (.cond (.t 14)
 .skip
 (.exit 0)))
 (.seq (.block 1 (.seq (.drw [p_m 17 0, p_m 18 5, p_s 19 (.ia 1 (.v (.int .u64 0)) (.t 17) (.t 18)), p_s 20 (.ld none (.t 19)), p_m 21 1, p_m 22 5, p_s 23 (.ia 1 (.v (.int .u64 0)) (.t 21) (.t 22)),
 p_s 24 (.ld none (.t 23)), p_s 25 (.bin .neq (.t 20) (.t 24))]
 [[], [], [0, 1], [0, 1, 2], [], [], [4, 5], [4, 5, 6], [0, 1, 2, 3, 4, 5, 6, 7]])
 (.cond (.t 25)
 (.seq (.reg [p_s 4 (.mov (.c (.r (.v (.bool false)))))])
 .ret)
 .skip)))
 (.reg [p_m 15 5, p_s 16 (.bin .add (.t 15) (o_i 1)), p_m 5 16]))))))
 (.seq (.reg [p_s 4 (.mov (.c (.r (.v (.bool true)))))])
 .ret))))
theorem apiaryref1_Same_triple : Fun P0 40 2 [(4, false, none)] apiaryref1_Same_pc := fun_mk Go.Proofs.Tryz.func40 rfl (by decide) (by kernel_rfl) (by decide) rfl (by kernel_rfl) (by kernel_rfl) (by decide)
noncomputable def apiaryref9_SameRing_pc : PC :=
  (.seq (.reg [p_s 4 (.mov (.c (.r (.v (.bool false)))))])
 (.seq (.seq (.reg [p_m 6 0, p_s 7 (.len false (.t 6)), p_m 8 1, p_s 9 (.len false (.t 8)), p_s 10 (.bin .neq (.t 7) (.t 9))])
 (.cond (.t 10)
 (.seq (.reg [p_s 4 (.mov (.c (.r (.v (.bool false)))))])
 .ret)
 .skip))
 (.seq (.seq (.reg [p_s 5 (.mov (o_i 0))])
 (.block 0 (.loop (.seq (.seq (.reg [p_m 11 5, p_m 12 0, p_s 13 (.len false (.t 12)), p_s 14 (.bin .lss (.t 11) (.t 13))])
 (.cond (.t 14)
 .skip
 (.exit 0)))
 (.seq (.block 1 (.seq (.drw [p_m 17 0, p_m 18 5, p_s 19 (.ia 2 (.agg [(.v (.int .i64 0)), (.v (.int .i64 0))]) (.t 17) (.t 18)), p_s 20 (.ld (some 2) (.t 19)), p_m 21 1, p_m 22 5, p_s 23 (.ia 2 (.agg [(.v (.int .i64 0)), (.v (.int .i64 0))]) (.t 21) (.t 22)),
 p_s 24 (.ld (some 2) (.t 23)), p_s 25 (.eqa true [0, 0] (.t 20) (.t 24))]
 [[], [], [0, 1], [0, 1, 2], [], [], [4, 5], [4, 5, 6], [0, 1, 2, 3, 4, 5, 6, 7]])
 (.cond (.t 25)
 (.seq (.reg [p_s 4 (.mov (.c (.r (.v (.bool false)))))])
 .ret)
 .skip)))
 (.reg [p_m 15 5, p_s 16 (.bin .add (.t 15) (o_i 1)), p_m 5 16]))))))
 (.seq (.reg [p_s 4 (.mov (.c (.r (.v (.bool true)))))])
 .ret))))
theorem apiaryref9_SameRing_triple : Fun P0 41 2 [(4, false, none)] apiaryref9_SameRing_pc := fun_mk Go.Proofs.Tryz.func41 rfl (by decide) (by kernel_rfl) (by decide) rfl (by kernel_rfl) (by kernel_rfl) (by decide)
noncomputable def apiaryref13_SameOps_pc : PC :=
  (.seq (.reg [p_s 4 (.mov (.c (.r (.v (.bool false)))))])
 (.seq (.seq (.reg [p_m 6 0, p_s 7 (.len false (.t 6)), p_m 8 1, p_s 9 (.len false (.t 8)), p_s 10 (.bin .neq (.t 7) (.t 9))])
 (.cond (.t 10)
 (.seq (.reg [p_s 4 (.mov (.c (.r (.v (.bool false)))))])
 .ret)
 .skip))
 (.seq (.seq (.reg [p_s 5 (.mov (o_i 0))])
 (.block 0 (.loop (.seq (.seq (.reg [p_m 11 5, p_m 12 0, p_s 13 (.len false (.t 12)), p_s 14 (.bin .lss (.t 11) (.t 13))])
 (.cond (.t 14)
 .skip
 (.exit 0)))
 (.seq (.block 1 (.seq (.drw [p_m 17 0, p_m 18 5, p_s 19 (.ia 5 (.agg [(.v (.int .i64 0)), (.v (.int .i64 0)), (.v (.int .i64 0)), (.v (.int .i64 0)), (.v (.int .i64 0))]) (.t 17) (.t 18)), p_s 20 (.ld (some 5) (.t 19)),
 p_m 21 1, p_m 22 5, p_s 23 (.ia 5 (.agg [(.v (.int .i64 0)), (.v (.int .i64 0)), (.v (.int .i64 0)), (.v (.int .i64 0)), (.v (.int .i64 0))]) (.t 21) (.t 22)), p_s 24 (.ld (some 5) (.t 23)),
 p_s 25 (.eqa true [0, 0, 0, 0, 0] (.t 20) (.t 24))]
 [[], [], [0, 1], [0, 1, 2], [], [], [4, 5], [4, 5, 6], [0, 1, 2, 3, 4, 5, 6, 7]])
 (.cond (.t 25)
 (.seq (.reg [p_s 4 (.mov (.c (.r (.v (.bool false)))))])
 .ret)
 .skip)))
 (.reg [p_m 15 5, p_s 16 (.bin .add (.t 15) (o_i 1)), p_m 5 16]))))))
 (.seq (.reg [p_s 4 (.mov (.c (.r (.v (.bool true)))))])
 .ret))))
theorem apiaryref13_SameOps_triple : Fun P0 42 2 [(4, false, none)] apiaryref13_SameOps_pc := fun_mk Go.Proofs.Tryz.func42 rfl (by decide) (by kernel_rfl) (by decide) rfl (by kernel_rfl) (by kernel_rfl) (by decide)
noncomputable def apiaryref21_SameAsk_pc : PC :=
  (.seq (.reg [p_a 2 (.box (.t 0)), p_a 3 (.box (.t 1)), p_s 4 (.mov (.c (.r (.v (.bool false)))))])
 (.seq (.seq (.reg [p_s 6 (.fa 0 (.t 2)), p_s 7 (.ld none (.t 6)), p_s 8 (.fa 0 (.t 3)), p_s 9 (.ld none (.t 8)), p_s 10 (.bin .neq (.t 7) (.t 9)), p_m 11 10, p_g 12 11 false (.fa 1 (.t 2)),
 p_g 13 11 false (.ld none (.t 12)), p_g 14 11 false (.len false (.t 13)), p_g 15 11 false (.fa 1 (.t 3)), p_g 16 11 false (.ld none (.t 15)), p_g 17 11 false (.len false (.t 16)),
 p_g 18 11 false (.bin .neq (.t 14) (.t 17)), p_s 19 (.pick (.t 11) (.c (.r (.v (.bool true)))) (.t 18)), p_m 20 19, p_g 21 20 false (.fa 2 (.t 2)), p_g 22 20 false (.ld none (.t 21)),
 p_g 23 20 false (.fa 2 (.t 3)), p_g 24 20 false (.ld none (.t 23)), ⟨(some 25), (some (20, false)), 1, .call 40 [(.t 22), (.t 24)]⟩, p_g 26 20 false (.un .not (.t 25)),
 p_s 27 (.pick (.t 20) (.c (.r (.v (.bool true)))) (.t 26)), p_m 28 27, p_g 29 28 false (.fa 3 (.t 2)), p_g 30 28 false (.ld none (.t 29)), p_g 31 28 false (.fa 3 (.t 3)),
 p_g 32 28 false (.ld none (.t 31)), ⟨(some 33), (some (28, false)), 2, .call 41 [(.t 30), (.t 32)]⟩, p_g 34 28 false (.un .not (.t 33)), p_s 35 (.pick (.t 28) (.c (.r (.v (.bool true)))) (.t 34)),
 p_m 36 35, p_g 37 36 false (.fa 4 (.t 2)), p_g 38 36 false (.ld none (.t 37)), p_g 39 36 false (.fa 4 (.t 3)), p_g 40 36 false (.ld none (.t 39)), ⟨(some 41), (some (36, false)), 3, .call 42 [(.t 38), (.t 40)]⟩,
 p_g 42 36 false (.un .not (.t 41)), p_s 43 (.pick (.t 36) (.c (.r (.v (.bool true)))) (.t 42))])
 (.cond (.t 43)
 (.seq (.reg [p_s 4 (.mov (.c (.r (.v (.bool false)))))])
 .ret)
 .skip))
 (.seq (.seq (.reg [p_s 5 (.mov (o_i 0))])
 (.block 0 (.loop (.seq (.seq (.reg [p_m 44 5, p_s 45 (.fa 1 (.t 2)), p_s 46 (.ld none (.t 45)), p_s 47 (.len false (.t 46)), p_s 48 (.bin .lss (.t 44) (.t 47))])
 (.cond (.t 48)
 .skip
 (.exit 0)))
 (.seq (.block 1 (.seq (.drw [p_s 51 (.fa 1 (.t 2)), p_s 52 (.ld none (.t 51)), p_m 53 5, p_s 54 (.ia 1 (.v (.int .i64 0)) (.t 52) (.t 53)), p_s 55 (.ld none (.t 54)), p_s 56 (.fa 1 (.t 3)),
 p_s 57 (.ld none (.t 56)), p_m 58 5, p_s 59 (.ia 1 (.v (.int .i64 0)) (.t 57) (.t 58)), p_s 60 (.ld none (.t 59)), p_s 61 (.bin .neq (.t 55) (.t 60))]
 [[], [0], [], [0, 1, 2], [0, 1, 2, 3], [], [5], [], [5, 6, 7], [5, 6, 7, 8], [0, 1, 2, 3, 4, 5, 6, 7, 8, 9]])
 (.cond (.t 61)
 (.seq (.reg [p_s 4 (.mov (.c (.r (.v (.bool false)))))])
 .ret)
 .skip)))
 (.reg [p_m 49 5, p_s 50 (.bin .add (.t 49) (o_i 1)), p_m 5 50]))))))
 (.seq (.reg [p_s 4 (.mov (.c (.r (.v (.bool true)))))])
 .ret))))
theorem apiaryref21_SameAsk_triple : Fun P0 18 2 [(4, false, none)] apiaryref21_SameAsk_pc := fun_mk Go.Proofs.Tryz.func18 rfl (by decide) (by kernel_rfl) (by decide) rfl (by kernel_rfl) (by kernel_rfl) (by decide)
structure Op5 where
 k : Int
 key : Int
 x : Int
 y : Int
 v : Int
deriving DecidableEq
def opR (o : Op5) : RV := .agg [n8 o.k, n8 o.key, n8 o.x, n8 o.y, n8 o.v]
theorem same_step {α : Type} [DecidableEq α] (a b : List α) (i : Nat) (hi : i < a.length) (hj : i < b.length) : (decide (a.drop i = b.drop i)) = (decide (a[i] = b[i]) && decide (a.drop (i + 1) = b.drop (i + 1))) := by
 have h : a.drop i = b.drop i ↔ a[i] = b[i] ∧ a.drop (i + 1) = b.drop (i + 1) := by
  conv => lhs; rw [zau hi, zau hj]
  rw [List.cons.injEq]
 rw [zaq, Bool.and_eq_true, decide_eq_true_eq, decide_eq_true_eq, decide_eq_true_eq, h]
def askR (k : Int) (ns : List Int) (ws : List Nat) (rg : List (Int × Int)) (os : List Op5) : RV := .agg [n8 k, .sl 1 (ns.map n8), .sl 1 (ws.map u8R), .sl 2 (rg.map ptR), .sl 5 (os.map opR)]
theorem asame_t (a b : List (Nat)) (ha : a.length ≤ 140737488355328) : Triple P0 40 [.r (.sl 1 (a.map u8R)), .r (.sl 1 (b.map u8R))] [] (bl (decide (a = b))) [] := by
 refine apiaryref1_Same_triple rfl (by decide) ?_
 simp only [apiaryref1_Same_pc, push_cast, ↓reduceIte, reduceCtorEq, zB, zE, zA, zS, zL, zD, zM]
 refine cnd_mk (fun hb => ?_) (fun hb => ?_)
 ·have hn : a.length ≠ b.length := fun h => by simp [h] at hb
  have : decide (a = b) = false := decide_eq_false fun h => hn (by rw [h])
  rw [this]
  simp only [push_cast, ↓reduceIte, reduceCtorEq, zB, zE, zA, zS, zL, zD, zM]
 ·have hl : a.length = b.length := by
   have : ((a.length : Nat) : Int) = b.length := by simpa using hb
   omega
  simp only [push_cast, ↓reduceIte, reduceCtorEq, zB, zE, zA, zS, zL, zD, zM]
  refine run_loop [(0, false), (1, false), (5, false)] (fun vs pos los => ∃ i : Nat, i ≤ a.length ∧ decide (a.drop i = b.drop i) = decide (a = b) ∧ vs = [.r (.sl 1 (a.map u8R)), .r (.sl 1 (b.map u8R)), int .i64 i] ∧ pos = [] ∧ los = [])
   (fun vs _ _ => match vs with | [_, _, .r (.v (.int _ j))] => (a.length - j).toNat | _ => 0) rfl ?_ ?_
  ·simp only [push_cast, ↓reduceIte, reduceCtorEq, zB, zE, zA, zS, zL, zD, zM]
   exact ⟨0, by omega, rfl, rfl⟩
  ·rintro vs pos los ⟨i, i0, hh, rfl, rfl, rfl⟩
   simp only [push_cast, ↓reduceIte, reduceCtorEq, zB, zE, zA, zS, zL, zD, zM]
   refine cnd_mk (fun hi => ?_) (fun hi => ?_)
   ·have hi : i < a.length := by simpa using hi
    have hj : i < b.length := by omega
    rw [same_step a b i hi hj] at hh
    obtain ⟨x, hx⟩ : ∃ x, a[i] = x := ⟨_, rfl⟩
    obtain ⟨y, hy⟩ : ∃ y, b[i] = y := ⟨_, rfl⟩
    have g1 : ∀ z, (a.map u8R).getD i z = .v (.int .u64 x) := fun z => by rw [zah]; simp [hi, hx, u8R]
    have g2 : ∀ z, (b.map u8R).getD i z = .v (.int .u64 y) := fun z => by rw [zah]; simp [hj, hy, u8R]
    have w1 : IntKind.i64.wrap ((i : Int) + 1) = (i : Int) + 1 := wrap_id (by omega)
    rw [hx, hy] at hh
    simp only [g1, g2, w1, zaa, zab, zac, push_cast, ↓reduceIte, reduceCtorEq, zB, zE, zA, zS, zL, zD, zM]
    refine ⟨by omega, by omega, ?_⟩
    repeat refine And.intro (by kernel_rfl) ?_
    refine cnd_mk (fun hc => ?_) (fun hc => ?_)
    ·have hne : decide (x = y) = false := by
      refine decide_eq_false fun e => ?_
      subst e
      simp at hc
     rw [hne] at hh
     rw [← hh]
     simp only [zag, push_cast, ↓reduceIte, reduceCtorEq, zB, zE, zA, zS, zL, zD, zM]
    ·have heq : decide (x = y) = true := by
      simp at hc
      simp; omega
     rw [heq, Bool.true_and] at hh
     simp only [w1, push_cast, ↓reduceIte, reduceCtorEq, zB, zE, zA, zS, zL, zD, zM]
     exact ⟨⟨i + 1, by omega, hh, by simp⟩, by omega⟩
   ·have hi : i = a.length := zao i0 (by simpa using hi)
    subst hi
    have : decide (a = b) = true := by
     rw [← hh]
     rw [zam (by omega), zam (by omega)]
     rfl
    rw [this]
    simp only [push_cast, ↓reduceIte, reduceCtorEq, zB, zE, zA, zS, zL, zD, zM]
theorem sring_t (a b : List (Int × Int)) (ha : a.length ≤ 140737488355328) : Triple P0 41 [.r (.sl 2 (a.map ptR)), .r (.sl 2 (b.map ptR))] [] (bl (decide (a = b))) [] := by
 refine apiaryref9_SameRing_triple rfl (by decide) ?_
 simp only [apiaryref9_SameRing_pc, push_cast, ↓reduceIte, reduceCtorEq, zB, zE, zA, zS, zL, zD, zM]
 refine cnd_mk (fun hb => ?_) (fun hb => ?_)
 ·have hn : a.length ≠ b.length := fun h => by simp [h] at hb
  have : decide (a = b) = false := decide_eq_false fun h => hn (by rw [h])
  rw [this]
  simp only [push_cast, ↓reduceIte, reduceCtorEq, zB, zE, zA, zS, zL, zD, zM]
 ·have hl : a.length = b.length := by
   have : ((a.length : Nat) : Int) = b.length := by simpa using hb
   omega
  simp only [push_cast, ↓reduceIte, reduceCtorEq, zB, zE, zA, zS, zL, zD, zM]
  refine run_loop [(0, false), (1, false), (5, false)] (fun vs pos los => ∃ i : Nat, i ≤ a.length ∧ decide (a.drop i = b.drop i) = decide (a = b) ∧ vs = [.r (.sl 2 (a.map ptR)), .r (.sl 2 (b.map ptR)), int .i64 i] ∧ pos = [] ∧ los = [])
   (fun vs _ _ => match vs with | [_, _, .r (.v (.int _ j))] => (a.length - j).toNat | _ => 0) rfl ?_ ?_
  ·simp only [push_cast, ↓reduceIte, reduceCtorEq, zB, zE, zA, zS, zL, zD, zM]
   exact ⟨0, by omega, rfl, rfl⟩
  ·rintro vs pos los ⟨i, i0, hh, rfl, rfl, rfl⟩
   simp only [push_cast, ↓reduceIte, reduceCtorEq, zB, zE, zA, zS, zL, zD, zM]
   refine cnd_mk (fun hi => ?_) (fun hi => ?_)
   ·have hi : i < a.length := by simpa using hi
    have hj : i < b.length := by omega
    rw [same_step a b i hi hj] at hh
    obtain ⟨⟨x1, x2⟩, hx⟩ : ∃ x, a[i] = x := ⟨_, rfl⟩
    obtain ⟨⟨y1, y2⟩, hy⟩ : ∃ y, b[i] = y := ⟨_, rfl⟩
    have g1 : ∀ z, (a.map ptR).getD i z = .agg [.v (.int .i64 x1), .v (.int .i64 x2)] := fun z => by rw [zah]; simp [hi, hx, ptR]
    have g2 : ∀ z, (b.map ptR).getD i z = .agg [.v (.int .i64 y1), .v (.int .i64 y2)] := fun z => by rw [zah]; simp [hj, hy, ptR]
    have w1 : IntKind.i64.wrap ((i : Int) + 1) = (i : Int) + 1 := wrap_id (by omega)
    rw [hx, hy] at hh
    simp only [g1, g2, w1, zaa, zab, zac, push_cast, ↓reduceIte, reduceCtorEq, zB, zE, zA, zS, zL, zD, zM]
    refine ⟨by omega, by omega, ?_⟩
    repeat refine And.intro (by kernel_rfl) ?_
    refine cnd_mk (fun hc => ?_) (fun hc => ?_)
    ·have hne : decide (((x1, x2) : Int × Int) = (y1, y2)) = false := by
      refine decide_eq_false fun e => ?_
      cases e
      simp at hc
     rw [hne] at hh
     rw [← hh]
     simp only [zag, push_cast, ↓reduceIte, reduceCtorEq, zB, zE, zA, zS, zL, zD, zM]
    ·have heq : decide (((x1, x2) : Int × Int) = (y1, y2)) = true := by
      simp at hc
      simp [hc]
     rw [heq, Bool.true_and] at hh
     simp only [w1, push_cast, ↓reduceIte, reduceCtorEq, zB, zE, zA, zS, zL, zD, zM]
     exact ⟨⟨i + 1, by omega, hh, by simp⟩, by omega⟩
   ·have hi : i = a.length := zao i0 (by simpa using hi)
    subst hi
    have : decide (a = b) = true := by
     rw [← hh]
     rw [zam (by omega), zam (by omega)]
     rfl
    rw [this]
    simp only [push_cast, ↓reduceIte, reduceCtorEq, zB, zE, zA, zS, zL, zD, zM]
theorem sops_t (a b : List (Op5)) (ha : a.length ≤ 140737488355328) : Triple P0 42 [.r (.sl 5 (a.map opR)), .r (.sl 5 (b.map opR))] [] (bl (decide (a = b))) [] := by
 refine apiaryref13_SameOps_triple rfl (by decide) ?_
 simp only [apiaryref13_SameOps_pc, push_cast, ↓reduceIte, reduceCtorEq, zB, zE, zA, zS, zL, zD, zM]
 refine cnd_mk (fun hb => ?_) (fun hb => ?_)
 ·have hn : a.length ≠ b.length := fun h => by simp [h] at hb
  have : decide (a = b) = false := decide_eq_false fun h => hn (by rw [h])
  rw [this]
  simp only [push_cast, ↓reduceIte, reduceCtorEq, zB, zE, zA, zS, zL, zD, zM]
 ·have hl : a.length = b.length := by
   have : ((a.length : Nat) : Int) = b.length := by simpa using hb
   omega
  simp only [push_cast, ↓reduceIte, reduceCtorEq, zB, zE, zA, zS, zL, zD, zM]
  refine run_loop [(0, false), (1, false), (5, false)] (fun vs pos los => ∃ i : Nat, i ≤ a.length ∧ decide (a.drop i = b.drop i) = decide (a = b) ∧ vs = [.r (.sl 5 (a.map opR)), .r (.sl 5 (b.map opR)), int .i64 i] ∧ pos = [] ∧ los = [])
   (fun vs _ _ => match vs with | [_, _, .r (.v (.int _ j))] => (a.length - j).toNat | _ => 0) rfl ?_ ?_
  ·simp only [push_cast, ↓reduceIte, reduceCtorEq, zB, zE, zA, zS, zL, zD, zM]
   exact ⟨0, by omega, rfl, rfl⟩
  ·rintro vs pos los ⟨i, i0, hh, rfl, rfl, rfl⟩
   simp only [push_cast, ↓reduceIte, reduceCtorEq, zB, zE, zA, zS, zL, zD, zM]
   refine cnd_mk (fun hi => ?_) (fun hi => ?_)
   ·have hi : i < a.length := by simpa using hi
    have hj : i < b.length := by omega
    rw [same_step a b i hi hj] at hh
    obtain ⟨⟨x1, x2, x3, x4, x5⟩, hx⟩ : ∃ x, a[i] = x := ⟨_, rfl⟩
    obtain ⟨⟨y1, y2, y3, y4, y5⟩, hy⟩ : ∃ y, b[i] = y := ⟨_, rfl⟩
    have g1 : ∀ z, (a.map opR).getD i z = .agg [.v (.int .i64 x1), .v (.int .i64 x2), .v (.int .i64 x3), .v (.int .i64 x4), .v (.int .i64 x5)] := fun z => by rw [zah]; simp [hi, hx, opR, n8]
    have g2 : ∀ z, (b.map opR).getD i z = .agg [.v (.int .i64 y1), .v (.int .i64 y2), .v (.int .i64 y3), .v (.int .i64 y4), .v (.int .i64 y5)] := fun z => by rw [zah]; simp [hj, hy, opR, n8]
    have w1 : IntKind.i64.wrap ((i : Int) + 1) = (i : Int) + 1 := wrap_id (by omega)
    rw [hx, hy] at hh
    simp only [g1, g2, w1, zaa, zab, zac, push_cast, ↓reduceIte, reduceCtorEq, zB, zE, zA, zS, zL, zD, zM]
    refine ⟨by omega, by omega, ?_⟩
    repeat refine And.intro (by kernel_rfl) ?_
    refine cnd_mk (fun hc => ?_) (fun hc => ?_)
    ·have hne : decide ((⟨x1, x2, x3, x4, x5⟩ : Op5) = ⟨y1, y2, y3, y4, y5⟩) = false := by
      refine decide_eq_false fun e => ?_
      cases e
      simp at hc
     rw [hne] at hh
     rw [← hh]
     simp only [zag, push_cast, ↓reduceIte, reduceCtorEq, zB, zE, zA, zS, zL, zD, zM]
    ·have heq : decide ((⟨x1, x2, x3, x4, x5⟩ : Op5) = ⟨y1, y2, y3, y4, y5⟩) = true := by
      simp at hc
      simp [hc]
     rw [heq, Bool.true_and] at hh
     simp only [w1, push_cast, ↓reduceIte, reduceCtorEq, zB, zE, zA, zS, zL, zD, zM]
     exact ⟨⟨i + 1, by omega, hh, by simp⟩, by omega⟩
   ·have hi : i = a.length := zao i0 (by simpa using hi)
    subst hi
    have : decide (a = b) = true := by
     rw [← hh]
     rw [zam (by omega), zam (by omega)]
     rfl
    rw [this]
    simp only [push_cast, ↓reduceIte, reduceCtorEq, zB, zE, zA, zS, zL, zD, zM]
def sameB (k : Int) (ns : List Int) (ws : List Nat) (rg : List (Int × Int)) (os : List Op5) (k' : Int) (ns' : List Int) (ws' : List Nat) (rg' : List (Int × Int)) (os' : List Op5) : Bool :=
 decide (k = k') && decide (ns.length = ns'.length) && decide (ws = ws') && decide (rg = rg') && decide (os = os') && decide (ns = ns')
theorem sameask_t (k : Int) (ns : List Int) (ws : List Nat) (rg : List (Int × Int)) (os : List Op5) (k' : Int) (ns' : List Int) (ws' : List Nat) (rg' : List (Int × Int)) (os' : List Op5) (h1 : ns.length ≤ 1000000000) (h2 : ws.length ≤ 1000000000) (h3 : rg.length ≤ 1000000000) (h4 : os.length ≤ 1000000000) :
  Triple P0 18 [.r (askR k ns ws rg os), .r (askR k' ns' ws' rg' os')] [] (bl (sameB k ns ws rg os k' ns' ws' rg' os')) [] := by
 refine apiaryref21_SameAsk_triple rfl (by decide) ?_
 have e1 : (k != k') = !decide (k = k') := by rw [zaq]; simp
 have e2 : (((ns.length : Nat) : Int) != ((ns'.length : Nat) : Int)) = !decide (ns.length = ns'.length) := by rw [zaq]; simp; omega
 unfold sameB
 obtain ⟨K, hK⟩ : ∃ K, decide (k = k') = K := ⟨_, rfl⟩
 obtain ⟨N, hN⟩ : ∃ N, decide (ns.length = ns'.length) = N := ⟨_, rfl⟩
 rw [hK] at e1 ⊢
 rw [hN] at e2 ⊢
 have fin : ∀ b : Bool, b = true → (b && false) = false := fun b _ => by simp
 cases K with
 | false =>
  simp only [apiaryref21_SameAsk_pc, askR, n8, e1, e2, zag, push_cast, ↓reduceIte, reduceCtorEq, zB, zE, zA, zS, zL, zD, zM]
 | true =>
  cases N with
  | false =>
   simp only [apiaryref21_SameAsk_pc, askR, n8, e1, e2, zag, push_cast, ↓reduceIte, reduceCtorEq, zB, zE, zA, zS, zL, zD, zM]
  | true =>
   simp only [apiaryref21_SameAsk_pc, askR, n8, e1, e2, zag, push_cast, ↓reduceIte, reduceCtorEq, zB, zE, zA, zS, zL, zD, zM]
   refine call_as (as' := [.r (.sl 1 (ws.map u8R)), .r (.sl 1 (ws'.map u8R))]) rfl ?_
   refine call_mk (asame_t ws ws' (by omega)) rfl trivial ?_
   obtain ⟨W, hW⟩ : ∃ W, decide (ws = ws') = W := ⟨_, rfl⟩
   rw [hW]
   cases W with
   | false => simp only [zag, push_cast, ↓reduceIte, reduceCtorEq, zB, zE, zA, zS, zL, zD, zM]
   | true =>
    simp only [zag, push_cast, ↓reduceIte, reduceCtorEq, zB, zE, zA, zS, zL, zD, zM]
    refine call_as (as' := [.r (.sl 2 (rg.map ptR)), .r (.sl 2 (rg'.map ptR))]) rfl ?_
    refine call_mk (sring_t rg rg' (by omega)) rfl trivial ?_
    obtain ⟨G, hG⟩ : ∃ G, decide (rg = rg') = G := ⟨_, rfl⟩
    rw [hG]
    cases G with
    | false => simp only [zag, push_cast, ↓reduceIte, reduceCtorEq, zB, zE, zA, zS, zL, zD, zM]
    | true =>
     simp only [zag, push_cast, ↓reduceIte, reduceCtorEq, zB, zE, zA, zS, zL, zD, zM]
     refine call_as (as' := [.r (.sl 5 (os.map opR)), .r (.sl 5 (os'.map opR))]) rfl ?_
     refine call_mk (sops_t os os' (by omega)) rfl trivial ?_
     obtain ⟨O, hO⟩ : ∃ O, decide (os = os') = O := ⟨_, rfl⟩
     rw [hO]
     cases O with
     | false => simp only [zag, push_cast, ↓reduceIte, reduceCtorEq, zB, zE, zA, zS, zL, zD, zM]
     | true =>
      have hl : ns.length = ns'.length := of_decide_eq_true hN
      simp only [zag, push_cast, ↓reduceIte, reduceCtorEq, zB, zE, zA, zS, zL, zD, zM]
      refine run_loop [(2, false), (3, false), (5, false)] (fun vs pos los => ∃ i : Nat, i ≤ ns.length ∧ decide (ns.drop i = ns'.drop i) = decide (ns = ns') ∧ vs = [.ptr 2000000 0 0, .ptr 2000001 0 0, int .i64 i] ∧ pos = [] ∧ los = [.box [int .i64 k, .r (.sl 1 (ns.map n8)), .r (.sl 1 (ws.map u8R)), .r (.sl 2 (rg.map ptR)), .r (.sl 5 (os.map opR))], .box [int .i64 k', .r (.sl 1 (ns'.map n8)), .r (.sl 1 (ws'.map u8R)), .r (.sl 2 (rg'.map ptR)), .r (.sl 5 (os'.map opR))]])
       (fun vs _ _ => match vs with | [_, _, .r (.v (.int _ j))] => (ns.length - j).toNat | _ => 0) rfl ?_ ?_
      ·simp only [push_cast, ↓reduceIte, reduceCtorEq, zB, zE, zA, zS, zL, zD, zM]
       exact ⟨0, by omega, rfl, rfl⟩
      ·rintro vs pos los ⟨i, i0, hh, rfl, rfl, rfl⟩
       simp only [push_cast, ↓reduceIte, reduceCtorEq, zB, zE, zA, zS, zL, zD, zM]
       refine cnd_mk (fun hi => ?_) (fun hi => ?_)
       ·have hi : i < ns.length := by simpa using hi
        have hj : i < ns'.length := by omega
        rw [same_step ns ns' i hi hj] at hh
        obtain ⟨x, hx⟩ : ∃ x, ns[i] = x := ⟨_, rfl⟩
        obtain ⟨y, hy⟩ : ∃ y, ns'[i] = y := ⟨_, rfl⟩
        have g1 : ∀ z, (ns.map n8).getD i z = .v (.int .i64 x) := fun z => by rw [zah]; simp [hi, hx, n8]
        have g2 : ∀ z, (ns'.map n8).getD i z = .v (.int .i64 y) := fun z => by rw [zah]; simp [hj, hy, n8]
        have w1 : IntKind.i64.wrap ((i : Int) + 1) = (i : Int) + 1 := wrap_id (by omega)
        rw [hx, hy] at hh
        simp only [g1, g2, w1, zaa, zab, zac, push_cast, ↓reduceIte, reduceCtorEq, zB, zE, zA, zS, zL, zD, zM]
        refine ⟨by omega, by omega, ?_⟩
        repeat refine And.intro (by kernel_rfl) ?_
        refine cnd_mk (fun hc => ?_) (fun hc => ?_)
        ·have hne : decide (x = y) = false := by
          refine decide_eq_false fun e => ?_
          subst e
          simp at hc
         rw [hne] at hh
         rw [← hh]
         simp only [zag, push_cast, ↓reduceIte, reduceCtorEq, zB, zE, zA, zS, zL, zD, zM]
        ·have heq : decide (x = y) = true := by
          simp at hc
          simp [hc]
         rw [heq, Bool.true_and] at hh
         simp only [w1, push_cast, ↓reduceIte, reduceCtorEq, zB, zE, zA, zS, zL, zD, zM]
         exact ⟨⟨i + 1, by omega, hh, by simp⟩, by omega⟩
       ·have hi : i = ns.length := zao i0 (by simpa using hi)
        subst hi
        have : decide (ns = ns') = true := by
         rw [← hh]
         rw [zam (by omega), zam (by omega)]
         rfl
        rw [this]
        simp only [push_cast, ↓reduceIte, reduceCtorEq, zB, zE, zA, zS, zL, zD, zM]

noncomputable def rec_okKey_pc : PC :=
  (.seq (.reg [p_s 2 (.mov (.c (.r (.v (.bool false)))))])
 (.seq (.reg [p_m 3 0, p_s 4 (.bin .geq (.t 3) (o_i 1)), p_m 5 4, p_g 6 5 true (.mov (.t 0)), p_g 7 5 true (.bin .leq (.t 6) (o_i 2147483648)), p_s 8 (.pick (.t 5) (.t 7) (.c (.r (.v (.bool false))))),
 p_m 2 8])
 .ret))
theorem rec_okKey_triple : Fun P0 104 1 [(2, false, none)] rec_okKey_pc := fun_mk Go.Proofs.Tryz.func104 rfl (by decide) (by kernel_rfl) (by decide) rfl (by kernel_rfl) (by kernel_rfl) (by decide)
noncomputable def rec_Ok_1_pc : PC :=
  (.seq (.reg [p_s 2 (.mov (.c (.r (.v (.bool false)))))])
 (.seq (.reg [p_m 3 0, p_s 4 (.bin .geq (.t 3) (o_i 0)), p_m 5 4, p_g 6 5 true (.mov (.t 0)), p_g 7 5 true (.bin .lss (.t 6) (o_i 1073741824)), p_s 8 (.pick (.t 5) (.t 7) (.c (.r (.v (.bool false))))),
 p_m 2 8])
 .ret))
theorem rec_Ok_1_triple : Fun P0 121 1 [(2, false, none)] rec_Ok_1_pc := fun_mk Go.Proofs.Tryz.func121 rfl (by decide) (by kernel_rfl) (by decide) rfl (by kernel_rfl) (by kernel_rfl) (by decide)
noncomputable def rec_Ok_pc : PC :=
  (.seq (.reg [p_a 1 (.box (.t 0)), p_s 2 (.mov (.c (.r (.v (.bool false)))))])
 (.seq (.reg [p_s 3 (.mov (.c (.fn (.func 121) [])))])
 (.seq (.reg [p_s 4 (.fa 0 (.t 1)), p_s 5 (.ld none (.t 4)), p_c 6 1 104 [.t 5], p_m 7 6, p_g 8 7 true (.mov (.t 3)), p_g 9 7 true (.fa 1 (.t 1)), p_g 10 7 true (.ld none (.t 9)),
 ⟨(some 11), (some (7, true)), 2, .callv (.t 8) [(.t 10)]⟩, p_s 12 (.pick (.t 7) (.t 11) (.c (.r (.v (.bool false))))), p_m 13 12, p_g 14 13 true (.mov (.t 3)), p_g 15 13 true (.fa 2 (.t 1)),
 p_g 16 13 true (.ld none (.t 15)), ⟨(some 17), (some (13, true)), 3, .callv (.t 14) [(.t 16)]⟩, p_s 18 (.pick (.t 13) (.t 17) (.c (.r (.v (.bool false))))), p_m 19 18,
 p_g 20 19 true (.fa 3 (.t 1)), p_g 21 19 true (.ld none (.t 20)), p_g 22 19 true (.bin .geq (.t 21) (o_i (-2147483648))), p_s 23 (.pick (.t 19) (.t 22) (.c (.r (.v (.bool false))))),
 p_m 24 23, p_g 25 24 true (.fa 3 (.t 1)), p_g 26 24 true (.ld none (.t 25)), p_g 27 24 true (.bin .leq (.t 26) (o_i 2147483647)), p_s 28 (.pick (.t 24) (.t 27) (.c (.r (.v (.bool false))))),
 p_m 2 28])
 .ret)))
theorem rec_Ok_triple : Fun P0 103 1 [(2, false, none)] rec_Ok_pc := fun_mk Go.Proofs.Tryz.func103 rfl (by decide) (by kernel_rfl) (by decide) rfl (by kernel_rfl) (by kernel_rfl) (by decide)
noncomputable def rec_okOp_pc : PC :=
  (.seq (.reg [p_a 1 (.box (.t 0)), p_s 2 (.mov (.c (.r (.v (.bool false)))))])
 (.seq (.seq (.reg [p_s 3 (.fa 0 (.t 1)), p_s 4 (.ld none (.t 3))])
 (.block 0 (.seq (.reg [p_s 6 (.bin .eql (.t 4) (o_i 1)), p_m 5 6])
 (.cond (.t 5)
 (.seq (.reg [p_s 7 (.fa 1 (.t 1)), p_s 8 (.ld (some 4) (.t 7)), p_c 9 1 103 [.t 8], p_m 2 9])
 .ret)
 (.seq (.reg [p_s 11 (.bin .eql (.t 4) (o_i 2)), p_m 10 11])
 (.cond (.t 10)
 (.seq (.reg [p_s 12 (.fa 1 (.t 1)), p_s 13 (.fa 0 (.t 12)), p_s 14 (.ld none (.t 13)), p_c 15 2 104 [.t 14], p_m 16 15, p_g 17 16 true (.fa 1 (.t 1)), p_g 18 16 true (.ld (some 4) (.t 17)),
 p_g 19 16 true (.fa 1 (.t 1)), p_g 20 16 true (.fa 0 (.t 19)), p_g 21 16 true (.ld none (.t 20)), p_g 22 16 true (.build [(.r (.v (.int .i64 0))), (.r (.v (.int .i64 0))), (.r (.v (.int .i64 0))), (.r (.v (.int .i64 0)))] [(0, 1, (.t 21))]),
 p_g 23 16 true (.eqa false [0, 0, 0, 0] (.t 18) (.t 22)), p_s 24 (.pick (.t 16) (.t 23) (.c (.r (.v (.bool false))))), p_m 2 24])
 .ret)
 .skip))))))
 (.seq (.reg [p_s 2 (.mov (.c (.r (.v (.bool false)))))])
 .ret)))
theorem rec_okOp_triple : Fun P0 73 1 [(2, false, none)] rec_okOp_pc := fun_mk Go.Proofs.Tryz.func73 rfl (by decide) (by kernel_rfl) (by decide) rfl (by kernel_rfl) (by kernel_rfl) (by decide)
noncomputable def rec_Batch_1_pc : PC :=
  (.seq (.reg [p_a 1 (.box (.t 0)), p_s 2 (.mov (.c (.r (.v (.bool false)))))])
 (.seq (.reg [p_s 3 (.ld (some 5) (.t 1)), p_c 4 1 73 [.t 3], p_s 5 (.un .not (.t 4)), p_m 2 5])
 .ret))
theorem rec_Batch_1_triple : Fun P0 72 1 [(2, false, none)] rec_Batch_1_pc := fun_mk Go.Proofs.Tryz.func72 rfl (by decide) (by kernel_rfl) (by decide) rfl (by kernel_rfl) (by kernel_rfl) (by decide)
noncomputable def rec_Number_pc : PC :=
  (.seq (.reg [p_s 6 (.mov (.c (.nils 1 (.v (.int .u8 0)))))])
 (.seq (.seq (.reg [p_m 8 2, p_s 9 (.bin .sub (.t 8) (o_i 1)), p_m 7 9])
 (.block 0 (.loop (.seq (.seq (.reg [p_m 10 7, p_s 11 (.bin .geq (.t 10) (o_i 0))])
 (.cond (.t 11)
 .skip
 (.exit 0)))
 (.seq (.block 1 (.reg [p_m 14 0, p_m 15 1, p_m 16 7, p_s 17 (.bin .mul (o_i 8) (.t 16)), p_s 18 (.conv .u64 (.t 17)), p_s 19 (.bin .shr (.t 15) (.t 18)), p_s 20 (.conv .u8 (.t 19)), p_a 21 (.bsl 1 (.v (.int .u8 0)) [(.t 20)]),
 p_a 22 (.app 1 (.v (.int .u8 0)) 1 (.t 14) (.t 21)), p_m 0 22]))
 (.reg [p_m 12 7, p_s 13 (.bin .sub (.t 12) (o_i 1)), p_m 7 13]))))))
 (.seq (.reg [p_m 23 0, p_m 6 23])
 .ret)))
theorem rec_Number_triple : Fun P0 75 3 [(6, false, none)] rec_Number_pc := fun_mk Go.Proofs.Tryz.func75 rfl (by decide) (by kernel_rfl) (by decide) rfl (by kernel_rfl) (by kernel_rfl) (by decide)
noncomputable def rec_put_pc : PC :=
  (.seq (.reg [p_a 3 (.box (.t 1)), p_s 4 (.mov (.c (.nils 1 (.v (.int .u8 0)))))])
 (.seq (.seq (.reg [p_s 7 (.fa 0 (.t 3)), p_s 8 (.ld none (.t 7)), p_s 9 (.fa 1 (.t 3)), p_s 10 (.ld none (.t 9)), p_s 11 (.fa 2 (.t 3)), p_s 12 (.ld none (.t 11)), p_s 13 (.fa 3 (.t 3)),
 p_s 14 (.ld none (.t 13)), p_a 15 (.bsl 1 (.v (.int .i64 0)) [(.t 8), (.t 10), (.t 12), (.t 14)]), p_s 16 (.len false (.t 15)), p_s 17 (.mov (o_i 0))])
 (.block 0 (.loop (.seq (.reg [p_s 18 (.bin .lss (.t 17) (.t 16))])
 (.seq (.cond (.t 18)
 .skip
 (.exit 0))
 (.seq (.block 1 (.seq (.reg [p_s 19 (.ia 1 (.v (.int .i64 0)) (.t 15) (.t 17)), p_s 20 (.ld none (.t 19)), p_m 6 20])
 (.reg [p_m 21 0, p_m 22 6, p_s 23 (.conv .u64 (.t 22)), p_c 24 1 75 [(.t 21), (.t 23), (o_i 4)], p_m 0 24])))
 (.reg [p_s 25 (.bin .add (.t 17) (o_i 1)), p_m 17 25])))))))
 (.seq (.reg [p_m 26 0, p_m 4 26])
 .ret)))
theorem rec_put_triple : Fun P0 74 2 [(4, false, none)] rec_put_pc := fun_mk Go.Proofs.Tryz.func74 rfl (by decide) (by kernel_rfl) (by decide) rfl (by kernel_rfl) (by kernel_rfl) (by decide)
def keyB (k : Int) : Bool := decide (1 ≤ k ∧ k ≤ 2147483648)
def inWB (n : Int) : Bool := decide (0 ≤ n ∧ n < 1073741824)
def ptB (k x y v : Int) : Bool := keyB k && (inWB x && (inWB y && decide (-2147483648 ≤ v ∧ v ≤ 2147483647)))
def opB (o : Op5) : Bool := if o.k = 1 then ptB o.key o.x o.y o.v else if o.k = 2 then keyB o.key && decide (o.x = 0 ∧ o.y = 0 ∧ o.v = 0) else false
theorem okkey_t (k : Int) : Triple P0 104 [int .i64 k] [] (bl (keyB k)) [] := by
 refine rec_okKey_triple rfl (by decide) ?_
 have e : keyB k = (bif decide (k ≥ 1) then decide (k ≤ 2147483648) else false) := by
  unfold keyB
  by_cases h1 : 1 ≤ k <;> by_cases h2 : k ≤ 2147483648 <;> simp [h1, h2]
 simp only [rec_okKey_pc, e, push_cast, ↓reduceIte, reduceCtorEq, zB, zE, zA, zS, zL, zD, zM]
 repeat refine And.intro (by first | kernel_rfl | (simp; done) | omega) ?_
 done
theorem ok1_t (k : Int) : Triple P0 121 [int .i64 k] [] (bl (inWB k)) [] := by
 refine rec_Ok_1_triple rfl (by decide) ?_
 have e : inWB k = (bif decide (k ≥ 0) then decide (k < 1073741824) else false) := by
  unfold inWB
  by_cases h1 : 0 ≤ k <;> by_cases h2 : k < 1073741824 <;> simp [h1, h2]
 simp only [rec_Ok_1_pc, e, push_cast, ↓reduceIte, reduceCtorEq, zB, zE, zA, zS, zL, zD, zM]
 repeat refine And.intro (by first | kernel_rfl | (simp; done) | omega) ?_
 done
def ptR4 (k x y v : Int) : RV := .agg [n8 k, n8 x, n8 y, n8 v]
theorem rok_t (k x y v : Int) : Triple P0 103 [.r (ptR4 k x y v)] [] (bl (ptB k x y v)) [] := by
 have hfn : isFn P0 121 = true := rfl
 refine rec_Ok_triple rfl (by decide) ?_
 unfold ptB
 have t1 := okkey_t k
 have t2 := ok1_t x
 have t3 := ok1_t y
 obtain ⟨A, hA⟩ : ∃ A, keyB k = A := ⟨_, rfl⟩
 obtain ⟨B, hB⟩ : ∃ B, inWB x = B := ⟨_, rfl⟩
 obtain ⟨C, hC⟩ : ∃ C, inWB y = C := ⟨_, rfl⟩
 rw [hA] at t1 ⊢
 rw [hB] at t2 ⊢
 rw [hC] at t3 ⊢
 have e : decide (-2147483648 ≤ v ∧ v ≤ 2147483647) = (bif decide (v ≥ -2147483648) then decide (v ≤ 2147483647) else false) := by
  by_cases h1 : -2147483648 ≤ v <;> by_cases h2 : v ≤ 2147483647 <;> simp [h1, h2]
 simp only [rec_Ok_pc, ptR4, n8, hfn, e, push_cast, ↓reduceIte, reduceCtorEq, zB, zE, zA, zS, zL, zD, zM]
 refine call_mk t1 rfl trivial ?_
 cases A with
 | false => simp only [zag, push_cast, ↓reduceIte, reduceCtorEq, zB, zE, zA, zS, zL, zD, zM]
 | true =>
  simp only [hfn, push_cast, ↓reduceIte, reduceCtorEq, zB, zE, zA, zS, zL, zD, zM]
  refine call_mk t2 rfl trivial ?_
  cases B with
  | false => simp only [hfn, zag, push_cast, ↓reduceIte, reduceCtorEq, zB, zE, zA, zS, zL, zD, zM]
  | true =>
   simp only [hfn, push_cast, ↓reduceIte, reduceCtorEq, zB, zE, zA, zS, zL, zD, zM]
   refine call_mk t3 rfl trivial ?_
   cases C with
   | false => simp only [hfn, zag, push_cast, ↓reduceIte, reduceCtorEq, zB, zE, zA, zS, zL, zD, zM]
   | true =>
    simp only [hfn, push_cast, ↓reduceIte, reduceCtorEq, zB, zE, zA, zS, zL, zD, zM]
    repeat refine And.intro (by first | kernel_rfl | (simp; done) | (simp +contextual; done) | omega) ?_
    done
theorem okop_t (o : Op5) : Triple P0 73 [.r (opR o)] [] (bl (opB o)) [] := by
 obtain ⟨k, key, x, y, v⟩ := o
 refine rec_okOp_triple rfl (by decide) ?_
 have hpt : ∀ a b c d : Int, RV.agg [n8 a, n8 b, n8 c, n8 d] = ptR4 a b c d := fun _ _ _ _ => rfl
 simp only [rec_okOp_pc, opR, n8, opB, push_cast, ↓reduceIte, reduceCtorEq, zB, zE, zA, zS, zL, zD, zM]
 refine cnd_mk (fun hc => ?_) (fun hc => ?_)
 ·have hk : k = 1 := by simpa using hc
  subst hk
  simp only [↓reduceIte, push_cast, ↓reduceIte, reduceCtorEq, zB, zE, zA, zS, zL, zD, zM]
  refine call_as (as' := [.r (ptR4 key x y v)]) rfl ?_
  refine call_mk (rok_t key x y v) rfl trivial ?_
  simp only [push_cast, ↓reduceIte, reduceCtorEq, zB, zE, zA, zS, zL, zD, zM]
 ·have hk : k ≠ 1 := by simpa using hc
  rw [if_neg hk]
  simp only [push_cast, ↓reduceIte, reduceCtorEq, zB, zE, zA, zS, zL, zD, zM]
  refine cnd_mk (fun hc => ?_) (fun hc => ?_)
  ·have hk : k = 2 := by simpa using hc
   subst hk
   have t1 := okkey_t key
   obtain ⟨A, hA⟩ : ∃ A, keyB key = A := ⟨_, rfl⟩
   rw [hA] at t1 ⊢
   simp only [↓reduceIte, push_cast, ↓reduceIte, reduceCtorEq, zB, zE, zA, zS, zL, zD, zM]
   refine call_mk t1 rfl trivial ?_
   cases A with
   | false => simp only [zag, push_cast, ↓reduceIte, reduceCtorEq, zB, zE, zA, zS, zL, zD, zM]
   | true =>
    simp only [push_cast, ↓reduceIte, reduceCtorEq, zB, zE, zA, zS, zL, zD, zM]
    rw [show decide (x = 0 ∧ y = 0 ∧ v = 0) = (x == 0 && (y == 0 && v == 0)) from by rw [zaq]; simp]
  ·have hk : k ≠ 2 := by simpa using hc
   rw [if_neg hk]
   simp only [push_cast, ↓reduceIte, reduceCtorEq, zB, zE, zA, zS, zL, zD, zM]
theorem batch1_t (o : Op5) : Triple P0 72 [.r (opR o)] [] (bl (!opB o)) [] := by
 refine rec_Batch_1_triple rfl (by decide) ?_
 simp only [rec_Batch_1_pc, opR, n8, push_cast, ↓reduceIte, reduceCtorEq, zB, zE, zA, zS, zL, zD, zM]
 refine call_as (as' := [.r (opR o)]) rfl ?_
 refine call_mk (okop_t o) rfl trivial ?_
 simp only [push_cast, ↓reduceIte, reduceCtorEq, zB, zE, zA, zS, zL, zD, zM]
def num4 (n : Nat) : Bs := [zad (n / 16777216), zad (n / 65536), zad (n / 256), zad n]
theorem number_t (l : Bs) (n : Nat) (hn : n < 18446744073709551616) (hl : l.length ≤ 1000000000) : Triple P0 75 [.own 1000000 0 0 l.length, uw n, int .i64 4] [rowB l] (.own 1000000 0 0 (l ++ num4 n).length) [rowB (l ++ num4 n)] := by
 refine rec_Number_triple rfl (by simp) ?_
 simp only [rec_Number_pc, uw, push_cast, ↓reduceIte, reduceCtorEq, zB, zE, zA, zS, zL, zD, zM]
 refine run_loop [(0, false), (1, false), (7, false)] (fun vs pos los => ∃ (I : Int) (r : Bs), ((I = 3 ∧ r = []) ∨ (I = 2 ∧ r = [zad (n / 16777216)]) ∨ (I = 1 ∧ r = [zad (n / 16777216), zad (n / 65536)]) ∨ (I = 0 ∧ r = [zad (n / 16777216), zad (n / 65536), zad (n / 256)]) ∨ (I = -1 ∧ r = num4 n)) ∧
   vs = [.own 1000000 0 0 (l ++ r).length, uw n, int .i64 I] ∧ pos = [rowB (l ++ r)] ∧ los = [])
  (fun vs _ _ => match vs with | [_, _, .r (.v (.int _ j))] => (j + 1).toNat | _ => 0) rfl ?_ ?_
 ·simp only [push_cast, ↓reduceIte, reduceCtorEq, zB, zE, zA, zS, zL, zD, zM]
  exact ⟨3, [], .inl ⟨rfl, rfl⟩, by simp [uw]; rfl, by simp⟩
 ·rintro vs pos los ⟨I, r, hj, rfl, rfl, rfl⟩
  have hb : ∀ m : Nat, (IntKind.u8.wrap ((m : Nat) : Int)) = (((zad m).toNat : Nat) : Int) := fun m => by
   rw [IntKind.wrap_u8, UInt8.toNat_ofNat']
   omega
  have s3 : ((n : Int).fdiv (2 ^ min (zae 24) IntKind.u64.bits)) = ((n / 16777216 : Nat) : Int) := shr_u n 24 (by decide)
  have s2 : ((n : Int).fdiv (2 ^ min (zae 16) IntKind.u64.bits)) = ((n / 65536 : Nat) : Int) := shr_u n 16 (by decide)
  have s1 : ((n : Int).fdiv (2 ^ min (zae 8) IntKind.u64.bits)) = ((n / 256 : Nat) : Int) := shr_u n 8 (by decide)
  have s0 : ((n : Int).fdiv (2 ^ min (zae 0) IntKind.u64.bits)) = ((n : Nat) : Int) := by rw [show zae 0 = 0 from rfl, shr_u n 0 (by decide)]; simp
  have hmax := maxLen_big
  have htk : ∀ (a b : Bs) (m : Nat), m = a.length + b.length → zal m (bys (a ++ b)) = bys (a ++ b) := fun a b m h => zap (by simp; omega)
  rcases hj with ⟨rfl, rfl⟩ | ⟨rfl, rfl⟩ | ⟨rfl, rfl⟩ | ⟨rfl, rfl⟩ | ⟨rfl, rfl⟩
  ·simp only [uw, push_cast, ↓reduceIte, reduceCtorEq, zB, zE, zA, zS, zL, zD, zM]
   refine cnd_mk (fun hc => ?_) (fun hc => ?_)
   ·have w1 : IntKind.u64.wrap (IntKind.i64.wrap (8 * 3)) = 24 := rfl
    have w2 : IntKind.i64.wrap (3 - 1) = 2 := rfl
    simp only [uw, w1, w2, s3, s2, s1, s0, hb, push_cast, ↓reduceIte, reduceCtorEq, zB, zE, zA, zS, zL, zD, zM]
    refine ⟨by decide, by simp, ⟨by omega, by omega⟩, ⟨2, [zad (n / 16777216)], .inr (.inl ⟨rfl, rfl⟩), by simp [uw], ?_⟩, by decide⟩
    simp [by8, num4, IntKind.wrap_u8]
   ·simp at hc
  ·simp only [uw, push_cast, ↓reduceIte, reduceCtorEq, zB, zE, zA, zS, zL, zD, zM]
   refine cnd_mk (fun hc => ?_) (fun hc => ?_)
   ·have w1 : IntKind.u64.wrap (IntKind.i64.wrap (8 * 2)) = 16 := rfl
    have w2 : IntKind.i64.wrap (2 - 1) = 1 := rfl
    have t := htk l [zad (n / 16777216)] (l.length + 1) rfl
    simp only [uw, w1, w2, s3, s2, s1, s0, hb, t, push_cast, ↓reduceIte, reduceCtorEq, zB, zE, zA, zS, zL, zD, zM]
    refine ⟨by decide, by simp, ⟨by omega, by omega⟩, ⟨1, [zad (n / 16777216), zad (n / 65536)], .inr (.inr (.inl ⟨rfl, rfl⟩)), by simp [uw], ?_⟩, by decide⟩
    simp [by8, num4, IntKind.wrap_u8]
   ·simp at hc
  ·simp only [uw, push_cast, ↓reduceIte, reduceCtorEq, zB, zE, zA, zS, zL, zD, zM]
   refine cnd_mk (fun hc => ?_) (fun hc => ?_)
   ·have w1 : IntKind.u64.wrap (IntKind.i64.wrap (8 * 1)) = 8 := rfl
    have w2 : IntKind.i64.wrap (1 - 1) = 0 := rfl
    have t := htk l [zad (n / 16777216), zad (n / 65536)] (l.length + 2) rfl
    simp only [uw, w1, w2, s3, s2, s1, s0, hb, t, push_cast, ↓reduceIte, reduceCtorEq, zB, zE, zA, zS, zL, zD, zM]
    refine ⟨by decide, by simp, ⟨by omega, by omega⟩, ⟨0, [zad (n / 16777216), zad (n / 65536), zad (n / 256)], .inr (.inr (.inr (.inl ⟨rfl, rfl⟩))), by simp [uw], ?_⟩, by decide⟩
    simp [by8, num4, IntKind.wrap_u8]
   ·simp at hc
  ·simp only [uw, push_cast, ↓reduceIte, reduceCtorEq, zB, zE, zA, zS, zL, zD, zM]
   refine cnd_mk (fun hc => ?_) (fun hc => ?_)
   ·have w1 : IntKind.u64.wrap (IntKind.i64.wrap (8 * 0)) = 0 := rfl
    have w2 : IntKind.i64.wrap (0 - 1) = -1 := rfl
    have t := htk l [zad (n / 16777216), zad (n / 65536), zad (n / 256)] (l.length + 3) rfl
    simp only [uw, w1, w2, s3, s2, s1, s0, hb, t, push_cast, ↓reduceIte, reduceCtorEq, zB, zE, zA, zS, zL, zD, zM]
    refine ⟨by decide, by simp, ⟨by omega, by omega⟩, ⟨-1, [zad (n / 16777216), zad (n / 65536), zad (n / 256), zad n], .inr (.inr (.inr (.inr ⟨rfl, rfl⟩))), by simp [uw], ?_⟩, by decide⟩
    simp [by8, num4, IntKind.wrap_u8]
   ·simp at hc
  ·simp only [uw, push_cast, ↓reduceIte, reduceCtorEq, zB, zE, zA, zS, zL, zD, zM]
   refine cnd_mk (fun hc => ?_) (fun hc => ?_)
   ·simp at hc
   ·simp only [push_cast, ↓reduceIte, reduceCtorEq, zB, zE, zA, zS, zL, zD, zM]
def put4 (key x y v : Int) : Bs := num4 (IntKind.u64.wrap key).toNat ++ (num4 (IntKind.u64.wrap x).toNat ++ (num4 (IntKind.u64.wrap y).toNat ++ num4 (IntKind.u64.wrap v).toNat))
theorem rput_t (l : Bs) (key x y v : Int) (hl : l.length ≤ 100000000) : Triple P0 74 [.own 1000000 0 0 l.length, .agg [int .i64 key, int .i64 x, int .i64 y, int .i64 v]] [rowB l] (.own 1000000 0 0 (l ++ put4 key x y v).length) [rowB (l ++ put4 key x y v)] := by
 have hw : ∀ n : Int, ∃ m : Nat, m < 18446744073709551616 ∧ (IntKind.u64.wrap n) = (m : Int) ∧ (IntKind.u64.wrap n).toNat = m := fun n => by
  refine ⟨(IntKind.u64.wrap n).toNat, ?_, ?_, rfl⟩ <;> rw [IntKind.wrap_u64] <;> omega
 obtain ⟨a, a0, a1, a2⟩ := hw key
 obtain ⟨b, b0, b1, b2⟩ := hw x
 obtain ⟨c, c0, c1, c2⟩ := hw y
 obtain ⟨d, d0, d1, d2⟩ := hw v
 refine rec_put_triple rfl (by simp) ?_
 unfold put4
 rw [a2, b2, c2, d2]
 simp only [rec_put_pc, ptR4, n8, push_cast, ↓reduceIte, reduceCtorEq, zB, zE, zA, zS, zL, zD, zM]
 refine ⟨by simp, ?_⟩
 have n4 : ∀ n, (num4 n).length = 4 := fun _ => rfl
 refine run_loop [(0, false), (15, false), (16, false), (17, false)] (fun vs pos los => ∃ (I : Int) (r : Bs), ((I = 0 ∧ r = []) ∨ (I = 1 ∧ r = num4 a) ∨ (I = 2 ∧ r = num4 a ++ num4 b) ∨ (I = 3 ∧ r = num4 a ++ (num4 b ++ num4 c)) ∨ (I = 4 ∧ r = num4 a ++ (num4 b ++ (num4 c ++ num4 d)))) ∧
   vs = [.own 1000000 0 0 (l ++ r).length, .own 2000000 0 0 4, int .i64 4, int .i64 I] ∧ pos = [rowB (l ++ r)] ∧ los = [.row 1 (n8 0) true true [n8 key, n8 x, n8 y, n8 v]])
  (fun vs _ _ => match vs with | [_, _, _, .r (.v (.int _ j))] => (4 - j).toNat | _ => 0) rfl ?_ ?_
 ·simp only [push_cast, ↓reduceIte, reduceCtorEq, zB, zE, zA, zS, zL, zD, zM]
  exact ⟨0, [], .inl ⟨rfl, rfl⟩, by simp, by simp, rfl⟩
 ·rintro vs pos los ⟨I, r, hj, rfl, rfl, rfl⟩
  rcases hj with ⟨rfl, rfl⟩ | ⟨rfl, rfl⟩ | ⟨rfl, rfl⟩ | ⟨rfl, rfl⟩ | ⟨rfl, rfl⟩
  ·obtain ⟨m, hm⟩ : ∃ m, l ++ [] = m := ⟨_, rfl⟩
   have hml : m.length ≤ 1000000000 := by rw [← hm]; simp [n4]; omega
   rw [hm]
   simp only [n8, push_cast, ↓reduceIte, reduceCtorEq, zB, zE, zA, zS, zL, zD, zM]
   refine cnd_mk (fun hc => ?_) (fun hc => ?_)
   ·have w2 : IntKind.i64.wrap (0 + 1) = 1 := rfl
    have t : 0 + zae 0 = 0 := rfl
    have g : ∀ z, [RV.v (.int .i64 key), .v (.int .i64 x), .v (.int .i64 y), .v (.int .i64 v)].getD 0 z = .v (.int .i64 key) := fun _ => rfl
    simp only [w2, t, g, a1, push_cast, ↓reduceIte, reduceCtorEq, zB, zE, zA, zS, zL, zD, zM]
    repeat refine And.intro (by first | kernel_rfl | (simp; done) | omega) ?_
    refine callA_own ?_
    simp only [push_cast, ↓reduceIte, reduceCtorEq, zB, zE, zA, zS, zL, zD, zM]
    refine call_mk (number_t m a a0 hml) rfl trivial ?_
    simp only [w2, push_cast, ↓reduceIte, reduceCtorEq, zB, zE, zA, zS, zL, zD, zM]
    refine ⟨⟨1, num4 a, .inr (.inl ⟨rfl, rfl⟩), ?_⟩, by decide⟩
    rw [← hm]
    simp [n8, Nat.add_assoc]
   ·simp at hc
  ·obtain ⟨m, hm⟩ : ∃ m, l ++ num4 a = m := ⟨_, rfl⟩
   have hml : m.length ≤ 1000000000 := by rw [← hm]; simp [n4]; omega
   rw [hm]
   simp only [n8, push_cast, ↓reduceIte, reduceCtorEq, zB, zE, zA, zS, zL, zD, zM]
   refine cnd_mk (fun hc => ?_) (fun hc => ?_)
   ·have w2 : IntKind.i64.wrap (1 + 1) = 2 := rfl
    have t : 0 + zae 1 = 1 := rfl
    have g : ∀ z, [RV.v (.int .i64 key), .v (.int .i64 x), .v (.int .i64 y), .v (.int .i64 v)].getD 1 z = .v (.int .i64 x) := fun _ => rfl
    simp only [w2, t, g, b1, push_cast, ↓reduceIte, reduceCtorEq, zB, zE, zA, zS, zL, zD, zM]
    repeat refine And.intro (by first | kernel_rfl | (simp; done) | omega) ?_
    refine callA_own ?_
    simp only [push_cast, ↓reduceIte, reduceCtorEq, zB, zE, zA, zS, zL, zD, zM]
    refine call_mk (number_t m b b0 hml) rfl trivial ?_
    simp only [w2, push_cast, ↓reduceIte, reduceCtorEq, zB, zE, zA, zS, zL, zD, zM]
    refine ⟨⟨2, (num4 a ++ num4 b), .inr (.inr (.inl ⟨rfl, rfl⟩)), ?_⟩, by decide⟩
    rw [← hm]
    simp [n8, Nat.add_assoc]
   ·simp at hc
  ·obtain ⟨m, hm⟩ : ∃ m, l ++ (num4 a ++ num4 b) = m := ⟨_, rfl⟩
   have hml : m.length ≤ 1000000000 := by rw [← hm]; simp [n4]; omega
   rw [hm]
   simp only [n8, push_cast, ↓reduceIte, reduceCtorEq, zB, zE, zA, zS, zL, zD, zM]
   refine cnd_mk (fun hc => ?_) (fun hc => ?_)
   ·have w2 : IntKind.i64.wrap (2 + 1) = 3 := rfl
    have t : 0 + zae 2 = 2 := rfl
    have g : ∀ z, [RV.v (.int .i64 key), .v (.int .i64 x), .v (.int .i64 y), .v (.int .i64 v)].getD 2 z = .v (.int .i64 y) := fun _ => rfl
    simp only [w2, t, g, c1, push_cast, ↓reduceIte, reduceCtorEq, zB, zE, zA, zS, zL, zD, zM]
    repeat refine And.intro (by first | kernel_rfl | (simp; done) | omega) ?_
    refine callA_own ?_
    simp only [push_cast, ↓reduceIte, reduceCtorEq, zB, zE, zA, zS, zL, zD, zM]
    refine call_mk (number_t m c c0 hml) rfl trivial ?_
    simp only [w2, push_cast, ↓reduceIte, reduceCtorEq, zB, zE, zA, zS, zL, zD, zM]
    refine ⟨⟨3, (num4 a ++ (num4 b ++ num4 c)), .inr (.inr (.inr (.inl ⟨rfl, rfl⟩))), ?_⟩, by decide⟩
    rw [← hm]
    simp [n8, Nat.add_assoc]
   ·simp at hc
  ·obtain ⟨m, hm⟩ : ∃ m, l ++ (num4 a ++ (num4 b ++ num4 c)) = m := ⟨_, rfl⟩
   have hml : m.length ≤ 1000000000 := by rw [← hm]; simp [n4]; omega
   rw [hm]
   simp only [n8, push_cast, ↓reduceIte, reduceCtorEq, zB, zE, zA, zS, zL, zD, zM]
   refine cnd_mk (fun hc => ?_) (fun hc => ?_)
   ·have w2 : IntKind.i64.wrap (3 + 1) = 4 := rfl
    have t : 0 + zae 3 = 3 := rfl
    have g : ∀ z, [RV.v (.int .i64 key), .v (.int .i64 x), .v (.int .i64 y), .v (.int .i64 v)].getD 3 z = .v (.int .i64 v) := fun _ => rfl
    simp only [w2, t, g, d1, push_cast, ↓reduceIte, reduceCtorEq, zB, zE, zA, zS, zL, zD, zM]
    repeat refine And.intro (by first | kernel_rfl | (simp; done) | omega) ?_
    refine callA_own ?_
    simp only [push_cast, ↓reduceIte, reduceCtorEq, zB, zE, zA, zS, zL, zD, zM]
    refine call_mk (number_t m d d0 hml) rfl trivial ?_
    simp only [w2, push_cast, ↓reduceIte, reduceCtorEq, zB, zE, zA, zS, zL, zD, zM]
    refine ⟨⟨4, (num4 a ++ (num4 b ++ (num4 c ++ num4 d))), .inr (.inr (.inr (.inr ⟨rfl, rfl⟩))), ?_⟩, by decide⟩
    rw [← hm]
    simp [n8, Nat.add_assoc]
   ·simp at hc
  ·simp only [n8, push_cast, ↓reduceIte, reduceCtorEq, zB, zE, zA, zS, zL, zD, zM]
   refine cnd_mk (fun hc => ?_) (fun hc => ?_)
   ·simp at hc
   ·simp only [push_cast, ↓reduceIte, reduceCtorEq, zB, zE, zA, zS, zL, zD, zM]

noncomputable def api_Op_pc : PC :=
  (.seq (.reg [p_s 4 (.mov (o_i 0))])
 (.seq (.seq (.reg [p_m 6 0, p_s 7 (.len false (.t 6)), p_s 8 (.mov (o_i 0))])
 (.block 0 (.loop (.seq (.reg [p_s 9 (.bin .lss (.t 8) (.t 7))])
 (.seq (.cond (.t 9)
 .skip
 (.exit 0))
 (.seq (.block 1 (.seq (.reg [p_m 10 8, p_m 5 10])
 (.seq (.reg [p_m 11 1, p_m 12 0, p_m 13 5, p_s 14 (.ia 5 (.agg [(.v (.int .i64 0)), (.v (.int .i64 0)), (.v (.int .i64 0)), (.v (.int .i64 0)), (.v (.int .i64 0))]) (.t 12) (.t 13)),
 p_s 15 (.ld (some 5) (.t 14)), ⟨(some 16), none, 1, .callv (.t 11) [(.t 15)]⟩])
 (.cond (.t 16)
 (.seq (.reg [p_m 17 5, p_m 4 17])
 .ret)
 .skip))))
 (.reg [p_s 18 (.bin .add (.t 8) (o_i 1)), p_m 8 18])))))))
 (.seq (.reg [p_s 4 (.mov (o_i (-1)))])
 .ret)))
theorem api_Op_triple : Fun P0 102 2 [(4, false, none)] api_Op_pc := fun_mk Go.Proofs.Tryz.func102 rfl (by decide) (by kernel_rfl) (by decide) rfl (by kernel_rfl) (by kernel_rfl) (by decide)
theorem ixop_t (l : List Op5) (hl : l.length ≤ 1000000000) : Triple P0 102 [.r (.sl 5 (l.map opR)), .fn (.func 72) [] 0] [] (int .i64 (if l.findIdx (fun o => !opB o) < l.length then ((l.findIdx (fun o => !opB o) : Nat) : Int) else -1)) [] := by
 have hfn : isFn P0 72 = true := rfl
 have h0 : ∀ i (h : i < l.length), i < l.findIdx (fun o => !opB o) → opB l[i] = true := fun i h hi => by simpa using List.not_of_lt_findIdx hi
 have h1 : ∀ h : l.findIdx (fun o => !opB o) < l.length, opB l[l.findIdx (fun o => !opB o)] = false := fun h => by simpa using List.findIdx_getElem (w := h)
 have hk : l.findIdx (fun o => !opB o) ≤ l.length := List.findIdx_le_length
 generalize l.findIdx (fun o => !opB o) = k at h0 h1 hk
 refine api_Op_triple rfl (by decide) ?_
 simp only [api_Op_pc, hfn, push_cast, ↓reduceIte, reduceCtorEq, zB, zE, zA, zS, zL, zD, zM]
 refine run_loop [(0, false), (1, false), (7, false), (8, false)] (fun vs pos los => ∃ i : Nat, i ≤ k ∧
  vs = [.r (.sl 5 (l.map opR)), .fn (.func 72) [] 0, int .i64 l.length, int .i64 i] ∧ pos = [] ∧ los = [])
  (fun vs _ _ => match vs with | [_, _, _, .r (.v (.int _ j))] => (k + 1 - j).toNat | _ => 0) rfl ?_ ?_
 ·simp only [hfn, push_cast, ↓reduceIte, reduceCtorEq, zB, zE, zA, zS, zL, zD, zM]
  exact ⟨0, by omega, rfl⟩
 ·rintro vs pos los ⟨i, i0, rfl, rfl, rfl⟩
  simp only [hfn, push_cast, ↓reduceIte, reduceCtorEq, zB, zE, zA, zS, zL, zD, zM]
  refine cnd_mk (fun hi => ?_) (fun hi => ?_)
  ·have hi : i < l.length := by simpa using hi
   have hb := batch1_t l[i]
   have h0i := h0 i hi
   obtain ⟨o, ho⟩ : ∃ o, l[i] = o := ⟨_, rfl⟩
   rw [ho] at hb h0i
   have hg : ∀ z, (l.map opR).getD i z = .agg [n8 o.k, n8 o.key, n8 o.x, n8 o.y, n8 o.v] := fun z => by
    rw [zah]
    simp [hi, ho, opR]
   have w1 : IntKind.i64.wrap ((i : Int) + 1) = (i : Int) + 1 := wrap_id (by omega)
   simp only [hfn, hg, n8, w1, zaa, zab, zac, push_cast, ↓reduceIte, reduceCtorEq, zB, zE, zA, zS, zL, zD, zM]
   refine ⟨by omega, ?_⟩
   refine call_as (as' := [.r (opR o)]) rfl ?_
   refine call_mk hb rfl trivial ?_
   simp only [hfn, w1, zaa, zab, zac, push_cast, ↓reduceIte, reduceCtorEq, zB, zE, zA, zS, zL, zD, zM]
   refine cnd_mk (fun hq => ?_) (fun hq => ?_)
   ·have : i = k := by
     rcases Nat.lt_or_ge i k with h | h
     ·rw [h0i h] at hq; cases hq
     ·omega
    subst this
    simp only [hfn, w1, zaa, zab, zac, push_cast, ↓reduceIte, reduceCtorEq, zB, zE, zA, zS, zL, zD, zM]
    rw [if_pos hi]
   ·have : i < k := by
     rcases Nat.lt_or_ge i k with h | h
     ·exact h
     ·have : i = k := by omega
      subst this
      have := h1 hi
      rw [ho] at this
      rw [this] at hq; cases hq
    simp only [hfn, w1, zaa, zab, zac, push_cast, ↓reduceIte, reduceCtorEq, zB, zE, zA, zS, zL, zD, zM]
    exact ⟨⟨i + 1, by omega, rfl⟩, by omega⟩
  ·have hi : l.length ≤ i := by simpa using hi
   simp only [hfn, zaa, zab, zac, push_cast, ↓reduceIte, reduceCtorEq, zB, zE, zA, zS, zL, zD, zM]
   rw [if_neg (by omega)]

noncomputable def cont_api_Op_pc : PC :=
  (.seq (.reg [p_s 4 (.mov (.c (.r (.v (.bool false)))))])
 (.seq (.reg [p_m 5 0, p_m 6 1, p_c 7 1 102 [.t 5, .t 6], p_s 8 (.bin .geq (.t 7) (o_i 0)), p_m 4 8])
 .ret))
theorem cont_api_Op_triple : Fun P0 71 2 [(4, false, none)] cont_api_Op_pc := fun_mk Go.Proofs.Tryz.func71 rfl (by decide) (by kernel_rfl) (by decide) rfl (by kernel_rfl) (by kernel_rfl) (by decide)
theorem contop_t (l : List Op5) (hl : l.length ≤ 1000000000) : Triple P0 71 [.r (.sl 5 (l.map opR)), .fn (.func 72) [] 0] [] (bl (!l.all opB)) [] := by
 have hfn : isFn P0 72 = true := rfl
 have hx := ixop_t l hl
 have hk : (decide ((if l.findIdx (fun o => !opB o) < l.length then ((l.findIdx (fun o => !opB o) : Nat) : Int) else -1) ≥ 0)) = !l.all opB := by
  by_cases h : l.findIdx (fun o => !opB o) < l.length
  ·rw [if_pos h, decide_eq_true (by omega)]
   rw [List.findIdx_lt_length] at h
   obtain ⟨o, ho, h2⟩ := h
   rw [eq_comm, Bool.not_eq_true', Bool.eq_false_iff]
   intro ha
   rw [List.all_eq_true] at ha
   rw [ha o ho] at h2
   cases h2
  ·rw [if_neg h, decide_eq_false (by omega)]
   rw [eq_comm, Bool.not_eq_false', List.all_eq_true]
   intro o ho
   rw [List.findIdx_lt_length] at h
   cases hb : opB o with
   | true => rfl
   | false => exact absurd ⟨o, ho, by rw [hb]; rfl⟩ h
 generalize (if l.findIdx (fun o => !opB o) < l.length then ((l.findIdx (fun o => !opB o) : Nat) : Int) else -1) = k at hx hk
 refine cont_api_Op_triple rfl (by decide) ?_
 simp only [cont_api_Op_pc, hfn, push_cast, ↓reduceIte, reduceCtorEq, zB, zE, zA, zS, zL, zD, zM]
 refine call_mk hx rfl trivial ?_
 simp only [hfn, hk, push_cast, ↓reduceIte, reduceCtorEq, zB, zE, zA, zS, zL, zD, zM]
def opBs (o : Op5) : Bs := zad (IntKind.u8.wrap o.k).toNat :: (if o.k = 1 then put4 o.key o.x o.y o.v else num4 (IntKind.u64.wrap o.key).toNat)
def opsBs (l : List Op5) : Bs := l.flatMap opBs
theorem opBs_len (o : Op5) : (opBs o).length ≤ 17 := by
 unfold opBs put4
 split <;> simp [num4]
theorem opsBs_len (l : List Op5) : (opsBs l).length ≤ 17 * l.length := by
 induction l with
 | nil => simp [opsBs]
 | cons o l ih =>
  have := opBs_len o
  simp only [opsBs, List.flatMap_cons, List.length_append, List.length_cons] at ih ⊢
  omega
def batchE (l : List Op5) : Int := if 500 < l.length then 11 else if l = [] ∨ l.all opB = false then 1 else 0
def batchV (l : List Op5) : AV := if batchE l = 0 then .own 1000000 0 0 (opsBs l).length else .nils 1 (.v (.int .u8 0))
def batchO (l : List Op5) : List Ob := if batchE l = 0 then [rowB (opsBs l)] else []
theorem batch_t (l : List Op5) (hl : l.length ≤ 1000000000) : Triple P0 45 [.r (.sl 5 (l.map opR))] [] (.tup [batchV l, int .i64 (batchE l)]) (batchO l) := by
 have hfn : isFn P0 72 = true := rfl
 refine rec_Batch_triple rfl (by decide) ?_
 unfold batchV batchO
 obtain ⟨E, hE⟩ : ∃ E, batchE l = E := ⟨_, rfl⟩
 rw [hE]
 unfold batchE at hE
 simp only [rec_Batch_pc, hfn, push_cast, ↓reduceIte, reduceCtorEq, zB, zE, zA, zS, zL, zD, zM]
 refine cnd_mk (fun hb => ?_) (fun hb => ?_)
 ·have hb : 500 < l.length := by simp at hb; omega
  rw [if_pos hb] at hE
  subst hE
  simp only [hfn, push_cast, ↓reduceIte, reduceCtorEq, zB, zE, zA, zS, zL, zD, zM]
  exact ⟨rfl, rfl⟩
 ·have hb : l.length ≤ 500 := by simp at hb; omega
  rw [if_neg (by omega)] at hE
  have ct := contop_t l hl
  obtain ⟨A, hA⟩ : ∃ A, l.all opB = A := ⟨_, rfl⟩
  rw [hA] at hE ct
  have e0 : (((l.length : Nat) : Int) == 0) = decide (l = []) := by
   cases l <;> simp
   omega
  obtain ⟨N, hN⟩ : ∃ N, decide (l = []) = N := ⟨_, rfl⟩
  rw [hN] at e0
  cases N with
  | true =>
   rw [if_pos (.inl (of_decide_eq_true hN))] at hE
   subst hE
   simp only [hfn, e0, push_cast, ↓reduceIte, reduceCtorEq, zB, zE, zA, zS, zL, zD, zM]
   exact ⟨rfl, rfl⟩
  | false =>
   simp only [hfn, e0, push_cast, ↓reduceIte, reduceCtorEq, zB, zE, zA, zS, zL, zD, zM]
   refine call_mk ct rfl trivial ?_
   cases A with
   | false =>
    rw [if_pos (.inr rfl)] at hE
    subst hE
    simp only [hfn, e0, push_cast, ↓reduceIte, reduceCtorEq, zB, zE, zA, zS, zL, zD, zM]
    exact ⟨rfl, rfl⟩
   | true =>
    rw [if_neg (fun h => h.elim (of_decide_eq_false hN) (fun h => by cases h))] at hE
    subst hE
    simp only [hfn, e0, push_cast, ↓reduceIte, reduceCtorEq, zB, zE, zA, zS, zL, zD, zM]
    have hmax := maxLen_big
    have hall : ∀ o ∈ l, opB o = true := by simpa using hA
    have hn0 : l ≠ [] := of_decide_eq_false hN
    refine run_loop [(4, true), (19, false), (20, false), (21, false)] (fun vs pos los => ∃ i : Nat, i ≤ l.length ∧ vs = [.own 2000000 0 0 (opsBs (l.take i)).length, .r (.sl 5 (l.map opR)), int .i64 l.length, int .i64 i] ∧ pos = [] ∧ los = [rowB (opsBs (l.take i))])
     (fun vs _ _ => match vs with | [_, _, _, .r (.v (.int _ j))] => (l.length - j).toNat | _ => 0) rfl ?_ ?_
    ·simp only [push_cast, ↓reduceIte, reduceCtorEq, zB, zE, zA, zS, zL, zD, zM]
     exact ⟨0, by omega, by simp [opsBs], by simp [opsBs]⟩
    ·rintro vs pos los ⟨i, i0, rfl, rfl, rfl⟩
     have hbl := opsBs_len (l.take i)
     rw [List.length_take] at hbl
     simp only [push_cast, ↓reduceIte, reduceCtorEq, zB, zE, zA, zS, zL, zD, zM]
     refine cnd_mk (fun hi => ?_) (fun hi => ?_)
     ·have hi : i < l.length := by simpa using hi
      obtain ⟨⟨k, key, x, y, v⟩, ho⟩ : ∃ o, l[i] = o := ⟨_, rfl⟩
      have hop := hall _ (List.getElem_mem hi)
      rw [ho] at hop
      have hnx : opsBs (l.take (i + 1)) = opsBs (l.take i) ++ opBs ⟨k, key, x, y, v⟩ := by
       rw [zaw hi, ho]
       simp [opsBs]
      have hg : ∀ z, (l.map opR).getD i z = .agg [.v (.int .i64 k), .v (.int .i64 key), .v (.int .i64 x), .v (.int .i64 y), .v (.int .i64 v)] := fun z => by
       rw [zah]
       simp [hi, ho, opR, n8]
      have w1 : IntKind.i64.wrap ((i : Int) + 1) = (i : Int) + 1 := wrap_id (by omega)
      obtain ⟨B, hB⟩ : ∃ B, opsBs (l.take i) = B := ⟨_, rfl⟩
      rw [hB] at hbl hnx ⊢
      have hfl : (B ++ [zad (IntKind.u8.wrap k).toNat]).length = B.length + 1 := by simp
      obtain ⟨M, hM⟩ : ∃ M, B ++ [zad (IntKind.u8.wrap k).toNat] = M := ⟨_, rfl⟩
      rw [hM] at hfl
      have hrw : bys B ++ [RV.v (.int .u8 (IntKind.u8.wrap k))] = bys M := by
       rw [← hM]
       simp [by8, IntKind.wrap_u8]
       omega
      have htk : zal B.length (bys B) = bys B := zap (by simp)
      simp only [hg, w1, htk, hrw, zaa, zab, zac, push_cast, ↓reduceIte, reduceCtorEq, zB, zE, zA, zS, zL, zD, zM]
      refine ⟨by omega, by simp, ⟨by omega, by omega⟩, ?_⟩
      have hop2 : k = 1 ∨ k = 2 := by
       unfold opB at hop
       simp only at hop
       split at hop
       ·exact .inl ‹_›
       ·split at hop
        ·exact .inr ‹_›
        ·cases hop
      refine cnd_mk (fun hk => ?_) (fun hk => ?_)
      ·have hk : k = 1 := by simpa using hk
       subst hk
       have hob : opBs ⟨1, key, x, y, v⟩ = zad (IntKind.u8.wrap 1).toNat :: put4 key x y v := rfl
       rw [hob] at hnx
       simp only [w1, zaa, zab, zac, push_cast, ↓reduceIte, reduceCtorEq, zB, zE, zA, zS, zL, zD, zM]
       refine callA_own ?_
       simp only [push_cast, ↓reduceIte, reduceCtorEq, zB, zE, zA, zS, zL, zD, zM]
       refine call_as (as' := [.own 1000000 0 0 M.length, .agg [int .i64 key, int .i64 x, int .i64 y, int .i64 v]]) (by rw [hfl]) ?_
       refine call_mk (rput_t M key x y v (by omega)) rfl trivial ?_
       simp only [w1, zaa, zab, zac, push_cast, ↓reduceIte, reduceCtorEq, zB, zE, zA, zS, zL, zD, zM]
       refine ⟨⟨i + 1, by omega, ?_⟩, by omega⟩
       rw [hnx, ← hM]
       simp
       omega
      ·have hk : k = 2 := by
        have : k ≠ 1 := by simpa using hk
        omega
       subst hk
       have hob : opBs ⟨2, key, x, y, v⟩ = zad (IntKind.u8.wrap 2).toNat :: num4 (IntKind.u64.wrap key).toNat := rfl
       rw [hob] at hnx
       obtain ⟨m, m0, m1⟩ : ∃ m : Nat, m < 18446744073709551616 ∧ (IntKind.u64.wrap key) = (m : Int) := by
        refine ⟨(IntKind.u64.wrap key).toNat, ?_, ?_⟩ <;> rw [IntKind.wrap_u64] <;> omega
       simp only [w1, m1, zaa, zab, zac, push_cast, ↓reduceIte, reduceCtorEq, zB, zE, zA, zS, zL, zD, zM]
       refine callA_own ?_
       simp only [push_cast, ↓reduceIte, reduceCtorEq, zB, zE, zA, zS, zL, zD, zM]
       refine call_as (as' := [.own 1000000 0 0 M.length, uw m, int .i64 4]) (by rw [hfl]; rfl) ?_
       refine call_mk (number_t M m m0 (by omega)) rfl trivial ?_
       simp only [w1, zaa, zab, zac, push_cast, ↓reduceIte, reduceCtorEq, zB, zE, zA, zS, zL, zD, zM]
       refine ⟨⟨i + 1, by omega, ?_⟩, by omega⟩
       rw [hnx, ← hM, m1]
       simp
       omega
     ·have hi : i = l.length := zao i0 (by simpa using hi)
      subst hi
      rw [List.take_length]
      simp only [zaa, zab, zac, push_cast, ↓reduceIte, reduceCtorEq, zB, zE, zA, zS, zL, zD, zM]

noncomputable def rec_take_pc : PC :=
  (.seq (.reg [p_a 2 (.new [(.r (.v (.int .i64 0))), (.r (.v (.int .i64 0))), (.r (.v (.int .i64 0))), (.r (.v (.int .i64 0)))])])
 (.seq (.reg [p_m 4 0, p_s 5 (.mkf (.func 84) [(.t 4)] 1), p_m 3 5])
 (.seq (.reg [p_m 6 3, ⟨(some 7), none, 1, .callv (.t 6) [(o_i 4)]⟩, p_s 8 (.conv .i64 (.t 7)), p_m 9 3, ⟨(some 10), none, 2, .callv (.t 9) [(o_i 4)]⟩, p_s 11 (.conv .i64 (.t 10)),
 p_m 12 3, ⟨(some 13), none, 3, .callv (.t 12) [(o_i 4)]⟩, p_s 14 (.conv .i64 (.t 13)), p_m 15 3, ⟨(some 16), none, 4, .callv (.t 15) [(o_i 4)]⟩, p_s 17 (.conv .i32 (.t 16)),
 p_s 18 (.conv .i64 (.t 17)), p_s 19 (.build [(.r (.v (.int .i64 0))), (.r (.v (.int .i64 0))), (.r (.v (.int .i64 0))), (.r (.v (.int .i64 0)))] [(0, 1, (.t 8)), (1, 1, (.t 11)), (2, 1, (.t 14)), (3, 1, (.t 18))]),
 ⟨none, none, 0, .act (.st 4 (.t 2) (.t 19))⟩])
 .ret)))
theorem rec_take_triple : Fun P0 85 1 [(2, false, some (80, (some 4)))] rec_take_pc := fun_mk Go.Proofs.Tryz.func85 rfl (by decide) (by kernel_rfl) (by decide) rfl (by kernel_rfl) (by kernel_rfl) (by decide)
def rdO : Option Bs → Ob
 | some l => .box [sb l, bl false]
 | none => .box [.nils 1 (.v (.int .u8 0)), bl true]
def tkN (k : Nat) : Option Bs → Nat
 | some l => if k ≤ l.length then beN (l.take k) 0 else 0
 | none => 0
def tkR (k : Nat) : Option Bs → Option Bs
 | some l => if k ≤ l.length then some (l.drop k) else none
 | none => none
theorem beN_lt : ∀ (l : Bs) (a : Nat), beN l a < (a + 1) * 256 ^ l.length
 | [], a => by simp [beN]
 | c :: r, a => by
  rw [beN]
  have h := beN_lt r (a * 256 + c.toNat)
  have hc := c.toNat_lt
  rw [List.length_cons, Nat.pow_succ]
  refine Nat.lt_of_lt_of_le h ?_
  rw [Nat.mul_comm (256 ^ r.length), ← Nat.mul_assoc]
  exact Nat.mul_le_mul_right _ (by omega)
theorem tkN_lt (k : Nat) (hk : k ≤ 4) (o : Option Bs) : tkN k o < 4294967296 := by
 cases o with
 | none => simp [tkN]
 | some l =>
  rw [tkN]
  split
  ·have h := beN_lt (l.take k) 0
   have hl : (l.take k).length ≤ 4 := by simp; omega
   have h4 : (256 : Nat) ^ (l.take k).length ≤ 256 ^ 4 := Nat.pow_le_pow_right (by decide) hl
   have : (256 : Nat) ^ 4 = 4294967296 := by decide
   omega
  ·decide
def lenO : Option Bs → Nat
 | some l => l.length
 | none => 0
theorem tkR_len (k : Nat) (o : Option Bs) : lenO (tkR k o) ≤ lenO o := by
 cases o with
 | none => simp [tkR]
 | some l =>
  rw [tkR]
  split
  ·simp [lenO]
  ·simp [lenO]
theorem takeG_t (o : Option Bs) (k : Nat) (h1 : 1 ≤ k) (h4 : k ≤ 4) (hl : lenO o ≤ 140737488355328) : Triple P0 84 [.ptr 1000000 0 0, int .i64 k] [rdO o] (uw (tkN k o)) [rdO (tkR k o)] := by
 cases o with
 | some l =>
  rw [tkN, tkR]
  by_cases hk : k ≤ l.length
  ·rw [if_pos hk, if_pos hk]
   exact take_t l false k h4 hk hl
  ·rw [if_neg hk, if_neg hk]
   refine rec_Reader_Take_triple rfl (by simp) ?_
   have g1 : decide (((l.length : Nat) : Int) < (k : Int)) = true := by simp; omega
   simp only [rec_Reader_Take_pc, rdO, g1, zaa, zab, zac, push_cast, ↓reduceIte, reduceCtorEq, zB, zE, zA, zS, zL, zD, zM]
   rfl
 | none =>
  rw [tkN, tkR]
  refine rec_Reader_Take_triple rfl (by simp) ?_
  have g1 : decide ((0 : Int) < (k : Int)) = true := by simp; omega
  simp only [rec_Reader_Take_pc, rdO, g1, zaa, zab, zac, push_cast, ↓reduceIte, reduceCtorEq, zB, zE, zA, zS, zL, zD, zM]
  rfl
def s32 (n : Nat) : Int := if n < 2147483648 then n else (n : Int) - 4294967296
theorem s32_wrap (n : Nat) (h : n < 4294967296) : IntKind.i64.wrap (IntKind.i32.wrap (n : Int)) = s32 n := by
 have e : IntKind.i32.wrap (n : Int) = s32 n := by
  unfold s32
  rw [IntKind.wrap_i32]
  by_cases hn : n < 2147483648
  ·rw [if_pos hn]; omega
  ·rw [if_neg hn]; omega
 rw [e]
 refine wrap_id ?_
 unfold s32
 split <;> omega
def tk4N (o : Option Bs) : Int × Int × Int × Int := (tkN 4 o, tkN 4 (tkR 4 o), tkN 4 (tkR 4 (tkR 4 o)), s32 (tkN 4 (tkR 4 (tkR 4 (tkR 4 o)))))
def tk4R (o : Option Bs) : Option Bs := tkR 4 (tkR 4 (tkR 4 (tkR 4 o)))
theorem tkp_t (o : Option Bs) (hl : lenO o ≤ 140737488355328) : Triple P0 85 [.ptr 1000000 0 0] [rdO o] (.r (ptR4 (tk4N o).1 (tk4N o).2.1 (tk4N o).2.2.1 (tk4N o).2.2.2)) [rdO (tk4R o)] := by
 refine rec_take_triple rfl (by simp) ?_
 have hfn : isFn P0 84 = true := rfl
 unfold tk4R
 obtain ⟨o1, h1⟩ : ∃ x, tkR 4 o = x := ⟨_, rfl⟩
 obtain ⟨o2, h2⟩ : ∃ x, tkR 4 o1 = x := ⟨_, rfl⟩
 obtain ⟨o3, h3⟩ : ∃ x, tkR 4 o2 = x := ⟨_, rfl⟩
 obtain ⟨o4, h4⟩ : ∃ x, tkR 4 o3 = x := ⟨_, rfl⟩
 have l1 := tkR_len 4 o
 have l2 := tkR_len 4 o1
 have l3 := tkR_len 4 o2
 have t1 := takeG_t o 4 (by decide) (by decide) hl
 have t2 := takeG_t o1 4 (by decide) (by decide) (by rw [← h1]; omega)
 have t3 := takeG_t o2 4 (by decide) (by decide) (by rw [← h2]; rw [h1] at l1; omega)
 have t4 := takeG_t o3 4 (by decide) (by decide) (by rw [← h3]; rw [h1] at l1; rw [h2] at l2; omega)
 have n1 := tkN_lt 4 (by decide) o
 have n2 := tkN_lt 4 (by decide) o1
 have n3 := tkN_lt 4 (by decide) o2
 have n4 := tkN_lt 4 (by decide) o3
 unfold tk4N
 rw [h1, h2, h3, h4]
 rw [h1] at t1
 rw [h2] at t2
 rw [h3] at t3
 rw [h4] at t4
 have ws := s32_wrap _ n4
 have wa : IntKind.i64.wrap ((tkN 4 o : Nat) : Int) = ((tkN 4 o : Nat) : Int) := wrap_id (by omega)
 have wb : IntKind.i64.wrap ((tkN 4 o1 : Nat) : Int) = ((tkN 4 o1 : Nat) : Int) := wrap_id (by omega)
 have wc : IntKind.i64.wrap ((tkN 4 o2 : Nat) : Int) = ((tkN 4 o2 : Nat) : Int) := wrap_id (by omega)
 generalize tkN 4 o = a at t1 wa n1 ⊢
 generalize tkN 4 o1 = b at t2 wb n2 ⊢
 generalize tkN 4 o2 = c at t3 wc n3 ⊢
 generalize tkN 4 o3 = d at t4 ws n4 ⊢
 have hb : ∀ o, ∃ cs, rdO o = .box cs ∧ hidL cs = [] ∧ cs.length = 2 := fun o => by cases o <;> exact ⟨_, rfl, rfl, rfl⟩
 obtain ⟨c0, e0, f0, q0⟩ := hb o
 obtain ⟨c1, e1, f1, q1⟩ := hb o1
 obtain ⟨c2, e2, f2, q2⟩ := hb o2
 obtain ⟨c3, e3, f3, q3⟩ := hb o3
 obtain ⟨c4, e4, f4, q4⟩ := hb o4
 rw [e0, e1] at t1
 rw [e1, e2] at t2
 rw [e2, e3] at t3
 rw [e3, e4] at t4
 rw [e0, e4]
 have i0 : ∀ F, imL F c0 = c0 := fun F => imL_free F c0 f0
 have i1 : ∀ F, imL F c1 = c1 := fun F => imL_free F c1 f1
 have i2 : ∀ F, imL F c2 = c2 := fun F => imL_free F c2 f2
 have i3 : ∀ F, imL F c3 = c3 := fun F => imL_free F c3 f3
 have i4 : ∀ F, imL F c4 = c4 := fun F => imL_free F c4 f4
 simp only [rec_take_pc, hfn, f0, i0, f1, i1, zaa, zab, zac, push_cast, ↓reduceIte, reduceCtorEq, zB, zE, zA, zS, zL, zD, zM]
 refine call_mk t1 rfl ⟨q1.trans q0.symm, trivial⟩ ?_
 simp only [uw, hfn, f0, i0, f1, i1, f2, i2, wa, zaa, zab, zac, push_cast, ↓reduceIte, reduceCtorEq, zB, zE, zA, zS, zL, zD, zM]
 refine call_mk t2 rfl ⟨q2.trans q1.symm, trivial⟩ ?_
 simp only [uw, hfn, f1, i1, f2, i2, f3, i3, wa, wb, zaa, zab, zac, push_cast, ↓reduceIte, reduceCtorEq, zB, zE, zA, zS, zL, zD, zM]
 refine call_mk t3 rfl ⟨q3.trans q2.symm, trivial⟩ ?_
 simp only [uw, hfn, f2, i2, f3, i3, f4, i4, wa, wb, wc, zaa, zab, zac, push_cast, ↓reduceIte, reduceCtorEq, zB, zE, zA, zS, zL, zD, zM]
 refine call_mk t4 rfl ⟨q4.trans q3.symm, trivial⟩ ?_
 simp only [uw, hfn, f3, i3, f4, i4, wa, wb, wc, ws, zaa, zab, zac, push_cast, ↓reduceIte, reduceCtorEq, zB, zE, zA, zS, zL, zD, zM]
 rfl

def opStep (o : Option Bs) : Op5 × Option Bs :=
 if tkN 1 o = 1 then (⟨1, (tk4N (tkR 1 o)).1, (tk4N (tkR 1 o)).2.1, (tk4N (tkR 1 o)).2.2.1, (tk4N (tkR 1 o)).2.2.2⟩, tk4R (tkR 1 o)) else (⟨tkN 1 o, tkN 4 (tkR 1 o), 0, 0, 0⟩, tkR 4 (tkR 1 o))
def opsS : Nat → Option Bs → List Op5 → Option Bs × List Op5
 | 0, o, acc => (o, acc)
 | n + 1, o, acc => if lenO o = 0 then (o, acc) else opsS n (opStep o).2 (acc ++ [(opStep o).1])
theorem opsS_stop : ∀ (n : Nat) (o : Option Bs) (acc : List Op5), lenO o = 0 → opsS n o acc = (o, acc)
 | 0, _, _, _ => rfl
 | n + 1, o, acc, h => by rw [opsS, if_pos h]
theorem opStep_len (o : Option Bs) : lenO (opStep o).2 ≤ lenO o := by
 unfold opStep tk4R
 have := tkR_len 1 o
 split
 ·have h2 := tkR_len 4 (tkR 1 o)
  have h3 := tkR_len 4 (tkR 4 (tkR 1 o))
  have h4 := tkR_len 4 (tkR 4 (tkR 4 (tkR 1 o)))
  have h5 := tkR_len 4 (tkR 4 (tkR 4 (tkR 4 (tkR 1 o))))
  simp only
  omega
 ·have h2 := tkR_len 4 (tkR 1 o)
  simp only
  omega
def opsR (l : Bs) : Option (List Op5) := if (opsS 501 (some l) []).1 = none ∨ batchE (opsS 501 (some l) []).2 ≠ 0 then none else some (opsS 501 (some l) []).2
def opsA : Option (List Op5) → AV
 | none => .tup [.nils 5 opZ, int .i64 10]
 | some l => .tup [.own 1000000 0 0 l.length, int .i64 0]
def opsO : Option (List Op5) → List Ob
 | none => []
 | some l => [.row 5 opZ true true (l.map opR)]
set_option maxHeartbeats 2000000 in
theorem ops_t (l : Bs) (hl : l.length ≤ 1000000000) : Triple P0 51 [sb l] [] (opsA (opsR l)) (opsO (opsR l)) := by
 refine rec_Ops_triple rfl (by decide) ?_
 unfold opsR
 obtain ⟨Q, hQ⟩ : ∃ Q, opsS 501 (some l) [] = Q := ⟨_, rfl⟩
 rw [hQ]
 have hb : ∀ o, ∃ cs, rdO o = .box cs ∧ hidL cs = [] ∧ cs.length = 2 := fun o => by cases o <;> exact ⟨_, rfl, rfl, rfl⟩
 simp only [rec_Ops_pc, push_cast, ↓reduceIte, reduceCtorEq, zB, zE, zA, zS, zL, zD, zM]
 refine run_loop [(4, false), (5, true)] (fun vs pos los => ∃ (n : Nat) (o : Option Bs) (acc : List Op5), n + acc.length = 501 ∧ opsS n o acc = Q ∧ lenO o ≤ l.length ∧ vs = [.ptr 2000000 0 0, .own 2000001 0 0 acc.length] ∧ pos = [] ∧ los = [rdO o, .row 5 opZ true true (acc.map opR)])
  (fun vs _ _ => match vs with | [_, .own _ _ _ k] => 501 - k | _ => 0) rfl ?_ ?_
 ·simp only [push_cast, ↓reduceIte, reduceCtorEq, zB, zE, zA, zS, zL, zD, zM]
  exact ⟨501, some l, [], rfl, hQ, zaf _, rfl, rfl⟩
 ·rintro vs pos los ⟨n, o, acc, hn, hs, hlo, rfl, rfl, rfl⟩
  have hmax := maxLen_big
  have fin : ∀ (B : Bool), True := fun _ => trivial
  by_cases hgo : n ≠ 0 ∧ lenO o ≠ 0
  ·obtain ⟨n, rfl⟩ : ∃ m, n = m + 1 := ⟨n - 1, by omega⟩
   rw [opsS, if_neg hgo.2] at hs
   have hsl := opStep_len o
   cases o with
   | none => exact absurd rfl hgo.2
   | some r =>
    have hr : r.length ≠ 0 := hgo.2
    have hrl : r.length ≤ l.length := hlo
    have g1 : decide (((r.length : Nat) : Int) > 0) = true := by simp; omega
    have g2 : decide (((acc.length : Nat) : Int) ≤ 500) = true := by simp; omega
    have t1 := takeG_t (some r) 1 (by decide) (by decide) (by rw [lenO]; omega)
    have n1 := tkN_lt 1 (by decide) (some r)
    unfold opStep at hs hsl
    obtain ⟨K, hK⟩ : ∃ K, tkN 1 (some r) = K := ⟨_, rfl⟩
    obtain ⟨o1, ho1⟩ : ∃ x, tkR 1 (some r) = x := ⟨_, rfl⟩
    have l1 := tkR_len 1 (some r)
    rw [ho1] at l1
    have hl1 : lenO o1 ≤ 140737488355328 := by rw [lenO] at l1; omega
    rw [hK] at t1 n1
    rw [hK, ho1] at hs hsl
    rw [ho1] at t1
    have t2 := tkp_t o1 hl1
    have t3 := takeG_t o1 4 (by decide) (by decide) hl1
    have n3 := tkN_lt 4 (by decide) o1
    obtain ⟨c1, e1, f1, q1⟩ := hb o1
    have i1 : ∀ F, imL F c1 = c1 := fun F => imL_free F c1 f1
    rw [e1] at t1 t2 t3
    have wK : IntKind.i64.wrap ((K : Nat) : Int) = (K : Int) := wrap_id (by omega)
    have e0 : rdO (some r) = .box [sb r, bl false] := rfl
    rw [e0] at t1 ⊢
    have htk : zal acc.length (acc.map opR) = acc.map opR := zap (by simp)
    simp only [g1, g2, zaa, zab, zac, push_cast, ↓reduceIte, reduceCtorEq, zB, zE, zA, zS, zL, zD, zM]
    refine call_mk t1 rfl ⟨q1, trivial⟩ ?_
    simp only [uw, f1, i1, wK, zaa, zab, zac, push_cast, ↓reduceIte, reduceCtorEq, zB, zE, zA, zS, zL, zD, zM]
    refine cnd_mk (fun hk => ?_) (fun hk => ?_)
    ·have hk : K = 1 := by
      have : (K : Int) = 1 := by simpa using hk
      omega
     subst hk
     rw [if_pos rfl] at hs hsl
     obtain ⟨⟨p1, p2, p3, p4⟩, hp⟩ : ∃ p, tk4N o1 = p := ⟨_, rfl⟩
     rw [hp] at hs t2
     obtain ⟨c2, e2, f2, q2⟩ := hb (tk4R o1)
     have i2 : ∀ F, imL F c2 = c2 := fun F => imL_free F c2 f2
     rw [e2] at t2
     simp only [f1, i1, zaa, zab, zac, push_cast, ↓reduceIte, reduceCtorEq, zB, zE, zA, zS, zL, zD, zM]
     refine call_mk t2 rfl ⟨q2.trans q1.symm, trivial⟩ ?_
     simp only [ptR4, n8, f1, i1, f2, i2, htk, zaa, zab, zac, push_cast, ↓reduceIte, reduceCtorEq, zB, zE, zA, zS, zL, zD, zM]
     refine ⟨by simp, ⟨by omega, by omega⟩, ⟨n, _, _, ?_, hs, Nat.le_trans hsl hlo, by simp, ?_⟩, by omega⟩
     ·simp
      omega
     ·rw [e2]
      simp [opR, n8]
    ·have hk : K ≠ 1 := by
      intro h
      subst h
      simp at hk
     rw [if_neg hk] at hs hsl
     obtain ⟨c2, e2, f2, q2⟩ := hb (tkR 4 o1)
     have i2 : ∀ F, imL F c2 = c2 := fun F => imL_free F c2 f2
     rw [e2] at t3
     obtain ⟨M, hM⟩ : ∃ M, tkN 4 o1 = M := ⟨_, rfl⟩
     rw [hM] at t3 n3 hs
     have wM : IntKind.i64.wrap ((M : Nat) : Int) = (M : Int) := wrap_id (by omega)
     simp only [f1, i1, zaa, zab, zac, push_cast, ↓reduceIte, reduceCtorEq, zB, zE, zA, zS, zL, zD, zM]
     refine call_mk t3 rfl ⟨q2.trans q1.symm, trivial⟩ ?_
     simp only [uw, n8, f1, i1, f2, i2, htk, wM, zaa, zab, zac, push_cast, ↓reduceIte, reduceCtorEq, zB, zE, zA, zS, zL, zD, zM]
     refine ⟨by simp, ⟨by omega, by omega⟩, ⟨n, _, _, ?_, hs, Nat.le_trans hsl hlo, by simp, ?_⟩, by omega⟩
     ·simp
      omega
     ·rw [e2]
      simp [opR, n8]
  ·have hs0 : Q = (o, acc) := by
    rw [← hs]
    by_cases h0 : lenO o = 0
    ·exact opsS_stop n o acc h0
    ·have : n = 0 := by
      rcases Nat.eq_zero_or_pos n with h | h
      ·exact h
      ·exact absurd ⟨by omega, h0⟩ hgo
     subst this
     rfl
   rw [hs0]
   have hbt := batch_t acc (by omega)
   obtain ⟨E, hE⟩ : ∃ E, batchE acc = E := ⟨_, rfl⟩
   have hfl : Flat (.tup [batchV acc, int .i64 (batchE acc)]) := by
    unfold batchV
    split <;> exact ⟨trivial, trivial, trivial⟩
   have hfo : ∀ o ∈ batchO acc, FlatO o := by
    unfold batchO
    split
    ·intro o ho
     rw [List.mem_singleton] at ho
     subst ho
     intro x hx
     obtain ⟨c, _, rfl⟩ := List.mem_map.1 hx
     trivial
    ·intro o ho
     cases ho
   have htk : zal acc.length (acc.map opR) = acc.map opR := zap (by simp)
   have hcnd : ∀ (l' : Bs), o = some l' → (bif decide (((l'.length : Nat) : Int) > 0) then decide (((acc.length : Nat) : Int) ≤ 500) else false) = false := fun l' h => by
    subst h
    by_cases h0 : l'.length = 0
    ·simp [h0]
    ·have : n = 0 := by
      rcases Nat.eq_zero_or_pos n with h | h
      ·exact h
      ·exact absurd ⟨by omega, h0⟩ hgo
     have : ¬ (((acc.length : Nat) : Int) ≤ 500) := by omega
     simp [this]
   have hBV : ∃ N : Nat, (batchE acc = 0 ∧ batchV acc = .own 1000000 0 0 N ∧ batchO acc = [rowB (opsBs acc)]) ∨ (batchE acc ≠ 0 ∧ batchV acc = .nils 1 (.v (.int .u8 0)) ∧ batchO acc = []) := by
    unfold batchV batchO
    by_cases h : batchE acc = 0
    ·exact ⟨_, .inl ⟨h, if_pos h, if_pos h⟩⟩
    ·exact ⟨0, .inr ⟨h, if_neg h, if_neg h⟩⟩
   obtain ⟨N, hBV⟩ := hBV
   have g0 : decide ((0 : Int) > 0) = false := rfl
   have g9 : ((0 : Int) != 0) = false := rfl
   cases o with
   | none =>
    have hq : (if ((none, acc) : Option Bs × List Op5).1 = none ∨ batchE ((none, acc) : Option Bs × List Op5).2 ≠ 0 then none else some ((none, acc) : Option Bs × List Op5).2) = none := if_pos (.inl rfl)
    rw [hq]
    rcases hBV with ⟨b0, b1, b2⟩ | ⟨b0, b1, b2⟩
    all_goals rw [b1] at hbt hfl
    all_goals rw [b2] at hbt hfo
    all_goals generalize batchE acc = E at hbt hfl b0 ⊢
    all_goals simp only [rdO, g0, zaa, zab, zac, push_cast, ↓reduceIte, reduceCtorEq, zB, zE, zA, zS, zL, zD, zM]
    all_goals refine callA_lend ?_
    all_goals simp only [htk, zaa, zab, zac, push_cast, ↓reduceIte, reduceCtorEq, zB, zE, zA, zS, zL, zD, zM]
    all_goals refine call_lend hbt rfl trivial hfl hfo ?_
    all_goals simp only [htk, zaa, zab, zac, push_cast, ↓reduceIte, reduceCtorEq, zB, zE, zA, zS, zL, zD, zM]
    all_goals exact ⟨rfl, rfl⟩
   | some l' =>
    have hcl := hcnd l' rfl
    have hor : ((some l', acc) : Option Bs × List Op5).1 = none ∨ batchE ((some l', acc) : Option Bs × List Op5).2 ≠ 0 ↔ batchE acc ≠ 0 := ⟨fun h => h.elim (fun h => by cases h) id, .inr⟩
    rcases hBV with ⟨b0, b1, b2⟩ | ⟨b0, b1, b2⟩
    ·rw [if_neg (fun h => (hor.1 h) b0)]
     rw [b1] at hbt hfl
     rw [b2] at hbt hfo
     rw [b0] at hbt hfl
     obtain ⟨C, hC⟩ : ∃ C, decide (((l'.length : Nat) : Int) > 0) = C := ⟨_, rfl⟩
     obtain ⟨D, hD⟩ : ∃ D, decide (((acc.length : Nat) : Int) ≤ 500) = D := ⟨_, rfl⟩
     rw [hC, hD] at hcl
     cases C <;> cases D <;> first | (cases hcl; done) | skip
     all_goals simp only [rdO, hC, hD, zaa, zab, zac, push_cast, ↓reduceIte, reduceCtorEq, zB, zE, zA, zS, zL, zD, zM]
     all_goals refine callA_lend ?_
     all_goals simp only [htk, zaa, zab, zac, push_cast, ↓reduceIte, reduceCtorEq, zB, zE, zA, zS, zL, zD, zM]
     all_goals refine call_lend hbt rfl trivial hfl hfo ?_
     all_goals simp only [htk, g9, zaa, zab, zac, push_cast, ↓reduceIte, reduceCtorEq, zB, zE, zA, zS, zL, zD, zM]
     all_goals exact ⟨rfl, rfl⟩
    ·rw [if_pos (hor.2 b0)]
     rw [b1] at hbt hfl
     rw [b2] at hbt hfo
     have g1 : (batchE acc != 0) = true := by simpa using b0
     generalize batchE acc = E at hbt hfl b0 g1 ⊢
     obtain ⟨C, hC⟩ : ∃ C, decide (((l'.length : Nat) : Int) > 0) = C := ⟨_, rfl⟩
     obtain ⟨D, hD⟩ : ∃ D, decide (((acc.length : Nat) : Int) ≤ 500) = D := ⟨_, rfl⟩
     rw [hC, hD] at hcl
     cases C <;> cases D <;> first | (cases hcl; done) | skip
     all_goals simp only [rdO, hC, hD, zaa, zab, zac, push_cast, ↓reduceIte, reduceCtorEq, zB, zE, zA, zS, zL, zD, zM]
     all_goals refine callA_lend ?_
     all_goals simp only [htk, zaa, zab, zac, push_cast, ↓reduceIte, reduceCtorEq, zB, zE, zA, zS, zL, zD, zM]
     all_goals refine call_lend hbt rfl trivial hfl hfo ?_
     all_goals simp only [htk, g1, zaa, zab, zac, push_cast, ↓reduceIte, reduceCtorEq, zB, zE, zA, zS, zL, zD, zM]
     all_goals exact ⟨rfl, rfl⟩

theorem Triple.weak {P : Program} {f : FuncId} {args : List AV} {po ro : List Ob} {res res' : AV} (h : Triple P f args po res ro) (hw : ∀ (w : World) (R : Nat → Prop) (ob : Obs) (ρ : Pl → Option Nat) (c : Value), RelA w R ob ρ res c → RelA w R ob ρ res' c) : Triple P f args po res' ro := by
 intro w cargs ρ B hgl hB hM hcs hargs
 refine (h w cargs ρ B hgl hB hM hcs hargs).mono ?_
 rintro e w' ⟨c, ρ', rfl, hM', hr⟩
 exact ⟨c, ρ', rfl, hM', hw _ _ _ _ _ hr⟩
structure AskD where
 k : Int
 ns : List Int
 ws : List Nat
 rg : List (Int × Int)
 os : List Op5
deriving DecidableEq
def AskD.av (a : AskD) : AV := askB a.k a.ns a.ws a.rg (a.os.map opR)
def AskD.rv (a : AskD) : RV := askR a.k a.ns a.ws a.rg a.os
def ask0 : AskD := ⟨0, [], [], [], []⟩
theorem nilOr_rv {w : World} {R : Nat → Prop} {ob : Obs} {ρ : Pl → Option Nat} {sz : Nat} {z : RV} {xs : List RV} {c : Value} (h : RelA w R ob ρ (nilOr sz z xs) c) : RelV w R (.sl sz xs) c := by
 cases xs with
 | nil =>
  cases h
  exact .sl sz [] none 0 (zaf _) (by decide) 0 0 (fun _ _ => undef) (fun h => by cases h) (fun i x h => by simp at h) (fun i x j y h => by simp at h) (fun i x j y h => by simp at h)
 | cons x xs =>
  cases h with
  | r h => exact h
theorem ask_weak (a : AskD) (w : World) (R : Nat → Prop) (ob : Obs) (ρ : Pl → Option Nat) (c : Value) (h : RelA w R ob ρ a.av c) : RelA w R ob ρ (.r a.rv) c := by
 unfold AskD.av askB at h
 cases h with
 | agg xs cs hl h =>
  refine .r (.agg _ _ (by simpa using hl) fun i x c hx hc => ?_)
  match i, hx with
  | 0, hx => cases hx; cases h 0 _ c rfl hc with | r h => exact h
  | 1, hx => cases hx; exact nilOr_rv (h 1 _ c rfl hc)
  | 2, hx => cases hx; exact nilOr_rv (h 2 _ c rfl hc)
  | 3, hx => cases hx; exact nilOr_rv (h 3 _ c rfl hc)
  | 4, hx => cases hx; exact nilOr_rv (h 4 _ c rfl hc)
  | n + 5, hx => cases hx
theorem tup_weak (a : AskD) (e : Int) (w : World) (R : Nat → Prop) (ob : Obs) (ρ : Pl → Option Nat) (c : Value) (h : RelA w R ob ρ (.tup [a.av, int .i64 e]) c) : RelA w R ob ρ (.tup [.r a.rv, int .i64 e]) c := by
 cases h with
 | tup xs cs hl h =>
  refine .tup _ _ (by simpa using hl) fun i x c hx hc => ?_
  match i, hx with
  | 0, hx => cases hx; exact ask_weak a _ _ _ _ _ (h 0 _ c rfl hc)
  | 1, hx => cases hx; exact h 1 _ c rfl hc
  | n + 2, hx => cases hx
def finD (k : Int) (ns : List Int) (rg : List (Int × Int)) : Except Int (List Nat) → AskD × Int
 | .ok wl => (⟨k, ns, wl, rg, []⟩, 0)
 | .error e => (ask0, e)
def loadD (k : Int) : Option (List Op5) → AskD × Int
 | none => (ask0, 10)
 | some os => (⟨k, [], [], [], os⟩, 0)
def wholeD (f : Form) (rest : Bs) : AskD × Int :=
 if f.1 = 16 then loadD f.1 (opsR rest.tail)
 else if f.2.2 = [] ∧ rest = [] then (⟨f.1, [], [], [], []⟩, 0)
 else if f.2.2 = [] ∨ rest = [] then (ask0, 16)
 else if (queryR f rest.tail).1.2.2 = true then finD f.1 (queryR f rest.tail).1.1 (queryR f rest.tail).2 (wordsP (queryR f rest.tail).1.2.1 [])
 else (ask0, 16)
def avD (x : AskD × Int) : AV × Int := (x.1.av, x.2)
theorem fin_av (k : Int) (ns : List Int) (rg : List (Int × Int)) (x : Except Int (List Nat)) : finP k ns rg x = avD (finD k ns rg x) := by cases x <;> rfl
theorem whole_av (f : Form) (rest : Bs) (h : f.1 ≠ 16) : wholeR f rest = avD (wholeD f rest) := by
 unfold wholeR wholeD
 rw [if_neg h]
 split
 ·rfl
 ·split
  ·rfl
  ·split
   ·exact fin_av _ _ _ _
   ·rfl
def wholeV (f : Form) (rest : Bs) : AV × Int := avD (wholeD f rest)
theorem finD_os (k : Int) (ns : List Int) (rg : List (Int × Int)) (x : Except Int (List Nat)) : (finD k ns rg x).1.os = [] := by cases x <;> rfl
theorem whole_no (f : Form) (rest : Bs) : (wholeD f rest).1.ns = [] ∨ (wholeD f rest).1.os = [] := by
 unfold wholeD
 split
 ·left
  cases opsR rest.tail <;> rfl
 ·right
  split
  ·rfl
  ·split
   ·rfl
   ·split
    ·exact finD_os _ _ _ _
    ·rfl
theorem loads_t (f : Form) (rest : Bs) (hk : f.1 = 16) (hr : rest ≠ []) (hl : rest.length ≤ 1000000) :
  Triple P0 27 [.r (formR f), sb rest] [] (.tup [(wholeV f rest).1, int .i64 (wholeV f rest).2]) [] := by
 unfold wholeV wholeD
 rw [if_pos hk]
 have hO := ops_t rest.tail (by simp; omega)
 cases ho : opsR rest.tail with
 | none =>
  rw [ho] at hO
  exact wload_t f rest hk hr hl 10 (by decide) hO
 | some os =>
  rw [ho] at hO
  obtain ⟨k, nm, fs⟩ := f
  simp only at hk
  subst hk
  have hfr : formR (16, nm, fs) = .agg [.v (.int .i64 16), .v (.string (bstr nm)), .sl 2 (fs.map fldR)] := rfl
  refine ask_form_whole_triple rfl (by decide) ?_
  have g16 : ((16 : Int) == 16) = true := rfl
  obtain ⟨N, hN⟩ : ∃ N : Int, ((rest.length : Nat) : Int) = N := ⟨_, rfl⟩
  have hN1 : 1 ≤ N := by
   have : rest.length ≠ 0 := fun h => hr (zav.1 h)
   omega
  have e1 : List.drop (zae 1) (zal N.toNat (bys rest)) = bys rest.tail := by
   rw [show N.toNat = rest.length by omega, take_map_len, show zae 1 = 1 from rfl, ← List.map_drop, List.drop_one]
  have ge : ((0 : Int) != 0) = false := rfl
  simp only [ask_form_whole_pc, hfr, g16, hN, e1, push_cast, ↓reduceIte, reduceCtorEq, zB, zE, zA, zS, zL, zD, zM]
  refine ⟨by omega, ?_⟩
  refine call_as (as' := [sb rest.tail]) rfl ?_
  refine call_mk hO rfl trivial ?_
  have hne : os ≠ [] := by
   intro e
   subst e
   unfold opsR at ho
   split at ho
   ·cases ho
   ·rename_i h
    apply h
    right
    have := Option.some.inj ho
    rw [this]
    decide
  have htk : zal os.length (os.map opR) = os.map opR := zap (by simp)
  simp only [opsA, opsO, htk, ge, avD, loadD, AskD.av, askB, push_cast, ↓reduceIte, reduceCtorEq, zB, zE, zA, zS, zL, zD, zM]
  obtain ⟨o, os', rfl⟩ : ∃ o os', os = o :: os' := by
   cases os with
   | nil => exact absurd rfl hne
   | cons o os' => exact ⟨o, os', rfl⟩
  first | rfl | exact ⟨rfl, rfl⟩ | kernel_rfl
theorem whole_any (f : Form) (hf : f ∈ formsL) (rest : Bs) (hr : f.1 = 16 → rest ≠ []) (hl : rest.length ≤ 1000000) :
  Triple P0 27 [.r (formR f), sb rest] [] (.tup [(wholeV f rest).1, int .i64 (wholeV f rest).2]) [] := by
 by_cases h : f.1 = 16
 ·exact loads_t f rest h (hr h) hl
 ·have hfl : f.2.2.length ≤ 1000 := by
   have : ∀ g ∈ formsL, g.2.2.length ≤ 1000 := by decide
   exact this f hf
  have := awhole_t f rest hl hfl h
  rw [whole_av f rest h] at this
  exact this
def parseD (l : Bs) : AskD × Int :=
 if 10000 < l.length then (ask0, 11)
 else match formsL.find? (nmF (upTo stopB (bhd l)).1) with
  | none => (ask0, 15)
  | some f => if (l.take 1 == [47]) = false ∨ decide (((upTo stopB (bhd l)).2.headD 0).toNat = 10) ≠ decide (f.1 = 16) then (ask0, 15) else wholeD f (upTo stopB (bhd l)).2
theorem parse_av (l : Bs) : parseG wholeV l = avD (parseD l) := by
 unfold parseG parseD
 split
 ·rfl
 ·cases formsL.find? (nmF (upTo stopB (bhd l)).1) with
  | none => rfl
  | some f =>
   simp only
   split <;> rfl
theorem parse_any (l : Bs) (hl : l.length ≤ 100000) : Triple P0 11 [sb l] [] (.tup [.r (parseD l).1.rv, int .i64 (parseD l).2]) [] := by
 have h := aparse_g wholeV (fun f rest => ?_) l (by omega) (decs_any l (by omega)) fun f hm hB hf hg hlen => ?_
 ·rw [parse_av] at h
  exact h.weak (tup_weak _ _)
 ·refine ⟨_, _, _, _, _, rfl, ?_⟩
  rcases whole_no f rest with h | h
  ·exact .inl h
  ·right
   rw [h]
   rfl
 ·refine whole_any f hm _ (fun h16 e => ?_) (by omega)
  rw [e, decide_eq_true h16] at hg
  cases hg

noncomputable def apiaryref9_PointOk_pc : PC :=
  (.seq (.reg [p_a 1 (.box (.t 0)), p_s 2 (.mov (.c (.r (.v (.bool false)))))])
 (.seq (.reg [p_s 3 (.fa 0 (.t 1)), p_s 4 (.ld none (.t 3)), p_s 5 (.bin .geq (.t 4) (o_i 1)), p_m 6 5, p_g 7 6 true (.fa 0 (.t 1)), p_g 8 6 true (.ld none (.t 7)), p_g 9 6 true (.bin .leq (.t 8) (o_i 2147483648)),
 p_s 10 (.pick (.t 6) (.t 9) (.c (.r (.v (.bool false))))), p_m 11 10, p_g 12 11 true (.fa 1 (.t 1)), p_g 13 11 true (.ld none (.t 12)), p_g 14 11 true (.fa 2 (.t 1)),
 p_g 15 11 true (.ld none (.t 14)), ⟨(some 16), (some (11, true)), 1, .call 95 [(.t 13), (.t 15)]⟩, p_s 17 (.pick (.t 11) (.t 16) (.c (.r (.v (.bool false))))), p_m 18 17,
 p_g 19 18 true (.fa 3 (.t 1)), p_g 20 18 true (.ld none (.t 19)), p_g 21 18 true (.bin .geq (.t 20) (o_i (-2147483648))), p_s 22 (.pick (.t 18) (.t 21) (.c (.r (.v (.bool false))))),
 p_m 23 22, p_g 24 23 true (.fa 3 (.t 1)), p_g 25 23 true (.ld none (.t 24)), p_g 26 23 true (.bin .lss (.t 25) (o_i 2147483648)), p_s 27 (.pick (.t 23) (.t 26) (.c (.r (.v (.bool false))))),
 p_m 2 27])
 .ret))
theorem apiaryref9_PointOk_triple : Fun P0 62 1 [(2, false, none)] apiaryref9_PointOk_pc := fun_mk Go.Proofs.Tryz.func62 rfl (by decide) (by kernel_rfl) (by decide) rfl (by kernel_rfl) (by kernel_rfl) (by decide)
noncomputable def apiaryref13_OpOk_pc : PC :=
  (.seq (.reg [p_a 1 (.box (.t 0)), p_s 2 (.mov (.c (.r (.v (.bool false)))))])
 (.seq (.seq (.reg [p_s 3 (.fa 0 (.t 1)), p_s 4 (.ld none (.t 3))])
 (.block 0 (.seq (.reg [p_s 6 (.bin .eql (.t 4) (o_i 1)), p_m 5 6])
 (.cond (.t 5)
 (.seq (.reg [p_s 7 (.fa 1 (.t 1)), p_s 8 (.ld (some 4) (.t 7)), p_c 9 1 62 [.t 8], p_m 2 9])
 .ret)
 (.seq (.reg [p_s 11 (.bin .eql (.t 4) (o_i 2)), p_m 10 11])
 (.cond (.t 10)
 (.seq (.reg [p_s 12 (.fa 1 (.t 1)), p_s 13 (.fa 0 (.t 12)), p_s 14 (.ld none (.t 13)), p_s 15 (.bin .geq (.t 14) (o_i 1)), p_m 16 15, p_g 17 16 true (.fa 1 (.t 1)), p_g 18 16 true (.fa 0 (.t 17)),
 p_g 19 16 true (.ld none (.t 18)), p_g 20 16 true (.bin .leq (.t 19) (o_i 2147483648)), p_s 21 (.pick (.t 16) (.t 20) (.c (.r (.v (.bool false))))), p_m 22 21, p_g 23 22 true (.fa 1 (.t 1)),
 p_g 24 22 true (.ld (some 4) (.t 23)), p_g 25 22 true (.fa 1 (.t 1)), p_g 26 22 true (.fa 0 (.t 25)), p_g 27 22 true (.ld none (.t 26)), p_g 28 22 true (.build [(.r (.v (.int .i64 0))), (.r (.v (.int .i64 0))), (.r (.v (.int .i64 0))), (.r (.v (.int .i64 0)))] [(0, 1, (.t 27))]),
 p_g 29 22 true (.eqa false [0, 0, 0, 0] (.t 24) (.t 28)), p_s 30 (.pick (.t 22) (.t 29) (.c (.r (.v (.bool false))))), p_m 2 30])
 .ret)
 .skip))))))
 (.seq (.reg [p_s 2 (.mov (.c (.r (.v (.bool false)))))])
 .ret)))
theorem apiaryref13_OpOk_triple : Fun P0 36 1 [(2, false, none)] apiaryref13_OpOk_pc := fun_mk Go.Proofs.Tryz.func36 rfl (by decide) (by kernel_rfl) (by decide) rfl (by kernel_rfl) (by kernel_rfl) (by decide)
noncomputable def apiaryref13_BatchMay_pc : PC :=
  (.seq (.reg [p_s 2 (.mov (o_i 0))])
 (.seq (.seq (.reg [p_m 4 0, p_s 5 (.len false (.t 4)), p_s 6 (.bin .gtr (.t 5) (o_i 500))])
 (.cond (.t 6)
 (.seq (.reg [p_s 2 (.mov (o_i 11))])
 .ret)
 .skip))
 (.seq (.seq (.reg [p_s 3 (.mov (o_i 0))])
 (.block 0 (.loop (.seq (.seq (.reg [p_m 7 3, p_m 8 0, p_s 9 (.len false (.t 8)), p_s 10 (.bin .lss (.t 7) (.t 9))])
 (.cond (.t 10)
 .skip
 (.exit 0)))
 (.seq (.block 1 (.seq (.reg [p_m 13 0, p_m 14 3, p_s 15 (.ia 5 (.agg [(.v (.int .i64 0)), (.v (.int .i64 0)), (.v (.int .i64 0)), (.v (.int .i64 0)), (.v (.int .i64 0))]) (.t 13) (.t 14)), p_s 16 (.ld (some 5) (.t 15)),
 p_c 17 1 36 [.t 16], p_s 18 (.un .not (.t 17))])
 (.cond (.t 18)
 (.seq (.reg [p_s 2 (.mov (o_i 1))])
 .ret)
 .skip)))
 (.reg [p_m 11 3, p_s 12 (.bin .add (.t 11) (o_i 1)), p_m 3 12]))))))
 (.seq (.seq (.reg [p_m 19 0, p_s 20 (.len false (.t 19)), p_s 21 (.bin .eql (.t 20) (o_i 0))])
 (.cond (.t 21)
 (.seq (.reg [p_s 2 (.mov (o_i 1))])
 .ret)
 .skip))
 (.seq (.reg [p_s 2 (.mov (o_i 0))])
 .ret)))))
theorem apiaryref13_BatchMay_triple : Fun P0 30 1 [(2, false, none)] apiaryref13_BatchMay_pc := fun_mk Go.Proofs.Tryz.func30 rfl (by decide) (by kernel_rfl) (by decide) rfl (by kernel_rfl) (by kernel_rfl) (by decide)
theorem pt_eq (k x y v : Int) : ptB k x y v = (bif keyB k then bif decide (inW x y) then bif decide (v ≥ -2147483648) then decide (v < 2147483648) else false else false else false) := by
 unfold ptB keyB inWB inW
 by_cases h1 : 1 ≤ k ∧ k ≤ 2147483648 <;> by_cases h2 : 0 ≤ x ∧ x < 1073741824 <;> by_cases h3 : 0 ≤ y ∧ y < 1073741824 <;> by_cases h4 : -2147483648 ≤ v <;> by_cases h5 : v < 2147483648 <;> simp [h1, h2, h3, h4, h5] <;> omega
theorem ptok_t (k x y v : Int) : Triple P0 62 [.r (ptR4 k x y v)] [] (bl (ptB k x y v)) [] := by
 refine apiaryref9_PointOk_triple rfl (by decide) ?_
 have t1 := rworld_t x y
 rw [pt_eq]
 have e : keyB k = (bif decide (k ≥ 1) then decide (k ≤ 2147483648) else false) := by
  unfold keyB
  by_cases h1 : 1 ≤ k <;> by_cases h2 : k ≤ 2147483648 <;> simp [h1, h2]
 rw [e]
 obtain ⟨A, hA⟩ : ∃ A, decide (k ≥ 1) = A := ⟨_, rfl⟩
 obtain ⟨B, hB⟩ : ∃ B, decide (k ≤ 2147483648) = B := ⟨_, rfl⟩
 obtain ⟨C, hC⟩ : ∃ C, decide (inW x y) = C := ⟨_, rfl⟩
 obtain ⟨D, hD⟩ : ∃ D, decide (v ≥ -2147483648) = D := ⟨_, rfl⟩
 rw [hC] at t1 ⊢
 rw [hA, hB, hD]
 cases A <;> cases B <;> simp only [apiaryref9_PointOk_pc, ptR4, n8, hA, hB, hD, push_cast, ↓reduceIte, reduceCtorEq, zB, zE, zA, zS, zL, zD, zM]
 refine call_mk t1 rfl trivial ?_
 cases C <;> simp only [hA, hB, hD, push_cast, ↓reduceIte, reduceCtorEq, zB, zE, zA, zS, zL, zD, zM]
theorem del_eq (key x y v : Int) : (keyB key && decide (x = 0 ∧ y = 0 ∧ v = 0)) = (bif decide (key ≥ 1) then bif decide (key ≤ 2147483648) then (key == key && (x == 0 && (y == 0 && v == 0))) else false else false) := by
 unfold keyB
 by_cases h1 : 1 ≤ key <;> by_cases h2 : key ≤ 2147483648 <;> simp [h1, h2] <;> rfl
theorem opok_t (o : Op5) : Triple P0 36 [.r (opR o)] [] (bl (opB o)) [] := by
 obtain ⟨k, key, x, y, v⟩ := o
 refine apiaryref13_OpOk_triple rfl (by decide) ?_
 simp only [apiaryref13_OpOk_pc, opR, n8, opB, push_cast, ↓reduceIte, reduceCtorEq, zB, zE, zA, zS, zL, zD, zM]
 refine cnd_mk (fun hc => ?_) (fun hc => ?_)
 ·have hk : k = 1 := by simpa using hc
  subst hk
  simp only [↓reduceIte, push_cast, ↓reduceIte, reduceCtorEq, zB, zE, zA, zS, zL, zD, zM]
  refine call_as (as' := [.r (ptR4 key x y v)]) rfl ?_
  refine call_mk (ptok_t key x y v) rfl trivial ?_
  simp only [push_cast, ↓reduceIte, reduceCtorEq, zB, zE, zA, zS, zL, zD, zM]
 ·have hk : k ≠ 1 := by simpa using hc
  rw [if_neg hk]
  simp only [push_cast, ↓reduceIte, reduceCtorEq, zB, zE, zA, zS, zL, zD, zM]
  refine cnd_mk (fun hc => ?_) (fun hc => ?_)
  ·have hk : k = 2 := by simpa using hc
   subst hk
   rw [if_pos rfl, del_eq]
   obtain ⟨A, hA⟩ : ∃ A, decide (key ≥ 1) = A := ⟨_, rfl⟩
   obtain ⟨B, hB⟩ : ∃ B, decide (key ≤ 2147483648) = B := ⟨_, rfl⟩
   rw [hA, hB]
   cases A <;> cases B <;> simp only [hA, hB, push_cast, ↓reduceIte, reduceCtorEq, zB, zE, zA, zS, zL, zD, zM]
  ·have hk : k ≠ 2 := by simpa using hc
   rw [if_neg hk]
   simp only [push_cast, ↓reduceIte, reduceCtorEq, zB, zE, zA, zS, zL, zD, zM]
def mayE (l : List Op5) : Int := if 500 < l.length then 11 else if l.all opB = false then 1 else if l = [] then 1 else 0
theorem mayE_eq (l : List Op5) : mayE l = batchE l := by
 unfold mayE batchE
 by_cases h : 500 < l.length
 ·rw [if_pos h, if_pos h]
 ·rw [if_neg h, if_neg h]
  by_cases h1 : l.all opB = false
  ·rw [if_pos h1, if_pos (.inr h1)]
  ·rw [if_neg h1]
   by_cases h2 : l = []
   ·rw [if_pos h2, if_pos (.inl h2)]
   ·rw [if_neg h2, if_neg (fun h => h.elim h2 h1)]
theorem may_t (l : List Op5) (hl : l.length ≤ 1000000000) : Triple P0 30 [.r (.sl 5 (l.map opR))] [] (int .i64 (batchE l)) [] := by
 rw [← mayE_eq]
 refine apiaryref13_BatchMay_triple rfl (by decide) ?_
 obtain ⟨E, hE⟩ : ∃ E, mayE l = E := ⟨_, rfl⟩
 rw [hE]
 unfold mayE at hE
 simp only [apiaryref13_BatchMay_pc, push_cast, ↓reduceIte, reduceCtorEq, zB, zE, zA, zS, zL, zD, zM]
 refine cnd_mk (fun hb => ?_) (fun hb => ?_)
 ·have hb : 500 < l.length := by simp at hb; omega
  rw [if_pos hb] at hE
  subst hE
  simp only [push_cast, ↓reduceIte, reduceCtorEq, zB, zE, zA, zS, zL, zD, zM]
 ·have hb : l.length ≤ 500 := by simp at hb; omega
  rw [if_neg (by omega)] at hE
  simp only [push_cast, ↓reduceIte, reduceCtorEq, zB, zE, zA, zS, zL, zD, zM]
  refine run_loop [(0, false), (3, false)] (fun vs pos los => ∃ i : Nat, i ≤ l.length ∧ (∀ o ∈ l.take i, opB o = true) ∧ vs = [.r (.sl 5 (l.map opR)), int .i64 i] ∧ pos = [] ∧ los = [])
   (fun vs _ _ => match vs with | [_, .r (.v (.int _ j))] => (l.length - j).toNat | _ => 0) rfl ?_ ?_
  ·simp only [push_cast, ↓reduceIte, reduceCtorEq, zB, zE, zA, zS, zL, zD, zM]
   exact ⟨0, by omega, by simp, rfl⟩
  ·rintro vs pos los ⟨i, i0, hal, rfl, rfl, rfl⟩
   simp only [push_cast, ↓reduceIte, reduceCtorEq, zB, zE, zA, zS, zL, zD, zM]
   refine cnd_mk (fun hi => ?_) (fun hi => ?_)
   ·have hi : i < l.length := by simpa using hi
    obtain ⟨o, ho⟩ : ∃ o, l[i] = o := ⟨_, rfl⟩
    have hg : ∀ z, (l.map opR).getD i z = .agg [n8 o.k, n8 o.key, n8 o.x, n8 o.y, n8 o.v] := fun z => by
     rw [zah]
     simp [hi, ho, opR]
    have w1 : IntKind.i64.wrap ((i : Int) + 1) = (i : Int) + 1 := wrap_id (by omega)
    simp only [hg, n8, w1, zaa, zab, zac, push_cast, ↓reduceIte, reduceCtorEq, zB, zE, zA, zS, zL, zD, zM]
    refine ⟨by omega, ?_⟩
    refine call_as (as' := [.r (opR o)]) rfl ?_
    refine call_mk (opok_t o) rfl trivial ?_
    cases hop : opB o with
    | false =>
     have hna : l.all opB = false := by
      rw [List.all_eq_false]
      exact ⟨o, by rw [← ho]; exact List.getElem_mem hi, by rw [hop]; decide⟩
     rw [if_pos hna] at hE
     subst hE
     simp only [push_cast, ↓reduceIte, reduceCtorEq, zB, zE, zA, zS, zL, zD, zM]
    | true =>
     simp only [w1, push_cast, ↓reduceIte, reduceCtorEq, zB, zE, zA, zS, zL, zD, zM]
     refine ⟨⟨i + 1, by omega, ?_, by simp⟩, by omega⟩
     rw [zaw hi, ho]
     intro x hx
     rcases List.mem_append.1 hx with hx | hx
     ·exact hal x hx
     ·rw [List.mem_singleton] at hx
      rw [hx, hop]
   ·have hi : i = l.length := zao i0 (by simpa using hi)
    subst hi
    rw [List.take_length] at hal
    have hna : ¬ l.all opB = false := by
     intro h
     rw [List.all_eq_true.2 hal] at h
     cases h
    rw [if_neg hna] at hE
    simp only [push_cast, ↓reduceIte, reduceCtorEq, zB, zE, zA, zS, zL, zD, zM]
    refine cnd_mk (fun hc => ?_) (fun hc => ?_)
    ·have : l = [] := by
      have : l.length = 0 := by simpa using hc
      exact zav.1 this
     rw [if_pos this] at hE
     subst hE
     simp only [push_cast, ↓reduceIte, reduceCtorEq, zB, zE, zA, zS, zL, zD, zM]
    ·have : l ≠ [] := fun e => by
      subst e
      simp at hc
     rw [if_neg this] at hE
     subst hE
     simp only [push_cast, ↓reduceIte, reduceCtorEq, zB, zE, zA, zS, zL, zD, zM]

def ptD (s : Bs) : RV := ptR4 (beN (s.take 4) 0) (beN ((s.take 8).drop 4) 0) (beN ((s.take 12).drop 8) 0) (s32 (beN ((s.take 16).drop 12) 0))
def ropsP : Nat → Bs → List Op5 → Option (List Op5)
 | 0, _, acc => some acc
 | n + 1, [], acc => some acc
 | n + 1, c :: r, acc =>
  if c.toNat = 1 ∧ 16 ≤ r.length then ropsP n (r.drop 16) (acc ++ [⟨1, beN (r.take 4) 0, beN ((r.take 8).drop 4) 0, beN ((r.take 12).drop 8) 0, s32 (beN ((r.take 16).drop 12) 0)⟩])
  else if c.toNat = 2 ∧ 4 ≤ r.length then ropsP n (r.drop 4) (acc ++ [⟨2, beN (r.take 4) 0, 0, 0, 0⟩])
  else none
def ropsR (l : Bs) : Option (List Op5) := match ropsP l.length l [] with
 | none => none
 | some acc => if batchE acc ≠ 0 then none else some acc

noncomputable def apiaryref21_Names_pc : PC :=
  (.seq (.reg [p_s 0 (.mov (.c (.nils 1 (.v (.string ⟨#[]⟩))))), p_s 1 (.mov (.c (.nils 1 (.v (.string ⟨#[]⟩)))))])
 (.seq (.reg [p_a 2 (.bsl 1 (.v (.string ⟨#[]⟩)) [(.c (.r (.v (.string ⟨#[99, 101, 108, 108]⟩)))), (.c (.r (.v (.string ⟨#[112, 97, 114, 101, 110, 116]⟩)))), (.c (.r (.v (.string ⟨#[107, 105, 100, 115]⟩)))), (.c (.r (.v (.string ⟨#[110, 101, 97, 114]⟩)))), (.c (.r (.v (.string ⟨#[114, 105, 110, 103]⟩)))), (.c (.r (.v (.string ⟨#[100, 105, 115, 107]⟩)))), (.c (.r (.v (.string ⟨#[100, 105, 115, 116]⟩)))), (.c (.r (.v (.string ⟨#[98, 111, 120]⟩)))), (.c (.r (.v (.string ⟨#[115, 116, 97, 116]⟩)))), (.c (.r (.v (.string ⟨#[116, 111, 112]⟩)))), (.c (.r (.v (.string ⟨#[116, 105, 108, 101]⟩)))), (.c (.r (.v (.string ⟨#[115, 121, 110, 99]⟩)))), (.c (.r (.v (.string ⟨#[109, 97, 114, 107]⟩)))), (.c (.r (.v (.string ⟨#[105, 110, 102, 111]⟩)))), (.c (.r (.v (.string ⟨#[102, 105, 108, 108]⟩)))), (.c (.r (.v (.string ⟨#[108, 111, 97, 100]⟩))))]),
 p_a 3 (.bsl 1 (.v (.string ⟨#[]⟩)) [(.c (.r (.v (.string ⟨#[120, 121, 114]⟩)))), (.c (.r (.v (.string ⟨#[119]⟩)))), (.c (.r (.v (.string ⟨#[119]⟩)))), (.c (.r (.v (.string ⟨#[119]⟩)))), (.c (.r (.v (.string ⟨#[119, 107]⟩)))), (.c (.r (.v (.string ⟨#[119, 107]⟩)))), (.c (.r (.v (.string ⟨#[119, 118]⟩)))), (.c (.r (.v (.string ⟨#[120, 121, 117, 118, 114]⟩)))), (.c (.r (.v (.string ⟨#[119]⟩)))), (.c (.r (.v (.string ⟨#[114, 107]⟩)))), (.c (.r (.v (.string ⟨#[122, 120, 121, 114]⟩)))), (.c (.r (.v (.string ⟨#[]⟩)))), (.c (.r (.v (.string ⟨#[]⟩)))), (.c (.r (.v (.string ⟨#[]⟩)))), (.c (.r (.v (.string ⟨#[114, 112]⟩)))), (.c (.r (.v (.string ⟨#[]⟩))))]),
 p_m 0 2, p_m 1 3])
 .ret))
theorem apiaryref21_Names_triple : Fun P0 32 0 [(0, false, none), (1, false, none)] apiaryref21_Names_pc := fun_mk Go.Proofs.Tryz.func32 rfl (by decide) (by kernel_rfl) (by decide) rfl (by kernel_rfl) (by kernel_rfl) (by decide)
def namesL : List Bs := [[99, 101, 108, 108], [112, 97, 114, 101, 110, 116], [107, 105, 100, 115], [110, 101, 97, 114], [114, 105, 110, 103], [100, 105, 115, 107], [100, 105, 115, 116], [98, 111, 120], [115, 116, 97, 116], [116, 111, 112], [116, 105, 108, 101], [115, 121, 110, 99], [109, 97, 114, 107], [105, 110, 102, 111], [102, 105, 108, 108], [108, 111, 97, 100]]
def keysL : List Bs := [[120, 121, 114], [119], [119], [119], [119, 107], [119, 107], [119, 118], [120, 121, 117, 118, 114], [119], [114, 107], [122, 120, 121, 114], [], [], [], [114, 112], []]
theorem names_t : Triple P0 32 [] [] (.tup [.own 1000000 0 0 16, .own 1000001 0 0 16]) [rowS namesL, rowS keysL] := by
 refine apiaryref21_Names_triple rfl (by decide) ?_
 simp only [apiaryref21_Names_pc, push_cast, ↓reduceIte, reduceCtorEq, zB, zE, zA, zS, zL, zD, zM]
 exact ⟨by simp, by simp, rfl⟩
def cornD : List Bs → List (Int × Int) → List (Int × Int) × Bool
 | a :: b :: r, out => match pv a, pv b with
  | some x, some y => cornD r (out ++ [(x, y)])
  | _, _ => (out, false)
 | _, out => (out, true)
def qk (k : Int) : Bs → List Bs → List Int → List Bs → List (Int × Int) → (List Int × List Bs × List (Int × Int)) × Bool
 | [], _, ns, ws, rg => ((ns, ws, rg), true)
 | c :: ks, ps, ns, ws, rg => match valP c (ps.headD []) with
  | none => ((ns, ws, rg), false)
  | some v => if wordB k c = true then qk k ks ps.tail ns (ws ++ [v]) rg
   else if c = 112 then (if (pieces 44 v).length % 2 = 1 ∨ 200 < (pieces 44 v).length then ((ns, ws, rg), false)
    else if (cornD (pieces 44 v) rg).2 = true then qk k ks ps.tail ns ws (cornD (pieces 44 v) rg).1 else ((ns, ws, (cornD (pieces 44 v) rg).1), false))
   else match pv v with
    | none => ((ns, ws, rg), false)
    | some n => qk k ks ps.tail (ns ++ [n]) ws rg
def rqV (k : Int) (x : (List Int × List Bs × List (Int × Int)) × Nat) : AV := match x.2 with
 | 0 => .tup [askA k x.1.1 [] x.1.2.2, .own 1000000 0 0 x.1.2.1.length, int .i64 0]
 | 1 => .tup [askA k x.1.1 [] x.1.2.2, .nils 1 (.v (.string ⟨#[]⟩)), int .i64 0]
 | _ => .tup [askA k x.1.1 [] x.1.2.2, .nils 1 (.v (.string ⟨#[]⟩)), int .i64 16]
def rqO (x : (List Int × List Bs × List (Int × Int)) × Nat) : List Ob := match x.2 with
 | 0 => [rowS x.1.2.1]
 | _ => []
def qst (x : (List Int × List Bs × List (Int × Int)) × Bool) : (List Int × List Bs × List (Int × Int)) × Nat := (x.1, if x.2 = true then 0 else 2)
def rqS (k : Int) (ks s : Bs) : (List Int × List Bs × List (Int × Int)) × Nat :=
 if ks = [] then (if s = [] then (([], [], []), 1) else (([], [], []), 2))
 else if s.headD 0 ≠ 63 then (([], [], []), 2)
 else if (pieces 38 s.tail).length ≠ ks.length then (([], [], []), 2)
 else qst (qk k ks (pieces 38 s.tail) [] [] [])
def zbx : Ob := .box [int .i64 0, .nils 1 (n8 0), .nils 1 (u8R 0), .nils 2 ptZ, .nils 5 opZ]
def rlos (k : Int) (PS : List Bs) (ws : List Bs) : List Int → List (Int × Int) → List Ob
 | [], [] => [rowS PS, rowS ws, zbx, .box [int .i64 k, .nils 1 (n8 0), .nils 1 (u8R 0), .nils 2 ptZ, .nils 5 opZ]]
 | [], g :: gs => [rowS PS, rowS ws, zbx, .box [int .i64 k, .nils 1 (n8 0), .nils 1 (u8R 0), .own 2000004 0 0 (gs.length + 1), .nils 5 opZ], .row 2 ptZ true true ((g :: gs).map ptR)]
 | n :: nr, [] => [rowS PS, rowS ws, zbx, .box [int .i64 k, .own 2000004 0 0 (nr.length + 1), .nils 1 (u8R 0), .nils 2 ptZ, .nils 5 opZ], .row 1 (n8 0) true true ((n :: nr).map n8)]
 | n :: nr, g :: gs => [rowS PS, rowS ws, zbx, .box [int .i64 k, .own 2000004 0 0 (nr.length + 1), .nils 1 (u8R 0), .own 2000005 0 0 (gs.length + 1), .nils 5 opZ], .row 1 (n8 0) true true ((n :: nr).map n8), .row 2 ptZ true true ((g :: gs).map ptR)]
def rlos2 (k : Int) (CS PS : List Bs) (ws : List Bs) : List Int → List (Int × Int) → List Ob
 | [], [] => [rowS CS, rowS PS, rowS ws, zbx, .box [int .i64 k, .nils 1 (n8 0), .nils 1 (u8R 0), .nils 2 ptZ, .nils 5 opZ]]
 | [], g :: gs => [rowS CS, rowS PS, rowS ws, zbx, .box [int .i64 k, .nils 1 (n8 0), .nils 1 (u8R 0), .own 2000005 0 0 (gs.length + 1), .nils 5 opZ], .row 2 ptZ true true ((g :: gs).map ptR)]
 | n :: nr, [] => [rowS CS, rowS PS, rowS ws, zbx, .box [int .i64 k, .own 2000005 0 0 (nr.length + 1), .nils 1 (u8R 0), .nils 2 ptZ, .nils 5 opZ], .row 1 (n8 0) true true ((n :: nr).map n8)]
 | n :: nr, g :: gs => [rowS CS, rowS PS, rowS ws, zbx, .box [int .i64 k, .own 2000005 0 0 (nr.length + 1), .nils 1 (u8R 0), .own 2000006 0 0 (gs.length + 1), .nils 5 opZ], .row 1 (n8 0) true true ((n :: nr).map n8), .row 2 ptZ true true ((g :: gs).map ptR)]

def askW (k : Int) (ns : List Int) (rg : List (Int × Int)) : AV := .agg [int .i64 k, .r (.sl 1 (ns.map n8)), .nils 1 (u8R 0), .r (.sl 2 (rg.map ptR)), .nils 5 opZ]
def kdS (nm : Bs) : List Bs → Nat → Nat → Nat
 | [], _, cur => cur
 | x :: r, i, cur => kdS nm r (i + 1) (if x = nm then i + 1 else cur)
def loadB (rest : Bs) : Bool := decide ((rest.headD 0).toNat = 10)
def bodyS (kd : Nat) (rest : Bs) : (AskD × Int) × Bool :=
 if kd = 16 then (loadD 16 (ropsR rest.tail), false)
 else if (rqS kd (keysL.getD (kd - 1) []) rest).2 = 2 then ((ask0, 16), false)
 else (finD kd (rqS kd (keysL.getD (kd - 1) []) rest).1.1 (rqS kd (keysL.getD (kd - 1) []) rest).1.2.2 (wordsP (rqS kd (keysL.getD (kd - 1) []) rest).1.2.1 []), match wordsP (rqS kd (keysL.getD (kd - 1) []) rest).1.2.1 [] with | .ok _ => true | .error _ => false)
def pathB (kd : Nat) (rest : Bs) : Bool := decide (kd = 0 ∨ (kd = 16 ∧ loadB rest = false) ∨ (kd ≠ 16 ∧ loadB rest = true))
def askS (s : Bs) : (AskD × Int) × Bool :=
 if 10000 < s.length then ((ask0, 11), false)
 else if s.take 1 ≠ [47] then ((ask0, 15), false)
 else if pathB (kdS (upTo stopB s.tail).1 namesL 0 0) (upTo stopB s.tail).2 = true then ((ask0, 15), false)
 else bodyS (kdS (upTo stopB s.tail).1 namesL 0 0) (upTo stopB s.tail).2
def askF (x : (AskD × Int) × Bool) : AV := if x.2 = true then .agg [int .i64 x.1.1.k, .r (.sl 1 (x.1.1.ns.map n8)), nilOr 1 (u8R 0) (x.1.1.ws.map u8R), .r (.sl 2 (x.1.1.rg.map ptR)), .nils 5 opZ] else x.1.1.av
def rqW (k : Int) (x : (List Int × List Bs × List (Int × Int)) × Nat) : AV := match x.2 with
 | 0 => .tup [askW k x.1.1 x.1.2.2, .own 1000000 0 0 x.1.2.1.length, int .i64 0]
 | 1 => .tup [askW k x.1.1 x.1.2.2, .nils 1 (.v (.string ⟨#[]⟩)), int .i64 0]
 | _ => .tup [askW k x.1.1 x.1.2.2, .nils 1 (.v (.string ⟨#[]⟩)), int .i64 16]
def rwl (k : Int) (ns : List Int) (rg : List (Int × Int)) (ws : List Bs) : List Nat → List Ob
 | [] => [rowS ws, zbx, .box [int .i64 k, .r (.sl 1 (ns.map n8)), .nils 1 (u8R 0), .r (.sl 2 (rg.map ptR)), .nils 5 opZ]]
 | a :: r => [rowS ws, zbx, .box [int .i64 k, .r (.sl 1 (ns.map n8)), .own 2000003 0 0 (r.length + 1), .r (.sl 2 (rg.map ptR)), .nils 5 opZ], .row 1 (u8R 0) true true ((a :: r).map u8R)]

theorem opsS_acc : ∀ (n : Nat) (o : Option Bs) (acc : List Op5), ∃ l, (opsS n o acc).2 = acc ++ l
 | 0, o, acc => ⟨[], by simp [opsS]⟩
 | n + 1, o, acc => by
  rw [opsS]
  split
  ·exact ⟨[], by simp⟩
  ·obtain ⟨l, hl⟩ := opsS_acc n (opStep o).2 (acc ++ [(opStep o).1])
   exact ⟨(opStep o).1 :: l, by rw [hl]; simp⟩
theorem batchE_bad {l : List Op5} {o : Op5} (h : o ∈ l) (hb : opB o = false) : batchE l ≠ 0 := by
 unfold batchE
 split
 ·decide
 ·rw [if_pos (.inr (by rw [List.all_eq_false]; exact ⟨o, h, by rw [hb]; decide⟩))]
  decide
theorem batchE_long {l : List Op5} (h : 500 < l.length) : batchE l ≠ 0 := by
 unfold batchE
 rw [if_pos h]
 decide
theorem opsS_none : ∀ (n : Nat) (acc : List Op5), opsS n none acc = (none, acc)
 | 0, _ => rfl
 | n + 1, acc => by rw [opsS, if_pos (show lenO none = 0 from rfl)]
def opsOk (x : Option Bs × List Op5) : Option (List Op5) := if x.1 = none ∨ batchE x.2 ≠ 0 then none else some x.2
def ropsOk : Option (List Op5) → Option (List Op5)
 | none => none
 | some acc => if batchE acc ≠ 0 then none else some acc
theorem ropsP_acc : ∀ (m : Nat) (l : Bs) (acc r : List Op5), ropsP m l acc = some r → ∃ t, r = acc ++ t
 | 0, l, acc, r, h => ⟨[], by simp [ropsP] at h; simp [h]⟩
 | m + 1, [], acc, r, h => ⟨[], by simp [ropsP] at h; simp [h]⟩
 | m + 1, c :: l, acc, r, h => by
  rw [ropsP] at h
  split at h
  ·obtain ⟨t, ht⟩ := ropsP_acc m _ _ r h
   exact ⟨_ :: t, by rw [ht, List.append_assoc]; rfl⟩
  ·split at h
   ·obtain ⟨t, ht⟩ := ropsP_acc m _ _ r h
    exact ⟨_ :: t, by rw [ht, List.append_assoc]; rfl⟩
   ·cases h
theorem ropsOk_bad {m : Nat} {l : Bs} {acc : List Op5} (h : batchE acc ≠ 0 ∧ acc ≠ []) : ropsOk (ropsP m l acc) = none := by
 cases hr : ropsP m l acc with
 | none => rfl
 | some r =>
  obtain ⟨t, rfl⟩ := ropsP_acc m l acc r hr
  show (if batchE (acc ++ t) ≠ 0 then none else some (acc ++ t)) = none
  rw [if_pos]
  obtain ⟨h1, h2⟩ := h
  unfold batchE at h1
  split at h1
  ·exact batchE_long (by simp; omega)
  ·split at h1
   ·rename_i h3
    rcases h3 with h3 | h3
    ·exact absurd h3 h2
    ·rw [List.all_eq_false] at h3
     obtain ⟨o, ho, hb⟩ := h3
     exact batchE_bad (o := o) (by simp [ho]) (by simpa using hb)
   ·exact absurd rfl h1
theorem tk_some {k : Nat} {l : Bs} (h : k ≤ l.length) : tkN k (some l) = beN (l.take k) 0 ∧ tkR k (some l) = some (l.drop k) := by
 rw [tkN, tkR, if_pos h, if_pos h]
 exact ⟨rfl, rfl⟩
theorem tk_few {k : Nat} {l : Bs} (h : l.length < k) : tkR k (some l) = none := by
 rw [tkR, if_neg (by omega)]
theorem tk4_few {l : Bs} (h : l.length < 16) : tk4R (some l) = none := by
 unfold tk4R
 by_cases h1 : l.length < 4
 ·rw [tk_few h1]; rfl
 ·rw [(tk_some (show 4 ≤ l.length by omega)).2]
  by_cases h2 : l.length < 8
  ·rw [tk_few (l := l.drop 4) (by simp; omega)]; rfl
  ·rw [(tk_some (l := l.drop 4) (k := 4) (by simp; omega)).2]
   by_cases h3 : l.length < 12
   ·rw [tk_few (l := (l.drop 4).drop 4) (by simp; omega)]; rfl
   ·rw [(tk_some (l := (l.drop 4).drop 4) (k := 4) (by simp; omega)).2]
    exact tk_few (by simp; omega)
theorem tk4_some {l : Bs} (h : 16 ≤ l.length) : tk4N (some l) = (((beN (l.take 4) 0 : Nat) : Int), ((beN ((l.take 8).drop 4) 0 : Nat) : Int), ((beN ((l.take 12).drop 8) 0 : Nat) : Int), s32 (beN ((l.take 16).drop 12) 0)) ∧ tk4R (some l) = some (l.drop 16) := by
 have a1 := tk_some (k := 4) (l := l) (by omega)
 have a2 := tk_some (k := 4) (l := l.drop 4) (by simp; omega)
 have a3 := tk_some (k := 4) (l := (l.drop 4).drop 4) (by simp; omega)
 have a4 := tk_some (k := 4) (l := ((l.drop 4).drop 4).drop 4) (by simp; omega)
 unfold tk4N tk4R
 rw [a1.2, a2.2, a3.2, a4.2, a1.1, a2.1, a3.1, a4.1]
 simp only [List.drop_drop, List.drop_take, Nat.reduceAdd, Nat.reduceSub, and_self]
theorem ops_eq : ∀ (n m : Nat) (l : Bs) (acc : List Op5), n + acc.length = 501 → l.length ≤ m → opsOk (opsS n (some l) acc) = ropsOk (ropsP m l acc)
 | 0, m, l, acc, hn, hm => by
  have hb : batchE acc ≠ 0 := batchE_long (by omega)
  rw [ropsOk_bad ⟨hb, fun e => by subst e; simp at hn⟩]
  unfold opsOk opsS
  rw [if_pos (.inr hb)]
 | n + 1, m, [], acc, hn, hm => by
  rw [opsS, if_pos (show lenO (some []) = 0 from rfl), show ropsP m [] acc = some acc by cases m <;> rfl]
  unfold opsOk ropsOk
  simp
 | n + 1, 0, c :: r, acc, hn, hm => by simp at hm
 | n + 1, m + 1, c :: r, acc, hn, hm => by
  simp only [List.length_cons, Nat.add_le_add_iff_right] at hm
  have h1 : tkN 1 (some (c :: r)) = c.toNat ∧ tkR 1 (some (c :: r)) = some r := by
   have := tk_some (k := 1) (l := c :: r) (by simp)
   rw [this.1, this.2]
   simp [beN]
  rw [opsS, if_neg (show ¬ lenO (some (c :: r)) = 0 by simp [lenO]), ropsP]
  unfold opStep
  rw [h1.1, h1.2]
  by_cases hc1 : c.toNat = 1
  ·rw [if_pos hc1]
   by_cases h16 : 16 ≤ r.length
   ·rw [if_pos ⟨hc1, h16⟩, (tk4_some h16).1, (tk4_some h16).2]
    exact ops_eq n m _ _ (by simp; omega) (by simp; omega)
   ·rw [if_neg (fun h => h16 h.2), if_neg (fun h => by omega), tk4_few (by omega), opsS_none]
    simp [opsOk, ropsOk]
  ·rw [if_neg hc1, if_neg (fun h => hc1 h.1)]
   by_cases hc2 : c.toNat = 2
   ·by_cases h4 : 4 ≤ r.length
    ·rw [if_pos ⟨hc2, h4⟩, (tk_some h4).1, (tk_some h4).2, hc2]
     exact ops_eq n m _ _ (by simp; omega) (by simp; omega)
    ·rw [if_neg (fun h => h4 h.2), tk_few (by omega), opsS_none]
     simp [opsOk, ropsOk]
   ·rw [if_neg (fun h => hc2 h.1)]
    simp only
    obtain ⟨t, ht⟩ := opsS_acc n (tkR 4 (some r)) (acc ++ [⟨c.toNat, tkN 4 (some r), 0, 0, 0⟩])
    unfold opsOk
    rw [if_pos (.inr (by
     rw [ht]
     refine batchE_bad (o := ⟨c.toNat, tkN 4 (some r), 0, 0, 0⟩) (by simp) ?_
     unfold opB
     rw [if_neg (by simp only; omega), if_neg (by simp only; omega)]))]
    rfl
theorem opsR_eq (l : Bs) : opsR l = ropsR l := by
 have := ops_eq 501 l.length l [] rfl (zaf _)
 unfold opsOk ropsOk at this
 unfold opsR ropsR
 exact this

def fillF : Form := (15, [102, 105, 108, 108], [(114, false)])

noncomputable def apiaryref13_Number_pc : PC :=
  (.seq (.reg [p_s 4 (.mov (.c (.r (.v (.string ⟨#[]⟩)))))])
 (.seq (.reg [p_m 7 1, p_a 8 (.mks 1 (.v (.int .u8 0)) 1 (.t 7) (.t 7)), p_m 5 8])
 (.seq (.seq (.reg [p_s 6 (.mov (o_i 0))])
 (.block 0 (.loop (.seq (.seq (.reg [p_m 9 6, p_m 10 1, p_s 11 (.bin .lss (.t 9) (.t 10))])
 (.cond (.t 11)
 .skip
 (.exit 0)))
 (.seq (.block 1 (.reg [p_m 14 5, p_m 15 6, p_m 16 0, p_m 17 1, p_s 18 (.bin .sub (.t 17) (o_i 1)), p_m 19 6, p_s 20 (.bin .sub (.t 18) (.t 19)), p_s 21 (.bin .mul (o_i 8) (.t 20)), p_s 22 (.bin .shr (.t 16) (.t 21)),
 p_s 23 (.conv .u8 (.t 22)), p_s 24 (.ia 1 (.v (.int .u8 0)) (.t 14) (.t 15)), ⟨none, none, 0, .act (.st 1 (.t 24) (.t 23))⟩]))
 (.reg [p_m 12 6, p_s 13 (.bin .add (.t 12) (o_i 1)), p_m 6 13]))))))
 (.seq (.reg [p_m 25 5, p_s 26 (.toStr (.t 25)), p_m 4 26])
 .ret))))
theorem apiaryref13_Number_triple : Fun P0 60 2 [(4, false, none)] apiaryref13_Number_pc := fun_mk Go.Proofs.Tryz.func60 rfl (by decide) (by kernel_rfl) (by decide) rfl (by kernel_rfl) (by kernel_rfl) (by decide)
noncomputable def apiaryref13_point_pc : PC :=
  (.seq (.reg [p_a 1 (.box (.t 0)), p_s 2 (.mov (.c (.r (.v (.string ⟨#[]⟩)))))])
 (.seq (.drw [p_s 3 (.fa 0 (.t 1)), p_s 4 (.ld none (.t 3)), p_s 5 (.conv .u64 (.t 4)), p_c 6 1 60 [(.t 5), (o_i 4)], p_s 7 (.fa 1 (.t 1)), p_s 8 (.ld none (.t 7)), p_s 9 (.conv .u64 (.t 8)),
 p_c 10 2 60 [(.t 9), (o_i 4)], p_s 11 (.bin .add (.t 6) (.t 10)), p_s 12 (.fa 2 (.t 1)), p_s 13 (.ld none (.t 12)), p_s 14 (.conv .u64 (.t 13)), p_c 15 3 60 [(.t 14), (o_i 4)],
 p_s 16 (.bin .add (.t 11) (.t 15)), p_s 17 (.fa 3 (.t 1)), p_s 18 (.ld none (.t 17)), p_s 19 (.conv .u64 (.t 18)), p_c 20 4 60 [(.t 19), (o_i 4)], p_s 21 (.bin .add (.t 16) (.t 20)),
 p_m 2 21]
 [[], [0], [0, 1], [0, 1, 2], [], [4], [4, 5], [0, 1, 2, 3, 4, 5, 6], [0, 1, 2, 3, 4, 5, 6, 7], [], [9], [9, 10], [0, 1, 2, 3, 4, 5, 6, 7, 9, 10, 11], [0, 1, 2, 3, 4, 5, 6, 7, 8, 9, 10, 11, 12], [], [14], [14, 15], [0, 1, 2, 3, 4, 5, 6, 7, 9, 10, 11, 12, 14, 15, 16], [0, 1, 2, 3, 4, 5, 6, 7, 8, 9, 10, 11, 12, 13, 14, 15, 16, 17], [0, 1, 2, 3, 4, 5, 6, 7, 8, 9, 10, 11, 12, 13, 14, 15, 16, 17, 18]])
 .ret))
theorem apiaryref13_point_triple : Fun P0 59 1 [(2, false, none)] apiaryref13_point_pc := fun_mk Go.Proofs.Tryz.func59 rfl (by decide) (by kernel_rfl) (by decide) rfl (by kernel_rfl) (by kernel_rfl) (by decide)
noncomputable def apiaryref13_Batch_pc : PC :=
  (.seq (.reg [p_s 2 (.mov (.c (.r (.v (.string ⟨#[]⟩)))))])
 (.seq (.reg [p_s 3 (.mov (.c (.r (.v (.string ⟨#[]⟩)))))])
 (.seq (.seq (.reg [p_s 4 (.mov (o_i 0))])
 (.block 0 (.loop (.seq (.seq (.reg [p_m 5 4, p_m 6 0, p_s 7 (.len false (.t 6)), p_s 8 (.bin .lss (.t 5) (.t 7))])
 (.cond (.t 8)
 .skip
 (.exit 0)))
 (.seq (.block 1 (.seq (.reg [p_m 11 0, p_m 12 4, p_s 13 (.ia 5 (.agg [(.v (.int .i64 0)), (.v (.int .i64 0)), (.v (.int .i64 0)), (.v (.int .i64 0)), (.v (.int .i64 0))]) (.t 11) (.t 12)), p_s 14 (.fa 0 (.t 13)),
 p_s 15 (.ld none (.t 14)), p_s 16 (.bin .eql (.t 15) (o_i 1))])
 (.cond (.t 16)
 (.reg [p_m 17 3, p_s 18 (.bin .add (.t 17) (.c (.r (.v (.string ⟨#[1]⟩))))), p_m 19 0, p_m 20 4, p_s 21 (.ia 5 (.agg [(.v (.int .i64 0)), (.v (.int .i64 0)), (.v (.int .i64 0)), (.v (.int .i64 0)), (.v (.int .i64 0))]) (.t 19) (.t 20)),
 p_s 22 (.fa 1 (.t 21)), p_s 23 (.ld (some 4) (.t 22)), p_c 24 1 59 [.t 23], p_s 25 (.bin .add (.t 18) (.t 24)), p_m 3 25])
 (.reg [p_m 26 3, p_s 27 (.bin .add (.t 26) (.c (.r (.v (.string ⟨#[2]⟩))))), p_m 28 0, p_m 29 4, p_s 30 (.ia 5 (.agg [(.v (.int .i64 0)), (.v (.int .i64 0)), (.v (.int .i64 0)), (.v (.int .i64 0)), (.v (.int .i64 0))]) (.t 28) (.t 29)),
 p_s 31 (.fa 1 (.t 30)), p_s 32 (.fa 0 (.t 31)), p_s 33 (.ld none (.t 32)), p_s 34 (.conv .u64 (.t 33)), p_c 35 2 60 [(.t 34), (o_i 4)], p_s 36 (.bin .add (.t 27) (.t 35)),
 p_m 3 36]))))
 (.reg [p_m 9 4, p_s 10 (.bin .add (.t 9) (o_i 1)), p_m 4 10]))))))
 (.seq (.reg [p_m 37 3, p_m 2 37])
 .ret))))
theorem apiaryref13_Batch_triple : Fun P0 31 1 [(2, false, none)] apiaryref13_Batch_pc := fun_mk Go.Proofs.Tryz.func31 rfl (by decide) (by kernel_rfl) (by decide) rfl (by kernel_rfl) (by kernel_rfl) (by decide)
noncomputable def apiaryref21_Name_pc : PC :=
  (.seq (.reg [p_s 2 (.mov (.c (.r (.v (.string ⟨#[]⟩)))))])
 (.seq (.reg [p_c 6 1 32 [], p_m 5 6, p_s 7 (.ext (.t 5) 0), p_s 8 (.ext (.t 5) 1), p_m 3 7, p_m 4 8])
 (.seq (.seq (.reg [p_m 9 0, p_s 10 (.bin .lss (.t 9) (o_i 1)), p_m 11 10, p_g 12 11 false (.mov (.t 0)), p_g 13 11 false (.mov (.t 3)), p_g 14 11 false (.len false (.t 13)), p_g 15 11 false (.bin .gtr (.t 12) (.t 14)),
 p_s 16 (.pick (.t 11) (.c (.r (.v (.bool true)))) (.t 15))])
 (.cond (.t 16)
 (.seq (.reg [p_s 2 (.mov (.c (.r (.v (.string ⟨#[]⟩)))))])
 .ret)
 .skip))
 (.seq (.reg [p_m 17 3, p_m 18 0, p_s 19 (.bin .sub (.t 18) (o_i 1)), p_s 20 (.ia 1 (.v (.string ⟨#[]⟩)) (.t 17) (.t 19)), p_s 21 (.ld none (.t 20)), p_m 2 21])
 .ret))))
theorem apiaryref21_Name_triple : Fun P0 20 1 [(2, false, none)] apiaryref21_Name_pc := fun_mk Go.Proofs.Tryz.func20 rfl (by decide) (by kernel_rfl) (by decide) rfl (by kernel_rfl) (by kernel_rfl) (by decide)
theorem rnum4_t (n : Nat) (hn : n < 18446744073709551616) : Triple P0 60 [uw n, int .i64 4] [] (sV (num4 n)) [] := by
 refine apiaryref13_Number_triple rfl (by decide) ?_
 have hz : zerosAt (4 : Int) (.v (.int .u8 0)) = [.v (.int .u8 0), .v (.int .u8 0), .v (.int .u8 0), .v (.int .u8 0)] := rfl
 simp only [apiaryref13_Number_pc, uw, hz, push_cast, ↓reduceIte, reduceCtorEq, zB, zE, zA, zS, zL, zD, zM]
 refine ⟨by have := maxLen_big; omega, ?_⟩
 have hb : ∀ m : Nat, (IntKind.u8.wrap ((m : Nat) : Int)) = (((zad m).toNat : Nat) : Int) := fun m => by
  rw [IntKind.wrap_u8, UInt8.toNat_ofNat']
  omega
 have s3 : ((n : Int).fdiv (2 ^ min (zae 24) IntKind.u64.bits)) = ((n / 16777216 : Nat) : Int) := shr_u n 24 (by decide)
 have s2 : ((n : Int).fdiv (2 ^ min (zae 16) IntKind.u64.bits)) = ((n / 65536 : Nat) : Int) := shr_u n 16 (by decide)
 have s1 : ((n : Int).fdiv (2 ^ min (zae 8) IntKind.u64.bits)) = ((n / 256 : Nat) : Int) := shr_u n 8 (by decide)
 have s0 : ((n : Int).fdiv (2 ^ min (zae 0) IntKind.u64.bits)) = ((n : Nat) : Int) := by rw [show zae 0 = 0 from rfl, shr_u n 0 (by decide)]; simp
 have b3 := hb (n / 16777216)
 have b2 := hb (n / 65536)
 have b1 := hb (n / 256)
 have b0 := hb n
 have z4 : zae 4 = 4 := rfl
 have c3 : ((n : Int) / 16777216) = ((n / 16777216 : Nat) : Int) := by omega
 have c2 : ((n : Int) / 65536) = ((n / 65536 : Nat) : Int) := by omega
 have c1 : ((n : Int) / 256) = ((n / 256 : Nat) : Int) := by omega
 rw [← c3] at b3 s3
 rw [← c2] at b2 s2
 rw [← c1] at b1 s1
 obtain ⟨x3, hx3⟩ : ∃ x : Int, (((zad (n / 16777216)).toNat : Nat) : Int) = x := ⟨_, rfl⟩
 obtain ⟨x2, hx2⟩ : ∃ x : Int, (((zad (n / 65536)).toNat : Nat) : Int) = x := ⟨_, rfl⟩
 obtain ⟨x1, hx1⟩ : ∃ x : Int, (((zad (n / 256)).toNat : Nat) : Int) = x := ⟨_, rfl⟩
 obtain ⟨x0, hx0⟩ : ∃ x : Int, (((zad n).toNat : Nat) : Int) = x := ⟨_, rfl⟩
 rw [hx3] at b3
 rw [hx2] at b2
 rw [hx1] at b1
 rw [hx0] at b0
 have hbys : [RV.v (.int .u8 x3), .v (.int .u8 x2), .v (.int .u8 x1), .v (.int .u8 x0)] = bys (num4 n) := by
  rw [← hx3, ← hx2, ← hx1, ← hx0]
  rfl
 refine run_loop [(0, false), (1, false), (5, false), (6, false)] (fun vs pos los => ∃ (I : Int) (r : List RV), ((I = 0 ∧ r = [.v (.int .u8 0), .v (.int .u8 0), .v (.int .u8 0), .v (.int .u8 0)]) ∨ (I = 1 ∧ r = [.v (.int .u8 x3), .v (.int .u8 0), .v (.int .u8 0), .v (.int .u8 0)]) ∨ (I = 2 ∧ r = [.v (.int .u8 x3), .v (.int .u8 x2), .v (.int .u8 0), .v (.int .u8 0)]) ∨ (I = 3 ∧ r = [.v (.int .u8 x3), .v (.int .u8 x2), .v (.int .u8 x1), .v (.int .u8 0)]) ∨ (I = 4 ∧ r = [.v (.int .u8 x3), .v (.int .u8 x2), .v (.int .u8 x1), .v (.int .u8 x0)])) ∧ vs = [uw n, int .i64 4, .own 2000000 0 0 4, int .i64 I] ∧ pos = [] ∧ los = [.row 1 (.v (.int .u8 0)) true true r])
  (fun vs _ _ => match vs with | [_, _, _, .r (.v (.int _ j))] => (4 - j).toNat | _ => 0) rfl ?_ ?_
 ·simp only [z4, push_cast, ↓reduceIte, reduceCtorEq, zB, zE, zA, zS, zL, zD, zM]
  exact ⟨0, _, .inl ⟨rfl, rfl⟩, rfl, rfl⟩
 ·rintro vs pos los ⟨I, r, hj, rfl, rfl, rfl⟩
  rcases hj with ⟨rfl, rfl⟩ | ⟨rfl, rfl⟩ | ⟨rfl, rfl⟩ | ⟨rfl, rfl⟩ | ⟨rfl, rfl⟩
  ·simp only [uw, push_cast, ↓reduceIte, reduceCtorEq, zB, zE, zA, zS, zL, zD, zM]
   refine cnd_mk (fun hc => ?_) (fun hc => ?_)
   ·have w1 : IntKind.i64.wrap (8 * IntKind.i64.wrap (IntKind.i64.wrap (4 - 1) - 0)) = 24 := rfl
    have w1' : IntKind.i64.wrap (8 * IntKind.i64.wrap (3 - 0)) = 24 := rfl
    have w1'' : IntKind.i64.wrap (4 - 1) = 3 := rfl
    have w2 : IntKind.i64.wrap (0 + 1) = 1 := rfl
    have zz : (0 : Nat) + zae 0 = 0 := rfl
    have zj : zae 0 = 0 := rfl
    simp only [uw, w1, w1', w1'', w2, zz, zj, s3, s2, s1, s0, b3, b2, b1, b0, zar, zas, push_cast, ↓reduceIte, reduceCtorEq, zB, zE, zA, zS, zL, zD, zM]
    refine ⟨by decide, by omega, ⟨1, _, .inr (.inl ⟨rfl, rfl⟩), rfl, rfl⟩, by decide⟩
   ·simp at hc
  ·simp only [uw, push_cast, ↓reduceIte, reduceCtorEq, zB, zE, zA, zS, zL, zD, zM]
   refine cnd_mk (fun hc => ?_) (fun hc => ?_)
   ·have w1 : IntKind.i64.wrap (8 * IntKind.i64.wrap (IntKind.i64.wrap (4 - 1) - 1)) = 16 := rfl
    have w1' : IntKind.i64.wrap (8 * IntKind.i64.wrap (3 - 1)) = 16 := rfl
    have w1'' : IntKind.i64.wrap (4 - 1) = 3 := rfl
    have w2 : IntKind.i64.wrap (1 + 1) = 2 := rfl
    have zz : (0 : Nat) + zae 1 = 1 := rfl
    have zj : zae 1 = 1 := rfl
    simp only [uw, w1, w1', w1'', w2, zz, zj, s3, s2, s1, s0, b3, b2, b1, b0, zar, zas, push_cast, ↓reduceIte, reduceCtorEq, zB, zE, zA, zS, zL, zD, zM]
    refine ⟨by decide, by omega, ⟨2, _, .inr (.inr (.inl ⟨rfl, rfl⟩)), rfl, rfl⟩, by decide⟩
   ·simp at hc
  ·simp only [uw, push_cast, ↓reduceIte, reduceCtorEq, zB, zE, zA, zS, zL, zD, zM]
   refine cnd_mk (fun hc => ?_) (fun hc => ?_)
   ·have w1 : IntKind.i64.wrap (8 * IntKind.i64.wrap (IntKind.i64.wrap (4 - 1) - 2)) = 8 := rfl
    have w1' : IntKind.i64.wrap (8 * IntKind.i64.wrap (3 - 2)) = 8 := rfl
    have w1'' : IntKind.i64.wrap (4 - 1) = 3 := rfl
    have w2 : IntKind.i64.wrap (2 + 1) = 3 := rfl
    have zz : (0 : Nat) + zae 2 = 2 := rfl
    have zj : zae 2 = 2 := rfl
    simp only [uw, w1, w1', w1'', w2, zz, zj, s3, s2, s1, s0, b3, b2, b1, b0, zar, zas, push_cast, ↓reduceIte, reduceCtorEq, zB, zE, zA, zS, zL, zD, zM]
    refine ⟨by decide, by omega, ⟨3, _, .inr (.inr (.inr (.inl ⟨rfl, rfl⟩))), rfl, rfl⟩, by decide⟩
   ·simp at hc
  ·simp only [uw, push_cast, ↓reduceIte, reduceCtorEq, zB, zE, zA, zS, zL, zD, zM]
   refine cnd_mk (fun hc => ?_) (fun hc => ?_)
   ·have w1 : IntKind.i64.wrap (8 * IntKind.i64.wrap (IntKind.i64.wrap (4 - 1) - 3)) = 0 := rfl
    have w1' : IntKind.i64.wrap (8 * IntKind.i64.wrap (3 - 3)) = 0 := rfl
    have w1'' : IntKind.i64.wrap (4 - 1) = 3 := rfl
    have w2 : IntKind.i64.wrap (3 + 1) = 4 := rfl
    have zz : (0 : Nat) + zae 3 = 3 := rfl
    have zj : zae 3 = 3 := rfl
    simp only [uw, w1, w1', w1'', w2, zz, zj, s3, s2, s1, s0, b3, b2, b1, b0, zar, zas, push_cast, ↓reduceIte, reduceCtorEq, zB, zE, zA, zS, zL, zD, zM]
    refine ⟨by decide, by omega, ⟨4, _, .inr (.inr (.inr (.inr ⟨rfl, rfl⟩))), rfl, rfl⟩, by decide⟩
   ·simp at hc
  ·simp only [uw, push_cast, ↓reduceIte, reduceCtorEq, zB, zE, zA, zS, zL, zD, zM]
   refine cnd_mk (fun hc => ?_) (fun hc => ?_)
   ·simp at hc
   ·have htk : zal 4 (bys (num4 n)) = bys (num4 n) := rfl
    simp only [hbys, htk, bys_isByte, bstr_of_bys, z4, push_cast, ↓reduceIte, reduceCtorEq, zB, zE, zA, zS, zL, zD, zM]
theorem u64_nat (x : Int) : ∃ m : Nat, m < 18446744073709551616 ∧ IntKind.u64.wrap x = (m : Int) ∧ (IntKind.u64.wrap x).toNat = m := by
 refine ⟨(IntKind.u64.wrap x).toNat, ?_, ?_, rfl⟩ <;> rw [IntKind.wrap_u64] <;> omega
theorem rpoint_t (key x y v : Int) : Triple P0 59 [.r (ptR4 key x y v)] [] (sV (put4 key x y v)) [] := by
 obtain ⟨a, a0, a1, a2⟩ := u64_nat key
 obtain ⟨b, b0, b1, b2⟩ := u64_nat x
 obtain ⟨c, c0, c1, c2⟩ := u64_nat y
 obtain ⟨d, d0, d1, d2⟩ := u64_nat v
 refine apiaryref13_point_triple rfl (by decide) ?_
 unfold put4
 rw [a2, b2, c2, d2]
 have n4 : ∀ n, (num4 n).length = 4 := fun _ => rfl
 have hmax := maxLen_big
 simp only [apiaryref13_point_pc, ptR4, n8, a1, b1, c1, d1, push_cast, ↓reduceIte, reduceCtorEq, zB, zE, zA, zS, zL, zD, zM]
 refine dcall_mk (rnum4_t a a0) rfl trivial ?_
 simp only [uw, a1, b1, c1, d1, push_cast, ↓reduceIte, reduceCtorEq, zB, zE, zA, zS, zL, zD, zM]
 refine dcall_mk (rnum4_t b b0) rfl trivial ?_
 simp only [uw, a1, b1, c1, d1, n4, bstr_app, bstr_size, push_cast, ↓reduceIte, reduceCtorEq, zB, zE, zA, zS, zL, zD, zM]
 repeat refine And.intro (by first | omega | kernel_rfl) ?_
 refine dcall_mk (rnum4_t c c0) rfl trivial ?_
 simp only [uw, a1, b1, c1, d1, n4, bstr_app, bstr_size, push_cast, ↓reduceIte, reduceCtorEq, zB, zE, zA, zS, zL, zD, zM]
 repeat refine And.intro (by first | omega | kernel_rfl) ?_
 refine dcall_mk (rnum4_t d d0) rfl trivial ?_
 simp only [uw, a1, b1, c1, d1, n4, bstr_app, bstr_size, List.append_assoc, push_cast, ↓reduceIte, reduceCtorEq, zB, zE, zA, zS, zL, zD, zM]
 repeat refine And.intro (by first | omega | kernel_rfl) ?_
 first | kernel_rfl | exact ⟨by kernel_rfl, rfl⟩
theorem rbatch_t (l : List Op5) (hl : l.length ≤ 1000000) (hk : ∀ o ∈ l, o.k = 1 ∨ o.k = 2) : Triple P0 31 [.r (.sl 5 (l.map opR))] [] (sV (opsBs l)) [] := by
 refine apiaryref13_Batch_triple rfl (by decide) ?_
 have hmax := maxLen_big
 simp only [apiaryref13_Batch_pc, push_cast, ↓reduceIte, reduceCtorEq, zB, zE, zA, zS, zL, zD, zM]
 refine run_loop [(0, false), (3, false), (4, false)] (fun vs pos los => ∃ i : Nat, i ≤ l.length ∧ vs = [.r (.sl 5 (l.map opR)), sV (opsBs (l.take i)), int .i64 i] ∧ pos = [] ∧ los = [])
  (fun vs _ _ => match vs with | [_, _, .r (.v (.int _ j))] => (l.length - j).toNat | _ => 0) rfl ?_ ?_
 ·simp only [push_cast, ↓reduceIte, reduceCtorEq, zB, zE, zA, zS, zL, zD, zM]
  exact ⟨0, by omega, by simp [opsBs]; rfl⟩
 ·rintro vs pos los ⟨i, i0, rfl, rfl, rfl⟩
  have hbl := opsBs_len (l.take i)
  rw [List.length_take] at hbl
  simp only [push_cast, ↓reduceIte, reduceCtorEq, zB, zE, zA, zS, zL, zD, zM]
  refine cnd_mk (fun hi => ?_) (fun hi => ?_)
  ·have hi : i < l.length := by simpa using hi
   obtain ⟨⟨k, key, x, y, v⟩, ho⟩ : ∃ o, l[i] = o := ⟨_, rfl⟩
   have hop := hk _ (List.getElem_mem hi)
   rw [ho] at hop
   simp only at hop
   have hnx : opsBs (l.take (i + 1)) = opsBs (l.take i) ++ opBs ⟨k, key, x, y, v⟩ := by
    rw [zaw hi, ho]
    simp [opsBs]
   have hg : ∀ z, (l.map opR).getD i z = .agg [.v (.int .i64 k), .v (.int .i64 key), .v (.int .i64 x), .v (.int .i64 y), .v (.int .i64 v)] := fun z => by
    rw [zah]
    simp [hi, ho, opR, n8]
   have w1 : IntKind.i64.wrap ((i : Int) + 1) = (i : Int) + 1 := wrap_id (by omega)
   obtain ⟨B, hB⟩ : ∃ B, opsBs (l.take i) = B := ⟨_, rfl⟩
   rw [hB] at hbl hnx ⊢
   simp only [hg, w1, zaa, zab, zac, push_cast, ↓reduceIte, reduceCtorEq, zB, zE, zA, zS, zL, zD, zM]
   refine ⟨by omega, ?_⟩
   have l1 : ({ data := #[1] } : ByteArray) = bstr [1] := rfl
   have l2 : ({ data := #[2] } : ByteArray) = bstr [2] := rfl
   have e1 : ∀ X : Bs, (B ++ [1]) ++ X = B ++ (1 :: X) := fun X => by simp
   have e2 : ∀ X : Bs, (B ++ [2]) ++ X = B ++ (2 :: X) := fun X => by simp
   have p16 : (put4 key x y v).length = 16 := rfl
   have n4 : ∀ n, (num4 n).length = 4 := fun _ => rfl
   refine cnd_mk (fun hk => ?_) (fun hk => ?_)
   ·have hk : k = 1 := by simpa using hk
    subst hk
    have hob : opBs ⟨1, key, x, y, v⟩ = 1 :: put4 key x y v := rfl
    rw [hob] at hnx
    simp only [hg, w1, l1, l2, bstr_app, bstr_size, p16, zaa, zab, zac, push_cast, ↓reduceIte, reduceCtorEq, zB, zE, zA, zS, zL, zD, zM]
    repeat refine And.intro (by first | omega | (simp; omega) | kernel_rfl) ?_
    refine call_as (as' := [.r (ptR4 key x y v)]) rfl ?_
    refine call_mk (rpoint_t key x y v) rfl trivial ?_
    simp only [hg, w1, l1, l2, bstr_app, bstr_size, e1, p16, zaa, zab, zac, push_cast, ↓reduceIte, reduceCtorEq, zB, zE, zA, zS, zL, zD, zM]
    repeat refine And.intro (by first | omega | (simp; omega) | kernel_rfl) ?_
    exact ⟨⟨i + 1, by omega, by rw [hnx]; simp⟩, by omega⟩
   ·have hk : k = 2 := by
     have : k ≠ 1 := by simpa using hk
     omega
    subst hk
    have hob : opBs ⟨2, key, x, y, v⟩ = 2 :: num4 (IntKind.u64.wrap key).toNat := rfl
    obtain ⟨m, m0, m1, m2⟩ := u64_nat key
    rw [hob, m2] at hnx
    simp only [hg, w1, m1, l1, l2, bstr_app, bstr_size, n4, zaa, zab, zac, push_cast, ↓reduceIte, reduceCtorEq, zB, zE, zA, zS, zL, zD, zM]
    repeat refine And.intro (by first | omega | (simp; omega) | kernel_rfl) ?_
    refine call_as (as' := [uw m, int .i64 4]) rfl ?_
    refine call_mk (rnum4_t m m0) rfl trivial ?_
    simp only [hg, w1, m1, l1, l2, bstr_app, bstr_size, e2, n4, zaa, zab, zac, push_cast, ↓reduceIte, reduceCtorEq, zB, zE, zA, zS, zL, zD, zM]
    repeat refine And.intro (by first | omega | (simp; omega) | kernel_rfl) ?_
    exact ⟨⟨i + 1, by omega, by rw [hnx]; simp⟩, by omega⟩
  ·have hi : i = l.length := zao i0 (by simpa using hi)
   subst hi
   rw [List.take_length]
   simp only [push_cast, ↓reduceIte, reduceCtorEq, zB, zE, zA, zS, zL, zD, zM]
def nmS (k : Int) : Bs := if 1 ≤ k ∧ k ≤ 16 then namesL.getD (k - 1).toNat [] else []
theorem rname_t (k : Int) (hk : in64 k) : Triple P0 20 [int .i64 k] [] (sV (nmS k)) [] := by
 refine apiaryref21_Name_triple rfl (by decide) ?_
 simp only [apiaryref21_Name_pc, push_cast, ↓reduceIte, reduceCtorEq, zB, zE, zA, zS, zL, zD, zM]
 refine call_mk names_t rfl trivial ?_
 have hN : (strs namesL).length = 16 := rfl
 unfold nmS
 by_cases h1 : k < 1
 ·have g1 : decide (k < 1) = true := decide_eq_true h1
  rw [if_neg (by omega)]
  simp only [g1, hN, push_cast, ↓reduceIte, reduceCtorEq, zB, zE, zA, zS, zL, zD, zM]
  rfl
 ·have g1 : decide (k < 1) = false := decide_eq_false h1
  by_cases h2 : k > 16
  ·have g2 : decide (k > 16) = true := decide_eq_true h2
   rw [if_neg (by omega)]
   simp only [g1, g2, hN, push_cast, ↓reduceIte, reduceCtorEq, zB, zE, zA, zS, zL, zD, zM]
   rfl
  ·have g2 : decide (k > 16) = false := decide_eq_false h2
   rw [if_pos (by omega)]
   obtain ⟨K, rfl⟩ : ∃ K : Nat, k = (K : Int) + 1 := ⟨(k - 1).toNat, by omega⟩
   have w1 : IntKind.i64.wrap ((K : Int) + 1 - 1) = (K : Int) := by rw [wrap_id (by omega)]; omega
   have hg : ∀ z, (strs namesL).getD K z = .v (.string (bstr (namesL.getD K []))) := fun z => by
    have hK : K < namesL.length := by show K < 16; omega
    rw [zah, zah]
    simp [hK, strR]
   have e : ((K : Int) + 1 - 1).toNat = K := by omega
   rw [e]
   simp only [g1, g2, w1, hg, hN, zaa, zab, zac, push_cast, ↓reduceIte, reduceCtorEq, zB, zE, zA, zS, zL, zD, zM]
   first | exact ⟨by omega, rfl⟩ | omega

end Go.Ev

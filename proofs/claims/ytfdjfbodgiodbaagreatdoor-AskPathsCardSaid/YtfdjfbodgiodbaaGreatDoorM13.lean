import Derived.WalkKit
import Derived.WalkSpells
import Derived.Lib.DecodeNEq
import Derived.Laws.BitsLemmas
import Derived.Test.YtfdjfbodgiodbaaGreatDoorM12
namespace Go.Ev
set_option maxRecDepth 100000
open Go Go.RowKit
set_option linter.unusedSectionVars false
set_option linter.unnecessarySimpa false
set_option linter.unusedSimpArgs false
set_option linter.unusedVariables false
theorem triple_of_bytes {P : Program} {f : FuncId} {l : Bs} {r : AV} (h : ∀ w ad cap, Gl P w (fun _ => False) → l.length ≤ cap → (∀ (i : Nat) (x : UInt8), l[i]? = some x → w.cell? ⟨ad.block, ad.off + i, none⟩ = some (.int .u8 x.toNat)) →
  ad.spot = none → Calls P f #[.slice (some ad) l.length cap] w fun e w' => ∃ c, e = .returned c ∧ Below w.heap.size w w' ∧ ∀ R ob ρ, RelA w' R ob ρ r c) (hl : l ≠ []) : Triple P f [sb l] [] r [] := by
 intro w cargs ρ B hgl hB hM hs hargs
 have hgl := hgl.keep (I' := fun _ => False) (w' := w) fun g _ _ => ⟨rfl, id⟩
 have hs1 : cargs.size = 1 := hs
 obtain ⟨c0, hc0⟩ : ∃ c0, cargs = #[c0] := ⟨cargs[0]'(by omega), by
  apply Array.ext (by simp [hs1])
  intro i h1 h2
  have : i = 0 := by omega
  subst this
  rfl⟩
 subst hc0
 have h0 := hargs 0 (sb l) c0 rfl rfl
 cases h0 with
 | r h0 =>
  cases h0 with
  | sl sz xs A cap hc hm b o g hA hz hg hr =>
   obtain ⟨rfl, _⟩ := hA (by simp; exact List.length_pos_iff.2 hl)
   have hb : (bys l).length = l.length := by simp
   rw [hb] at hc
   rw [hb]
   refine (h w ⟨b, o, none⟩ cap hgl hc (fun i x hi => ?_) rfl).mono ?_
   ·have hi2 : (bys l)[i]? = some (by8 x) := by simp [hi]
    obtain ⟨k1, k2⟩ := hg i (by8 x) 0 (by8 x) hi2 rfl
    have k3 := hr i (by8 x) 0 (by8 x) hi2 rfl
    rw [Nat.mul_one, Nat.add_zero] at k1
    generalize g i 0 = q at k1 k3
    cases k3
    exact k1
   ·rintro e w' ⟨c, rfl, hb, hr⟩
    refine ⟨c, ρ, rfl, ⟨fun id v o h => by simp [obs] at h, fun id id' x x' b h => by simp [obs] at h, ⟨hb.os, hb.tape, hb.output, hb.size, fun b hlt _ => hb.block b hlt⟩, fun id v o b h => by simp [obs] at h, fun id b hp => ?_⟩, hr _ _ _⟩
    simp [pinOf, obs] at hp
theorem ualloc_cell {W : World} {a : Addr} {v : Value} (o : Obj) (h : W.cell? a = some v) : (W.alloc o).cell? a = some v := by
 have hlt : a.block < W.heap.size := by
  rcases Nat.lt_or_ge a.block W.heap.size with h' | h'
  ·exact h'
  ·simp [World.cell?, Array.getElem?_eq_none h'] at h
 rw [← h]
 simp only [World.cell?, World.alloc, Array.getElem?_push, Nat.ne_of_lt hlt, if_false]
theorem umask241 : wrap32 517543559168 / 2147483648 = -1 := by unfold wrap32; omega
theorem udrop_byte : ∀ x : Fin 256, bits .or .i32 (bits .andNot .i32 ((x.val : Nat) : Int) (-1)) (bits .and .i32 65533 (-1)) = 65533 := by decide
def decB (n b0 b1 b2 b3 : Nat) : Nat × Nat := if 240 ≤ Lib.firstT b0 then (65533, 1) else Lib.slowN n b0 b1 b2 b3 (Lib.firstT b0 % 8) (Lib.accLo (Lib.firstT b0 / 16)) (Lib.accHi (Lib.firstT b0 / 16))
theorem glob_fst : (Go.Proofs.Tryz.prog).globalNamed "unicode/utf8.first" = some 0 := by kernel_rfl
theorem glob_acc : (Go.Proofs.Tryz.prog).globalNamed "unicode/utf8.acceptRanges" = some 1 := by kernel_rfl
set_option maxHeartbeats 4000000 in
set_option maxRecDepth 1000000 in
theorem slow_calls (w : World) (ad : Addr) (n cap b0 b1 b2 b3 : Nat) (hn : 1 ≤ n) (h0 : w.cell? ad = some (.int .u8 b0)) (h1 : 1 < n → w.cell? ⟨ad.block, ad.off + 1, none⟩ = some (.int .u8 b1)) (h2 : 2 < n → w.cell? ⟨ad.block, ad.off + 2, none⟩ = some (.int .u8 b2))
  (h3 : 3 < n → w.cell? ⟨ad.block, ad.off + 3, none⟩ = some (.int .u8 b3)) (l0 : b0 < 256) (l1 : b1 < 256) (l2 : b2 < 256) (l3 : b3 < 256) (h128 : 128 ≤ b0)
  (hT : Lib.Utf8Tabs 0 1 w) :
  Calls Go.Proofs.Tryz.prog 105 #[.slice (some ad) n cap] w fun e w' => e = .returned (.tuple #[.int .i32 (decB n b0 b1 b2 b3).1, .int .i64 (decB n b0 b1 b2 b3).2]) ∧ Below w.heap.size w w' := by
 have hz0 : (0 : Int) < (n : Int) := by omega
 have hz0' : ¬ ((n : Int) < 1) := by omega
 have hc0 := hT.1 b0 l0
 rcases Lib.firstT_cases b0 with hX | hX | hX | hX | hX | hX | hX | hX | hX
 ·exfalso
  unfold Lib.firstT at hX
  repeat' split at hX
  all_goals omega
 ·have hd : decB n b0 b1 b2 b3 = (65533, 1) := by unfold decB; rw [hX]; rfl
  rw [hd]
  rw [hX] at hc0
  clear hT hX hd
  go_enter Go.Proofs.Tryz.func105, Go.Proofs.Tryz.ntmps105
  go_wp2_with fail
  rw [umask241, udrop_byte ⟨b0, l0⟩]
  go_ret2
  exact ⟨rfl, Below.refl _ _⟩
 ·have hd : decB n b0 b1 b2 b3 = Lib.slowN n b0 b1 b2 b3 2 128 191 := by unfold decB; rw [hX]; rfl
  have ha0 : w.cell? ⟨1, 0, none⟩ = some (.int .u8 128) := (hT.2 0 (by omega)).1
  have ha1 : w.cell? ⟨1, 1, none⟩ = some (.int .u8 191) := (hT.2 0 (by omega)).2
  rw [hd]
  rw [hX] at hc0
  clear hT hX hd
  by_cases hs : n < 2
  ·have hnz : (n : Int) < 2 := by omega
   clear h1 h2 h3
   go_enter Go.Proofs.Tryz.func105, Go.Proofs.Tryz.ntmps105
   go_wp2_with fail
   all_goals (go_ret2; refine ⟨?_, (Below.refl _ _).alloc (Nat.le_refl _) _⟩; unfold Lib.slowN; (repeat' split); all_goals first | (exfalso; omega) | rfl | (simp only [Int.natCast_add, Int.natCast_mul, Int.natCast_emod, Int.natCast_ofNat]; rfl))
  ·have hnz : ¬ ((n : Int) < 2) := by omega
   have hz1 : (1 : Int) < (n : Int) := by omega
   have hb1 := ualloc_cell (.cells #[.int .u8 128, .int .u8 191] 186) (h1 (by omega))
   clear h1 h2 h3
   go_enter Go.Proofs.Tryz.func105, Go.Proofs.Tryz.ntmps105
   go_wp2_with fail
   all_goals (go_ret2; refine ⟨?_, (Below.refl _ _).alloc (Nat.le_refl _) _⟩; unfold Lib.slowN; (repeat' split); all_goals first | (exfalso; omega) | rfl | (simp only [Int.natCast_add, Int.natCast_mul, Int.natCast_emod, Int.natCast_ofNat]; rfl))
 ·have hd : decB n b0 b1 b2 b3 = Lib.slowN n b0 b1 b2 b3 3 160 191 := by unfold decB; rw [hX]; rfl
  have ha0 : w.cell? ⟨1, 2, none⟩ = some (.int .u8 160) := (hT.2 1 (by omega)).1
  have ha1 : w.cell? ⟨1, 3, none⟩ = some (.int .u8 191) := (hT.2 1 (by omega)).2
  rw [hd]
  rw [hX] at hc0
  clear hT hX hd
  by_cases hs : n < 3
  ·have hnz : (n : Int) < 3 := by omega
   clear h1 h2 h3
   go_enter Go.Proofs.Tryz.func105, Go.Proofs.Tryz.ntmps105
   go_wp2_with fail
   all_goals (go_ret2; refine ⟨?_, (Below.refl _ _).alloc (Nat.le_refl _) _⟩; unfold Lib.slowN; (repeat' split); all_goals first | (exfalso; omega) | rfl | (simp only [Int.natCast_add, Int.natCast_mul, Int.natCast_emod, Int.natCast_ofNat]; rfl))
  ·have hnz : ¬ ((n : Int) < 3) := by omega
   have hz1 : (1 : Int) < (n : Int) := by omega
   have hb1 := ualloc_cell (.cells #[.int .u8 160, .int .u8 191] 186) (h1 (by omega))
   have hz2 : (2 : Int) < (n : Int) := by omega
   have hb2 := ualloc_cell (.cells #[.int .u8 160, .int .u8 191] 186) (h2 (by omega))
   clear h1 h2 h3
   go_enter Go.Proofs.Tryz.func105, Go.Proofs.Tryz.ntmps105
   go_wp2_with fail
   all_goals (go_ret2; refine ⟨?_, (Below.refl _ _).alloc (Nat.le_refl _) _⟩; unfold Lib.slowN; (repeat' split); all_goals first | (exfalso; omega) | rfl | (simp only [Int.natCast_add, Int.natCast_mul, Int.natCast_emod, Int.natCast_ofNat]; rfl))
 ·have hd : decB n b0 b1 b2 b3 = Lib.slowN n b0 b1 b2 b3 3 128 191 := by unfold decB; rw [hX]; rfl
  have ha0 : w.cell? ⟨1, 0, none⟩ = some (.int .u8 128) := (hT.2 0 (by omega)).1
  have ha1 : w.cell? ⟨1, 1, none⟩ = some (.int .u8 191) := (hT.2 0 (by omega)).2
  rw [hd]
  rw [hX] at hc0
  clear hT hX hd
  by_cases hs : n < 3
  ·have hnz : (n : Int) < 3 := by omega
   clear h1 h2 h3
   go_enter Go.Proofs.Tryz.func105, Go.Proofs.Tryz.ntmps105
   go_wp2_with fail
   all_goals (go_ret2; refine ⟨?_, (Below.refl _ _).alloc (Nat.le_refl _) _⟩; unfold Lib.slowN; (repeat' split); all_goals first | (exfalso; omega) | rfl | (simp only [Int.natCast_add, Int.natCast_mul, Int.natCast_emod, Int.natCast_ofNat]; rfl))
  ·have hnz : ¬ ((n : Int) < 3) := by omega
   have hz1 : (1 : Int) < (n : Int) := by omega
   have hb1 := ualloc_cell (.cells #[.int .u8 128, .int .u8 191] 186) (h1 (by omega))
   have hz2 : (2 : Int) < (n : Int) := by omega
   have hb2 := ualloc_cell (.cells #[.int .u8 128, .int .u8 191] 186) (h2 (by omega))
   clear h1 h2 h3
   go_enter Go.Proofs.Tryz.func105, Go.Proofs.Tryz.ntmps105
   go_wp2_with fail
   all_goals (go_ret2; refine ⟨?_, (Below.refl _ _).alloc (Nat.le_refl _) _⟩; unfold Lib.slowN; (repeat' split); all_goals first | (exfalso; omega) | rfl | (simp only [Int.natCast_add, Int.natCast_mul, Int.natCast_emod, Int.natCast_ofNat]; rfl))
 ·have hd : decB n b0 b1 b2 b3 = Lib.slowN n b0 b1 b2 b3 3 128 159 := by unfold decB; rw [hX]; rfl
  have ha0 : w.cell? ⟨1, 4, none⟩ = some (.int .u8 128) := (hT.2 2 (by omega)).1
  have ha1 : w.cell? ⟨1, 5, none⟩ = some (.int .u8 159) := (hT.2 2 (by omega)).2
  rw [hd]
  rw [hX] at hc0
  clear hT hX hd
  by_cases hs : n < 3
  ·have hnz : (n : Int) < 3 := by omega
   clear h1 h2 h3
   go_enter Go.Proofs.Tryz.func105, Go.Proofs.Tryz.ntmps105
   go_wp2_with fail
   all_goals (go_ret2; refine ⟨?_, (Below.refl _ _).alloc (Nat.le_refl _) _⟩; unfold Lib.slowN; (repeat' split); all_goals first | (exfalso; omega) | rfl | (simp only [Int.natCast_add, Int.natCast_mul, Int.natCast_emod, Int.natCast_ofNat]; rfl))
  ·have hnz : ¬ ((n : Int) < 3) := by omega
   have hz1 : (1 : Int) < (n : Int) := by omega
   have hb1 := ualloc_cell (.cells #[.int .u8 128, .int .u8 159] 186) (h1 (by omega))
   have hz2 : (2 : Int) < (n : Int) := by omega
   have hb2 := ualloc_cell (.cells #[.int .u8 128, .int .u8 159] 186) (h2 (by omega))
   clear h1 h2 h3
   go_enter Go.Proofs.Tryz.func105, Go.Proofs.Tryz.ntmps105
   go_wp2_with fail
   all_goals (go_ret2; refine ⟨?_, (Below.refl _ _).alloc (Nat.le_refl _) _⟩; unfold Lib.slowN; (repeat' split); all_goals first | (exfalso; omega) | rfl | (simp only [Int.natCast_add, Int.natCast_mul, Int.natCast_emod, Int.natCast_ofNat]; rfl))
 ·have hd : decB n b0 b1 b2 b3 = Lib.slowN n b0 b1 b2 b3 4 144 191 := by unfold decB; rw [hX]; rfl
  have ha0 : w.cell? ⟨1, 6, none⟩ = some (.int .u8 144) := (hT.2 3 (by omega)).1
  have ha1 : w.cell? ⟨1, 7, none⟩ = some (.int .u8 191) := (hT.2 3 (by omega)).2
  rw [hd]
  rw [hX] at hc0
  clear hT hX hd
  by_cases hs : n < 4
  ·have hnz : (n : Int) < 4 := by omega
   clear h1 h2 h3
   go_enter Go.Proofs.Tryz.func105, Go.Proofs.Tryz.ntmps105
   go_wp2_with fail
   all_goals (go_ret2; refine ⟨?_, (Below.refl _ _).alloc (Nat.le_refl _) _⟩; unfold Lib.slowN; (repeat' split); all_goals first | (exfalso; omega) | rfl | (simp only [Int.natCast_add, Int.natCast_mul, Int.natCast_emod, Int.natCast_ofNat]; rfl))
  ·have hnz : ¬ ((n : Int) < 4) := by omega
   have hz1 : (1 : Int) < (n : Int) := by omega
   have hb1 := ualloc_cell (.cells #[.int .u8 144, .int .u8 191] 186) (h1 (by omega))
   have hz2 : (2 : Int) < (n : Int) := by omega
   have hb2 := ualloc_cell (.cells #[.int .u8 144, .int .u8 191] 186) (h2 (by omega))
   have hz3 : (3 : Int) < (n : Int) := by omega
   have hb3 := ualloc_cell (.cells #[.int .u8 144, .int .u8 191] 186) (h3 (by omega))
   clear h1 h2 h3
   go_enter Go.Proofs.Tryz.func105, Go.Proofs.Tryz.ntmps105
   go_wp2_with fail
   all_goals (go_ret2; refine ⟨?_, (Below.refl _ _).alloc (Nat.le_refl _) _⟩; unfold Lib.slowN; (repeat' split); all_goals first | (exfalso; omega) | rfl | (simp only [Int.natCast_add, Int.natCast_mul, Int.natCast_emod, Int.natCast_ofNat]; rfl))
 ·have hd : decB n b0 b1 b2 b3 = Lib.slowN n b0 b1 b2 b3 4 128 191 := by unfold decB; rw [hX]; rfl
  have ha0 : w.cell? ⟨1, 0, none⟩ = some (.int .u8 128) := (hT.2 0 (by omega)).1
  have ha1 : w.cell? ⟨1, 1, none⟩ = some (.int .u8 191) := (hT.2 0 (by omega)).2
  rw [hd]
  rw [hX] at hc0
  clear hT hX hd
  by_cases hs : n < 4
  ·have hnz : (n : Int) < 4 := by omega
   clear h1 h2 h3
   go_enter Go.Proofs.Tryz.func105, Go.Proofs.Tryz.ntmps105
   go_wp2_with fail
   all_goals (go_ret2; refine ⟨?_, (Below.refl _ _).alloc (Nat.le_refl _) _⟩; unfold Lib.slowN; (repeat' split); all_goals first | (exfalso; omega) | rfl | (simp only [Int.natCast_add, Int.natCast_mul, Int.natCast_emod, Int.natCast_ofNat]; rfl))
  ·have hnz : ¬ ((n : Int) < 4) := by omega
   have hz1 : (1 : Int) < (n : Int) := by omega
   have hb1 := ualloc_cell (.cells #[.int .u8 128, .int .u8 191] 186) (h1 (by omega))
   have hz2 : (2 : Int) < (n : Int) := by omega
   have hb2 := ualloc_cell (.cells #[.int .u8 128, .int .u8 191] 186) (h2 (by omega))
   have hz3 : (3 : Int) < (n : Int) := by omega
   have hb3 := ualloc_cell (.cells #[.int .u8 128, .int .u8 191] 186) (h3 (by omega))
   clear h1 h2 h3
   go_enter Go.Proofs.Tryz.func105, Go.Proofs.Tryz.ntmps105
   go_wp2_with fail
   all_goals (go_ret2; refine ⟨?_, (Below.refl _ _).alloc (Nat.le_refl _) _⟩; unfold Lib.slowN; (repeat' split); all_goals first | (exfalso; omega) | rfl | (simp only [Int.natCast_add, Int.natCast_mul, Int.natCast_emod, Int.natCast_ofNat]; rfl))
 ·have hd : decB n b0 b1 b2 b3 = Lib.slowN n b0 b1 b2 b3 4 128 143 := by unfold decB; rw [hX]; rfl
  have ha0 : w.cell? ⟨1, 8, none⟩ = some (.int .u8 128) := (hT.2 4 (by omega)).1
  have ha1 : w.cell? ⟨1, 9, none⟩ = some (.int .u8 143) := (hT.2 4 (by omega)).2
  rw [hd]
  rw [hX] at hc0
  clear hT hX hd
  by_cases hs : n < 4
  ·have hnz : (n : Int) < 4 := by omega
   clear h1 h2 h3
   go_enter Go.Proofs.Tryz.func105, Go.Proofs.Tryz.ntmps105
   go_wp2_with fail
   all_goals (go_ret2; refine ⟨?_, (Below.refl _ _).alloc (Nat.le_refl _) _⟩; unfold Lib.slowN; (repeat' split); all_goals first | (exfalso; omega) | rfl | (simp only [Int.natCast_add, Int.natCast_mul, Int.natCast_emod, Int.natCast_ofNat]; rfl))
  ·have hnz : ¬ ((n : Int) < 4) := by omega
   have hz1 : (1 : Int) < (n : Int) := by omega
   have hb1 := ualloc_cell (.cells #[.int .u8 128, .int .u8 143] 186) (h1 (by omega))
   have hz2 : (2 : Int) < (n : Int) := by omega
   have hb2 := ualloc_cell (.cells #[.int .u8 128, .int .u8 143] 186) (h2 (by omega))
   have hz3 : (3 : Int) < (n : Int) := by omega
   have hb3 := ualloc_cell (.cells #[.int .u8 128, .int .u8 143] 186) (h3 (by omega))
   clear h1 h2 h3
   go_enter Go.Proofs.Tryz.func105, Go.Proofs.Tryz.ntmps105
   go_wp2_with fail
   all_goals (go_ret2; refine ⟨?_, (Below.refl _ _).alloc (Nat.le_refl _) _⟩; unfold Lib.slowN; (repeat' split); all_goals first | (exfalso; omega) | rfl | (simp only [Int.natCast_add, Int.natCast_mul, Int.natCast_emod, Int.natCast_ofNat]; rfl))

open Go Go.RowKit
open Nat (reduceEqDiff reduceAdd reduceSub reduceLT reduceLeDiff reduceMul)
theorem utabs {w : World} (hgl : Gl Go.Proofs.Tryz.prog w fun _ => False) : Lib.Utf8Tabs 0 1 w := by
 constructor
 ·intro c hc
  obtain ⟨_, cs, e, fr, h2, h3⟩ := hgl.fst rfl _ glob_fst
  simp only [World.cell?, h2, Option.isSome_none, Bool.false_eq_true, if_false]
  exact h3 c hc
 ·intro i hi
  obtain ⟨_, cs, e, fr, h2, h3⟩ := hgl.acc rfl _ glob_acc
  simp only [World.cell?, h2, Option.isSome_none, Bool.false_eq_true, if_false]
  exact h3 i hi
theorem slow_t (l : Bs) (hl : l ≠ []) (h : 128 ≤ (l.getD 0 0).toNat) : Triple Go.Proofs.Tryz.prog 105 [sb l] [] (.tup [int .i32 ((decB l.length (l.getD 0 0).toNat (l.getD 1 0).toNat (l.getD 2 0).toNat (l.getD 3 0).toNat).1 : Nat), int .i64 ((decB l.length (l.getD 0 0).toNat (l.getD 1 0).toNat (l.getD 2 0).toNat (l.getD 3 0).toNat).2 : Nat)]) [] := by
 have hn : 1 ≤ l.length := List.length_pos_iff.2 hl
 refine triple_of_bytes (fun w ad cap hgl hc hcell hsp => ?_) hl
 have at_ : ∀ k, k < l.length → w.cell? ⟨ad.block, ad.off + k, none⟩ = some (.int .u8 (l.getD k 0).toNat) := fun k hk => by
  refine hcell k _ ?_
  simp [List.getD, hk]
 obtain ⟨b, o, s⟩ := ad
 simp only at hsp
 subst hsp
 refine (slow_calls w ⟨b, o, none⟩ l.length cap _ _ _ _ hn (at_ 0 (by omega)) (at_ 1) (at_ 2) (at_ 3) (UInt8.toNat_lt _) (UInt8.toNat_lt _) (UInt8.toNat_lt _) (UInt8.toNat_lt _) h (utabs hgl)).mono ?_
 rintro e w' ⟨rfl, hb⟩
 refine ⟨_, rfl, hb, fun R ob ρ => .tup _ _ (by simp) fun i x c hx hc => ?_⟩
 match i with
 | 0 => simp at hx hc; subst hx; subst hc; exact .r (.v _)
 | 1 => simp at hx hc; subst hx; subst hc; exact .r (.v _)
 | i + 2 => simp at hx
theorem decB_ok (n b0 b1 b2 b3 : Nat) (hn : 1 ≤ n) (h0 : 128 ≤ b0) (l0 : b0 < 256) (l1 : b1 < 256) (l2 : b2 < 256) (l3 : b3 < 256) :
  (decB n b0 b1 b2 b3).1 ≠ 63 ∧ (decB n b0 b1 b2 b3).1 ≠ 10 ∧ 1 ≤ (decB n b0 b1 b2 b3).2 ∧ (decB n b0 b1 b2 b3).2 ≤ n ∧ (1 < (decB n b0 b1 b2 b3).2 → 128 ≤ b1) ∧ (2 < (decB n b0 b1 b2 b3).2 → 128 ≤ b2) ∧ (3 < (decB n b0 b1 b2 b3).2 → 128 ≤ b3) ∧ (decB n b0 b1 b2 b3).2 ≤ 4 := by
 have hr : Lib.firstT b0 = 241 ∨ (Lib.firstT b0 = 2 ∧ 194 ≤ b0 ∧ b0 < 224) ∨ (Lib.firstT b0 = 19 ∧ b0 = 224) ∨ (Lib.firstT b0 = 3 ∧ 225 ≤ b0 ∧ b0 < 240) ∨ (Lib.firstT b0 = 35 ∧ b0 = 237) ∨ (Lib.firstT b0 = 52 ∧ b0 = 240) ∨
   (Lib.firstT b0 = 4 ∧ 241 ≤ b0 ∧ b0 < 244) ∨ (Lib.firstT b0 = 68 ∧ b0 = 244) := by
  unfold Lib.firstT
  repeat' split
  all_goals omega
 have fin : ∀ sz lo hi, decB n b0 b1 b2 b3 = Lib.slowN n b0 b1 b2 b3 sz lo hi → 2 ≤ sz → sz ≤ 4 → 128 ≤ lo → (sz = 2 → 194 ≤ b0 ∧ b0 < 224) → (sz = 3 → (b0 = 224 ∧ lo = 160) ∨ (225 ≤ b0 ∧ b0 < 240)) → (sz = 4 → (b0 = 240 ∧ lo = 144) ∨ (241 ≤ b0 ∧ b0 < 245)) → hi ≤ 191 →
   ((decB n b0 b1 b2 b3).1 ≠ 63 ∧ (decB n b0 b1 b2 b3).1 ≠ 10 ∧ 1 ≤ (decB n b0 b1 b2 b3).2 ∧ (decB n b0 b1 b2 b3).2 ≤ n ∧ (1 < (decB n b0 b1 b2 b3).2 → 128 ≤ b1) ∧ (2 < (decB n b0 b1 b2 b3).2 → 128 ≤ b2) ∧ (3 < (decB n b0 b1 b2 b3).2 → 128 ≤ b3) ∧ (decB n b0 b1 b2 b3).2 ≤ 4) := by
  intro sz lo hi hd hs2 hs4 hlo q2 q3 q4 hhi
  rw [hd]
  unfold Lib.slowN
  repeat' split
  all_goals (simp only; refine ⟨by omega, by omega, by omega, by omega, by omega, by omega, by omega, by omega⟩)
 rcases hr with h | ⟨h, g⟩ | ⟨h, g⟩ | ⟨h, g⟩ | ⟨h, g⟩ | ⟨h, g⟩ | ⟨h, g⟩ | ⟨h, g⟩
 ·have hd : decB n b0 b1 b2 b3 = (65533, 1) := by unfold decB; rw [h]; rfl
  rw [hd]
  simp only
  omega
 ·exact fin 2 128 191 (by unfold decB; rw [h]; rfl) (by omega) (by omega) (by omega) (by omega) (by omega) (by omega) (by omega)
 ·exact fin 3 160 191 (by unfold decB; rw [h]; rfl) (by omega) (by omega) (by omega) (by omega) (by omega) (by omega) (by omega)
 ·exact fin 3 128 191 (by unfold decB; rw [h]; rfl) (by omega) (by omega) (by omega) (by omega) (by omega) (by omega) (by omega)
 ·exact fin 3 128 159 (by unfold decB; rw [h]; rfl) (by omega) (by omega) (by omega) (by omega) (by omega) (by omega) (by omega)
 ·exact fin 4 144 191 (by unfold decB; rw [h]; rfl) (by omega) (by omega) (by omega) (by omega) (by omega) (by omega) (by omega)
 ·exact fin 4 128 191 (by unfold decB; rw [h]; rfl) (by omega) (by omega) (by omega) (by omega) (by omega) (by omega) (by omega)
 ·exact fin 4 128 143 (by unfold decB; rw [h]; rfl) (by omega) (by omega) (by omega) (by omega) (by omega) (by omega) (by omega)
theorem dec_slow (l : Bs) (hl : l ≠ []) (hn : l.length ≤ 140737488355328) (h : 128 ≤ (l.getD 0 0).toNat) : Triple Go.Proofs.Tryz.prog 83 [sb l] [] (.tup [int .i32 ((decB l.length (l.getD 0 0).toNat (l.getD 1 0).toNat (l.getD 2 0).toNat (l.getD 3 0).toNat).1 : Nat), int .i64 ((decB l.length (l.getD 0 0).toNat (l.getD 1 0).toNat (l.getD 2 0).toNat (l.getD 3 0).toNat).2 : Nat)]) [] := by
 have hst := slow_t l hl h
 generalize decB l.length (l.getD 0 0).toNat (l.getD 1 0).toNat (l.getD 2 0).toNat (l.getD 3 0).toNat = d at hst ⊢
 have hpos : 0 < l.length := List.length_pos_iff.2 hl
 obtain ⟨c, hc⟩ : ∃ c, l.getD 0 0 = c := ⟨_, rfl⟩
 rw [hc] at h
 have hg : ∀ z, (bys l).getD (Int.toNat 0) z = .v (.int .u8 c.toNat) := fun z => by
  rw [← hc, show Int.toNat 0 = 0 from rfl]
  cases l with
  | nil => exact absurd rfl hl
  | cons a b => rfl
 obtain ⟨N, hN⟩ : ∃ N : Int, ((l.length : Nat) : Int) = N := ⟨_, rfl⟩
 refine utf8_DecodeRune_triple rfl (by decide) ?_
 simp only [utf8_DecodeRune_pc, List.length_nil, List.length_map, hN, push_cast, ↓reduceIte, reduceCtorEq, Nat.reduceBEq, reduceEqDiff, reduceAdd, reduceSub, reduceLT, reduceLeDiff, reduceMul]
 refine run_loop [(0, false), (6, false), (7, false), (8, false)] (fun vs pos los => vs = [sb l, sb l, int .i64 N, int .i64 0] ∧ pos = [] ∧ los = []) (fun _ _ _ => 0) rfl ?_ ?_
 ·simp only [List.length_map, push_cast, ↓reduceIte, reduceCtorEq, Nat.reduceBEq, reduceEqDiff, reduceAdd, reduceSub, reduceLT, reduceLeDiff, reduceMul]
 ·rintro vs pos los ⟨rfl, rfl, rfl⟩
  have g1 : decide ((0 : Int) < N) = true := by simp; omega
  have g2 : decide (((c.toNat : Nat) : Int) < 128) = false := by simp; omega
  simp only [g1, g2, hg, hN, List.length_map, push_cast, ↓reduceIte, reduceCtorEq, Nat.reduceBEq, reduceEqDiff, reduceAdd, reduceSub, reduceLT, reduceLeDiff, reduceMul]
  refine ⟨by omega, ?_⟩
  refine call_mk hst rfl trivial ?_
  simp only [push_cast, ↓reduceIte, reduceCtorEq, Nat.reduceBEq, reduceEqDiff, reduceAdd, reduceSub, reduceLT, reduceLeDiff, reduceMul]
theorem dec_any (l : Bs) (hl : l ≠ []) (hn : l.length ≤ 140737488355328) : Dec l := by
 cases l with
 | nil => exact absurd rfl hl
 | cons c t =>
  by_cases h : c.toNat < 128
  ·exact ⟨_, 1, dec_ascii c t h hn, by omega, by simp, .inl ⟨_, _, rfl, rfl, rfl⟩⟩
  ·have hd := dec_slow (c :: t) hl hn (by show 128 ≤ c.toNat; omega)
   obtain ⟨k1, k2, k3, k4, k5, k6, k7, k8⟩ := decB_ok (c :: t).length ((c :: t).getD 0 0).toNat ((c :: t).getD 1 0).toNat ((c :: t).getD 2 0).toNat ((c :: t).getD 3 0).toNat (by simp) (by show 128 ≤ c.toNat; omega) (UInt8.toNat_lt _) (UInt8.toNat_lt _) (UInt8.toNat_lt _) (UInt8.toNat_lt _)
   generalize decB (c :: t).length ((c :: t).getD 0 0).toNat ((c :: t).getD 1 0).toNat ((c :: t).getD 2 0).toNat ((c :: t).getD 3 0).toNat = d at hd k1 k2 k3 k4 k5 k6 k7 k8
   refine ⟨_, _, hd, k3, k4, .inr ⟨by omega, by omega, fun x hx => ?_⟩⟩
   obtain ⟨i, hi, hxi⟩ := List.mem_iff_getElem.1 hx
   rw [List.length_take] at hi
   rw [List.getElem_take] at hxi
   have hil : i < (c :: t).length := by omega
   have hx128 : 128 ≤ x.toNat := by
    have hgi : (c :: t).getD i 0 = x := by rw [← hxi, List.getD_eq_getElem?_getD, List.getElem?_eq_getElem hil]; rfl
    have : i = 0 ∨ i = 1 ∨ i = 2 ∨ i = 3 := by omega
    rcases this with rfl | rfl | rfl | rfl
    ·have : c = x := hgi
     rw [← this]; omega
    ·rw [← hgi]; exact k5 (by omega)
    ·rw [← hgi]; exact k6 (by omega)
    ·rw [← hgi]; exact k7 (by omega)
   unfold stopB
   simp
   omega
theorem decs_any (l : Bs) (hn : l.length ≤ 140737488355328) : ∀ i, i < l.length → Dec (l.drop i) := fun i hi => dec_any _ (fun h => by
 have := congrArg List.length h
 simp at this
 omega) (by rw [List.length_drop]; omega)

open Go
noncomputable def apiarylaw25_AskPaths_pc : PC :=
  (.seq (.reg [p_s 4 (.mov (.c (.r (.v (.bool false)))))])
 (.seq (.seq (.reg [p_m 20 0, p_s 21 (.len true (.t 20)), p_s 22 (.bin .gtr (.t 21) (o_i 100))])
 (.cond (.t 22)
 (.seq (.reg [p_c 23 1 9 [], p_m 4 23])
 .ret)
 .skip))
 (.seq (.seq (.reg [p_s 5 (.mov (o_i 0))])
 (.block 0 (.loop (.seq (.seq (.reg [p_m 24 5, p_m 25 0, p_s 26 (.len true (.t 25)), p_s 27 (.bin .lss (.t 24) (.t 26))])
 (.cond (.t 27)
 .skip
 (.exit 0)))
 (.seq (.block 1 (.seq (.reg [p_m 30 0, p_m 31 5, p_s 32 (.ixs (.t 30) (.t 31)), p_s 33 (.bin .eql (.t 32) (.c (.r (.v (.int .u8 63))))), p_m 34 33, p_g 35 34 false (.mov (.t 0)), p_g 36 34 false (.mov (.t 5)),
 p_g 37 34 false (.ixs (.t 35) (.t 36)), p_g 38 34 false (.bin .eql (.t 37) (.c (.r (.v (.int .u8 10))))), p_s 39 (.pick (.t 34) (.c (.r (.v (.bool true)))) (.t 38))])
 (.cond (.t 39)
 (.seq (.reg [p_c 40 2 9 [], p_m 4 40])
 .ret)
 .skip)))
 (.reg [p_m 28 5, p_s 29 (.bin .add (.t 28) (o_i 1)), p_m 5 29]))))))
 (.seq (.reg [p_s 6 (.mov (.c (.r (.v (.bool false)))))])
 (.seq (.seq (.reg [p_s 7 (.mov (o_i 1))])
 (.block 2 (.loop (.seq (.seq (.reg [p_m 41 7, p_s 42 (.bin .leq (.t 41) (o_i 16))])
 (.cond (.t 42)
 .skip
 (.exit 2)))
 (.seq (.block 3 (.reg [p_m 45 6, p_m 46 45, p_g 47 46 false (.mov (.t 7)), ⟨(some 48), (some (46, false)), 3, .call 10 [(.t 47)]⟩, p_g 49 46 false (.mov (.t 0)), p_g 50 46 false (.bin .eql (.t 48) (.t 49)),
 p_s 51 (.pick (.t 46) (.c (.r (.v (.bool true)))) (.t 50)), p_m 6 51]))
 (.reg [p_m 43 7, p_s 44 (.bin .add (.t 43) (o_i 1)), p_m 7 44]))))))
 (.seq (.reg [p_m 53 0, p_s 54 (.bin .add (.c (.r (.v (.string ⟨#[47]⟩)))) (.t 53)), p_a 55 (.toBytes (.v (.int .u8 0)) (.t 54)), p_c 56 4 11 [.t 55], p_m 52 56, p_s 57 (.ext (.t 52) 0),
 p_s 58 (.ext (.t 52) 1), p_a 8 (.new [(.r (.v (.int .i64 0))), (.nils 1 (.v (.int .i64 0))), (.nils 1 (.v (.int .u64 0))), (.nils 2 (.agg [(.v (.int .i64 0)), (.v (.int .i64 0))])), (.nils 5 (.agg [(.v (.int .i64 0)), (.v (.int .i64 0)), (.v (.int .i64 0)), (.v (.int .i64 0)), (.v (.int .i64 0))]))]),
 ⟨none, none, 0, .act (.st 5 (.t 8) (.t 57))⟩, p_m 9 58])
 (.seq (.reg [p_m 60 0, p_s 61 (.bin .add (.t 60) (.c (.r (.v (.string ⟨#[120]⟩))))), p_a 62 (.toBytes (.v (.int .u8 0)) (.t 61)), p_c 63 5 11 [.t 62], p_m 59 63, p_s 64 (.ext (.t 59) 0),
 p_s 65 (.ext (.t 59) 1), p_a 10 (.new [(.r (.v (.int .i64 0))), (.nils 1 (.v (.int .i64 0))), (.nils 1 (.v (.int .u64 0))), (.nils 2 (.agg [(.v (.int .i64 0)), (.v (.int .i64 0))])), (.nils 5 (.agg [(.v (.int .i64 0)), (.v (.int .i64 0)), (.v (.int .i64 0)), (.v (.int .i64 0)), (.v (.int .i64 0))]))]),
 ⟨none, none, 0, .act (.st 5 (.t 10) (.t 64))⟩, p_m 11 65])
 (.seq (.reg [p_a 67 (.bsl 1 (.v (.int .u8 0)) [(.c (.r (.v (.int .u8 47)))), (.c (.r (.v (.int .u8 108)))), (.c (.r (.v (.int .u8 111)))), (.c (.r (.v (.int .u8 97)))), (.c (.r (.v (.int .u8 100))))]),
 p_a 68 (.mrk (.t 67)), p_c 69 6 11 [.t 68], p_m 66 69, p_s 70 (.ext (.t 66) 0), p_s 71 (.ext (.t 66) 1), p_a 12 (.new [(.r (.v (.int .i64 0))), (.nils 1 (.v (.int .i64 0))), (.nils 1 (.v (.int .u64 0))), (.nils 2 (.agg [(.v (.int .i64 0)), (.v (.int .i64 0))])), (.nils 5 (.agg [(.v (.int .i64 0)), (.v (.int .i64 0)), (.v (.int .i64 0)), (.v (.int .i64 0)), (.v (.int .i64 0))]))]),
 ⟨none, none, 0, .act (.st 5 (.t 12) (.t 70))⟩, p_m 13 71])
 (.seq (.reg [p_a 73 (.bsl 1 (.v (.int .u8 0)) [(.c (.r (.v (.int .u8 47)))), (.c (.r (.v (.int .u8 108)))), (.c (.r (.v (.int .u8 111)))), (.c (.r (.v (.int .u8 97)))), (.c (.r (.v (.int .u8 100)))), (.c (.r (.v (.int .u8 63))))]),
 p_a 74 (.mrk (.t 73)), p_c 75 7 11 [.t 74], p_m 72 75, p_s 76 (.ext (.t 72) 0), p_s 77 (.ext (.t 72) 1), p_a 14 (.new [(.r (.v (.int .i64 0))), (.nils 1 (.v (.int .i64 0))), (.nils 1 (.v (.int .u64 0))), (.nils 2 (.agg [(.v (.int .i64 0)), (.v (.int .i64 0))])), (.nils 5 (.agg [(.v (.int .i64 0)), (.v (.int .i64 0)), (.v (.int .i64 0)), (.v (.int .i64 0)), (.v (.int .i64 0))]))]),
 ⟨none, none, 0, .act (.st 5 (.t 14) (.t 76))⟩, p_m 15 77])
 (.seq (.reg [p_a 79 (.bsl 1 (.v (.int .u8 0)) [(.c (.r (.v (.int .u8 47)))), (.c (.r (.v (.int .u8 105)))), (.c (.r (.v (.int .u8 110)))), (.c (.r (.v (.int .u8 102)))), (.c (.r (.v (.int .u8 111)))), (.c (.r (.v (.int .u8 10))))]),
 p_a 80 (.mrk (.t 79)), p_c 81 8 11 [.t 80], p_m 78 81, p_s 82 (.ext (.t 78) 0), p_s 83 (.ext (.t 78) 1), p_a 16 (.new [(.r (.v (.int .i64 0))), (.nils 1 (.v (.int .i64 0))), (.nils 1 (.v (.int .u64 0))), (.nils 2 (.agg [(.v (.int .i64 0)), (.v (.int .i64 0))])), (.nils 5 (.agg [(.v (.int .i64 0)), (.v (.int .i64 0)), (.v (.int .i64 0)), (.v (.int .i64 0)), (.v (.int .i64 0))]))]),
 ⟨none, none, 0, .act (.st 5 (.t 16) (.t 82))⟩, p_m 17 83])
 (.seq (.reg [p_a 85 (.bsl 1 (.v (.int .u8 0)) [(.c (.r (.v (.int .u8 47)))), (.c (.r (.v (.int .u8 105)))), (.c (.r (.v (.int .u8 110)))), (.c (.r (.v (.int .u8 102)))), (.c (.r (.v (.int .u8 111))))]),
 p_a 86 (.mrk (.t 85)), p_c 87 9 11 [.t 86], p_m 84 87, p_s 88 (.ext (.t 84) 0), p_s 89 (.ext (.t 84) 1), p_a 18 (.new [(.r (.v (.int .i64 0))), (.nils 1 (.v (.int .i64 0))), (.nils 1 (.v (.int .u64 0))), (.nils 2 (.agg [(.v (.int .i64 0)), (.v (.int .i64 0))])), (.nils 5 (.agg [(.v (.int .i64 0)), (.v (.int .i64 0)), (.v (.int .i64 0)), (.v (.int .i64 0)), (.v (.int .i64 0))]))]),
 ⟨none, none, 0, .act (.st 5 (.t 18) (.t 88))⟩, p_m 19 89])
 (.seq (.reg [p_m 90 9, p_s 91 (.bin .eql (.t 90) (o_i 15)), p_m 92 6, p_s 93 (.un .not (.t 92)), p_m 94 93, p_g 95 94 false (.mov (.t 0)), p_g 96 94 false (.bin .eql (.t 95) (.c (.r (.v (.string ⟨#[108, 111, 97, 100]⟩))))),
 p_s 97 (.pick (.t 94) (.c (.r (.v (.bool true)))) (.t 96)), p_s 98 (.beq false (.t 91) (.t 97)), p_m 99 98, p_g 100 99 true (.mov (.t 0)), p_g 101 99 true (.len true (.t 100)),
 p_g 102 99 true (.bin .gtr (.t 101) (o_i 0)), p_g 103 99 true (.mov (.t 102)), p_g 104 103 true (.mov (.t 0)), p_g 105 103 true (.ixs (.t 104) (o_i 0)), p_g 106 103 true (.bin .eql (.t 105) (.c (.r (.v (.int .u8 47))))),
 p_g 107 99 true (.pick (.t 103) (.t 106) (.c (.r (.v (.bool false))))), p_g 108 99 true (.mov (.t 107)), p_g 109 108 false (.mov (.t 11)), p_g 110 108 false (.bin .eql (.t 109) (o_i 15)),
 p_g 111 99 true (.pick (.t 108) (.c (.r (.v (.bool true)))) (.t 110)), p_s 112 (.pick (.t 99) (.t 111) (.c (.r (.v (.bool false))))), p_m 113 112, p_g 114 113 true (.mov (.t 13)),
 p_g 115 113 true (.bin .eql (.t 114) (o_i 15)), p_s 116 (.pick (.t 113) (.t 115) (.c (.r (.v (.bool false))))), p_m 117 116, p_g 118 117 true (.mov (.t 15)), p_g 119 117 true (.bin .eql (.t 118) (o_i 15)),
 p_s 120 (.pick (.t 117) (.t 119) (.c (.r (.v (.bool false))))), p_m 121 120, p_g 122 121 true (.mov (.t 17)), p_g 123 121 true (.bin .eql (.t 122) (o_i 15)), p_s 124 (.pick (.t 121) (.t 123) (.c (.r (.v (.bool false))))),
 p_m 125 124, p_g 126 125 true (.mov (.t 19)), p_g 127 125 true (.bin .eql (.t 126) (o_i 0)), p_s 128 (.pick (.t 125) (.t 127) (.c (.r (.v (.bool false))))), p_m 129 128,
 p_g 130 129 true (.fa 0 (.t 18)), p_g 131 129 true (.ld none (.t 130)), p_g 132 129 true (.bin .eql (.t 131) (o_i 14)), p_s 133 (.pick (.t 129) (.t 132) (.c (.r (.v (.bool false))))),
 p_m 134 133, p_g 135 134 true (.mov (.t 1)), ⟨(some 136), (some (134, true)), 10, .call 10 [(.t 135)]⟩, p_g 137 134 true (.bin .neq (.t 136) (.c (.r (.v (.string ⟨#[]⟩))))),
 p_g 138 134 true (.mov (.t 1)), p_g 139 134 true (.bin .geq (.t 138) (o_i 1)), p_g 140 134 true (.mov (.t 139)), p_g 141 140 true (.mov (.t 1)), p_g 142 140 true (.bin .leq (.t 141) (o_i 16)),
 p_g 143 134 true (.pick (.t 140) (.t 142) (.c (.r (.v (.bool false))))), p_g 144 134 true (.beq false (.t 137) (.t 143)), p_s 145 (.pick (.t 134) (.t 144) (.c (.r (.v (.bool false))))),
 p_m 146 145, ⟨(some 147), (some (146, true)), 11, .call 9 []⟩, p_s 148 (.pick (.t 146) (.t 147) (.c (.r (.v (.bool false))))), p_m 4 148])
 .ret))))))))))))
theorem apiarylaw25_AskPaths_triple : Fun Go.Proofs.Tryz.prog 3 2 [(4, false, none)] apiarylaw25_AskPaths_pc := fun_mk Go.Proofs.Tryz.func3 rfl (by decide) (by kernel_rfl) (by decide) rfl (by kernel_rfl) (by kernel_rfl) (by decide)
def NoStop (l : Bs) : Prop := ∀ c ∈ l, stopB c = false
theorem bare_R (s : Bs) (h : NoStop s) (hl : s.length ≤ 9000) : parseR (47 :: s) = match formsL.find? (nmF s) with
  | none => noForm
  | some f => if f.1 = 16 then noForm else wholeR f [] := by
 have hb : bhd (47 :: s) = s := rfl
 unfold parseR parseG
 rw [if_neg (by simp; omega), hb, upTo_free stopB s h]
 simp only
 cases formsL.find? (nmF s) with
 | none => rfl
 | some f =>
  simp only
  by_cases h16 : f.1 = 16
  ·rw [if_pos (.inr (by rw [decide_eq_true h16]; exact fun e => by cases e)), if_pos h16]
  ·rw [if_neg (by
    rintro (h | h)
    ·cases h
    ·apply h
     rw [decide_eq_false h16]
     rfl), if_neg h16]
theorem bare_ask (s : Bs) (h : NoStop s) (hl : s.length ≤ 9000) : ∃ k e, parseR (47 :: s) = (askA k [] [] [], e) ∧ (e = 15 ↔ (formsL.find? (nmF s) = none ∨ s = [108, 111, 97, 100])) := by
 rw [bare_R s h hl]
 cases hf : formsL.find? (nmF s) with
 | none => exact ⟨0, 15, rfl, by simp⟩
 | some f =>
  have hm := List.mem_of_find?_eq_some hf
  have hn : (nmF s f) = true := List.find?_some hf
  have hs : f.2.1 = s := by simpa [nmF] using hn
  have h16 : f.1 = 16 ↔ s = [108, 111, 97, 100] := by
   rw [← hs]
   have : ∀ g ∈ formsL, g.1 = 16 ↔ g.2.1 = [108, 111, 97, 100] := by decide
   exact this f hm
  simp only
  by_cases hk : f.1 = 16
  ·rw [if_pos hk]
   exact ⟨0, 15, rfl, by simp [h16.1 hk]⟩
  ·rw [if_neg hk]
   unfold wholeR
   by_cases h0 : f.2.2 = []
   ·rw [if_pos ⟨h0, rfl⟩]
    exact ⟨f.1, 0, rfl, ⟨fun h => (by cases h), fun h => h.elim (fun h => (by cases h)) (fun h => absurd (h16.2 h) hk)⟩⟩
   ·rw [if_neg (fun h => h0 h.1), if_pos (.inr rfl)]
    exact ⟨0, 16, rfl, ⟨fun h => (by cases h), fun h => h.elim (fun h => (by cases h)) (fun h => absurd (h16.2 h) hk)⟩⟩
theorem name_at : ∀ k : Fin 16, nameL ((k.val : Int) + 1) = (formsL[k.val]'(by have := k.isLt; exact this)).2.1 := by decide
theorem name_some (k : Int) : (nameL k ≠ []) ↔ (1 ≤ k ∧ k ≤ 16) := by
 constructor
 ·intro h
  unfold nameL at h
  cases hf : formsL.find? (fun f => f.1 == k) with
  | none => rw [hf] at h; exact absurd rfl h
  | some f =>
   have hm := List.mem_of_find?_eq_some hf
   have hn : (f.1 == k) = true := List.find?_some (p := fun f : Form => f.1 == k) hf
   have : ∀ g ∈ formsL, 1 ≤ g.1 ∧ g.1 ≤ 16 := by decide
   have := this f hm
   rw [beq_iff_eq] at hn
   omega
 ·rintro ⟨h1, h2⟩
  obtain ⟨n, rfl⟩ : ∃ n : Nat, k = (n : Int) + 1 := ⟨(k - 1).toNat, by omega⟩
  have := name_at ⟨n, by omega⟩
  rw [this]
  have hne : ∀ k : Fin 16, (formsL[k.val]'(by have := k.isLt; exact this)).2.1 ≠ [] := by decide
  exact hne ⟨n, by omega⟩
theorem anys_parse (l : Bs) (hl : l.length ≤ 100000) (A : AV) (e : Int) (h : parseR l = (A, e)) (h10 : ∀ f, formsL.find? (nmF (upTo stopB (bhd l)).1) = some f → f.1 = 16 → ((upTo stopB (bhd l)).2.headD 0).toNat ≠ 10) : Triple Go.Proofs.Tryz.prog 11 [sb l] [] (.tup [A, int .i64 e]) [] := by
 have := aparse_t l (by omega) (decs_any l (by omega)) fun f h16 _ _ hf => h10 f hf h16
 rw [h] at this
 exact this
theorem rest_nil (l : Bs) (h : NoStop l) : (upTo stopB (bhd l)).2 = [] := by
 have hb : NoStop (bhd l) := fun c hc => by
  unfold bhd at hc
  by_cases hq : (l.take 1 == [47]) = true
  ·rw [if_pos hq] at hc
   exact h c (List.mem_of_mem_drop hc)
  ·rw [if_neg hq] at hc
   exact h c hc
 rw [upTo_free stopB _ hb]
theorem still_parse (l : Bs) (hl : l.length ≤ 100000) (h : NoStop l) (A : AV) (e : Int) (hp : parseR l = (A, e)) : Triple Go.Proofs.Tryz.prog 11 [sb l] [] (.tup [A, int .i64 e]) [] :=
 anys_parse l hl A e hp fun f _ _ => by rw [rest_nil l h]; decide
theorem ends_ask (s : Bs) (h : NoStop s) (hl : s.length ≤ 100) : ∃ k e, parseR (s ++ [120]) = (askA k [] [] [], e) ∧ (e = 15 ∨ ∃ t, s = 47 :: t) := by
 cases s with
 | nil => exact ⟨0, 15, parse_noslash _ (by decide) (by decide), .inl rfl⟩
 | cons c t =>
  by_cases hc : c = 47
  ·subst hc
   obtain ⟨k, e, hp, _⟩ := bare_ask (t ++ [120]) (fun x hx => by
    rcases List.mem_append.1 hx with hx | hx
    ·exact h x (by simp [hx])
    ·rw [List.mem_singleton] at hx
     subst hx
     decide) (by simp at hl ⊢; omega)
   exact ⟨k, e, hp, .inr ⟨t, rfl⟩⟩
  ·refine ⟨0, 15, parse_noslash _ (by simp at hl ⊢; omega) ?_, .inl rfl⟩
   rw [beq_eq_false_iff_ne]
   intro e
   simp at e
   exact hc e
set_option maxHeartbeats 2000000 in
theorem paths_t (s : Bs) (kind : Int) (hs : s.length ≤ 140737488355328) (hk : in64 kind) : Triple Go.Proofs.Tryz.prog 3 [sV s, int .i64 kind] [] (bl true) [] := by
 refine apiarylaw25_AskPaths_triple rfl (by decide) ?_
 simp only [apiarylaw25_AskPaths_pc, bstr_size, List.length_nil, push_cast, ↓reduceIte, reduceCtorEq, Nat.reduceBEq, reduceEqDiff, reduceAdd, reduceSub, reduceLT, reduceLeDiff, reduceMul]
 refine cnd_mk (fun hb => ?_) (fun hb => ?_)
 ·simp only [push_cast, ↓reduceIte, reduceCtorEq, Nat.reduceBEq, reduceEqDiff, reduceAdd, reduceSub, reduceLT, reduceLeDiff, reduceMul]
  refine call_mk askawake_t rfl trivial ?_
  simp only [push_cast, ↓reduceIte, reduceCtorEq, Nat.reduceBEq, reduceEqDiff, reduceAdd, reduceSub, reduceLT, reduceLeDiff, reduceMul]
 ·have hl : s.length ≤ 100 := by simp at hb; omega
  simp only [push_cast, ↓reduceIte, reduceCtorEq, Nat.reduceBEq, reduceEqDiff, reduceAdd, reduceSub, reduceLT, reduceLeDiff, reduceMul]
  refine run_loop [(0, false), (1, false), (5, false)] (fun vs pos los => ∃ i : Nat, i ≤ s.length ∧ NoStop (s.take i) ∧ vs = [sV s, int .i64 kind, int .i64 i] ∧ pos = [] ∧ los = [])
   (fun vs _ _ => match vs with | [_, _, .r (.v (.int _ j))] => (s.length - j).toNat | _ => 0) rfl ?_ ?_
  ·simp only [push_cast, ↓reduceIte, reduceCtorEq, Nat.reduceBEq, reduceEqDiff, reduceAdd, reduceSub, reduceLT, reduceLeDiff, reduceMul]
   exact ⟨0, by omega, by intro c hc; simp at hc, rfl⟩
  ·rintro vs pos los ⟨i, i0, hns, rfl, rfl, rfl⟩
   simp only [bstr_size, bstr_data, push_cast, ↓reduceIte, reduceCtorEq, Nat.reduceBEq, reduceEqDiff, reduceAdd, reduceSub, reduceLT, reduceLeDiff, reduceMul]
   refine cnd_mk (fun hi => ?_) (fun hi => ?_)
   ·have hi : i < s.length := by simpa using hi
    obtain ⟨c, hc⟩ : ∃ c, s[i] = c := ⟨_, rfl⟩
    have hg : s.getD i 0 = c := by rw [List.getD_eq_getElem?_getD, List.getElem?_eq_getElem hi, hc]; rfl
    have w1 : IntKind.i64.wrap ((i : Int) + 1) = (i : Int) + 1 := wrap_id (by omega)
    simp only [hg, w1, bstr_size, bstr_data, Int.toNat_natCast, Int.toNat_natCast_add_one, Nat.zero_add, push_cast, ↓reduceIte, reduceCtorEq, Nat.reduceBEq, reduceEqDiff, reduceAdd, reduceSub, reduceLT, reduceLeDiff, reduceMul]
    refine ⟨by omega, fun _ => by omega, fun h => by rw [h]; rfl, ?_⟩
    refine cnd_mk (fun hc => ?_) (fun hc => ?_)
    ·simp only [push_cast, ↓reduceIte, reduceCtorEq, Nat.reduceBEq, reduceEqDiff, reduceAdd, reduceSub, reduceLT, reduceLeDiff, reduceMul]
     refine call_mk askawake_t rfl trivial ?_
     simp only [push_cast, ↓reduceIte, reduceCtorEq, Nat.reduceBEq, reduceEqDiff, reduceAdd, reduceSub, reduceLT, reduceLeDiff, reduceMul]
    ·have hcs : stopB c = false := by
      unfold stopB
      simp only [decide_eq_false_iff_not]
      intro h
      by_cases q : c.toNat = 63
      ·simp [q] at hc
      ·have : c.toNat = 10 := by omega
       simp [this] at hc
     simp only [w1, push_cast, ↓reduceIte, reduceCtorEq, Nat.reduceBEq, reduceEqDiff, reduceAdd, reduceSub, reduceLT, reduceLeDiff, reduceMul]
     refine ⟨⟨i + 1, by omega, ?_, rfl⟩, by omega⟩
     rw [List.take_succ_eq_append_getElem hi]
     intro x hx
     rcases List.mem_append.1 hx with hx | hx
     ·exact hns x hx
     ·rw [List.mem_singleton] at hx
      rw [hx, ‹s[i] = c›]
      exact hcs
   ·have hi : i = s.length := Nat.le_antisymm i0 (by simpa using hi)
    subst hi
    rw [List.take_length] at hns
    simp only [bstr_size, bstr_data, Int.toNat_natCast, Int.toNat_natCast_add_one, Nat.zero_add, push_cast, ↓reduceIte, reduceCtorEq, Nat.reduceBEq, reduceEqDiff, reduceAdd, reduceSub, reduceLT, reduceLeDiff, reduceMul]
    refine run_loop [(0, false), (1, false), (6, false), (7, false)] (fun vs pos los => ∃ n : Nat, n ≤ 16 ∧ vs = [sV s, int .i64 kind, bl ((formsL.take n).any (nmF s)), int .i64 ((n : Int) + 1)] ∧ pos = [] ∧ los = [])
     (fun vs _ _ => match vs with | [_, _, _, .r (.v (.int _ j))] => (17 - j).toNat | _ => 0) rfl ?_ ?_
    ·simp only [push_cast, ↓reduceIte, reduceCtorEq, Nat.reduceBEq, reduceEqDiff, reduceAdd, reduceSub, reduceLT, reduceLeDiff, reduceMul]
     exact ⟨0, by omega, rfl⟩
    ·rintro vs pos los ⟨n, n16, rfl, rfl, rfl⟩
     obtain ⟨K, hK⟩ : ∃ K, (formsL.take n).any (nmF s) = K := ⟨_, rfl⟩
     rw [hK]
     simp only [push_cast, ↓reduceIte, reduceCtorEq, Nat.reduceBEq, reduceEqDiff, reduceAdd, reduceSub, reduceLT, reduceLeDiff, reduceMul]
     refine cnd_mk (fun hi => ?_) (fun hi => ?_)
     ·have hi : n < 16 := by simp at hi; omega
      have hil : n < formsL.length := hi
      have hnx : (formsL.take (n + 1)).any (nmF s) = (K || (formsL[n].2.1 == s)) := by
       rw [List.take_succ_eq_append_getElem hil, List.any_append, hK]
       simp [nmF]
      have hna := name_at ⟨n, hi⟩
      have w2 : IntKind.i64.wrap ((n : Int) + 1 + 1) = ((n + 1 : Nat) : Int) + 1 := by rw [wrap_id (by omega)]; omega
      cases K with
      | true =>
       simp only [w2, push_cast, ↓reduceIte, reduceCtorEq, Nat.reduceBEq, reduceEqDiff, reduceAdd, reduceSub, reduceLT, reduceLeDiff, reduceMul]
       exact ⟨⟨n + 1, by omega, by rw [hnx]; rfl⟩, by omega⟩
      | false =>
       simp only [w2, push_cast, ↓reduceIte, reduceCtorEq, Nat.reduceBEq, reduceEqDiff, reduceAdd, reduceSub, reduceLT, reduceLeDiff, reduceMul]
       refine call_mk (askname_t ((n : Int) + 1)) rfl trivial ?_
       simp only at hna
       rw [hna]
       simp only [w2, bstr_list, push_cast, ↓reduceIte, reduceCtorEq, Nat.reduceBEq, reduceEqDiff, reduceAdd, reduceSub, reduceLT, reduceLeDiff, reduceMul]
       exact ⟨⟨n + 1, by omega, by rw [hnx]; rfl⟩, by omega⟩
     ·have hi : n = 16 := by simp at hi; omega
      subst hi
      have hK2 : formsL.any (nmF s) = K := hK
      obtain ⟨k1, e1, hP1, he1⟩ := bare_ask s hns (by omega)
      obtain ⟨k2, e2, hP2, he2⟩ := ends_ask s hns hl
      have ns1 : NoStop (47 :: s) := fun c hc => (List.mem_cons.1 hc).elim (fun e => by subst e; decide) (hns c)
      have ns2 : NoStop (s ++ [120]) := fun c hc => (List.mem_append.1 hc).elim (hns c) (fun e => by rw [List.mem_singleton] at e; subst e; decide)
      simp only [bstr_lit, bstr_app, bstr_size, bstr_data, List.map_append, List.map_cons, List.map_nil, push_cast, ↓reduceIte, reduceCtorEq, Nat.reduceBEq, reduceEqDiff, reduceAdd, reduceSub, reduceLT, reduceLeDiff, reduceMul]
      repeat refine And.intro (by first | omega | (have := maxLen_big; omega) | (simp; done) | (simp; have := maxLen_big; omega)) ?_
      refine callA_give ?_
      simp only [List.map_append, List.length_append, push_cast, ↓reduceIte, reduceCtorEq, Nat.reduceBEq, reduceEqDiff, reduceAdd, reduceSub, reduceLT, reduceLeDiff, reduceMul]
      refine call_as (as' := [sb (47 :: s)]) (by first | (simp [by8]; done) | (simp [by8]; rfl)) ?_
      refine call_mk (still_parse (47 :: s) (by simp; omega) ns1 _ e1 hP1) rfl trivial ?_
      simp only [askA, nilOr, bstr_lit, bstr_app, bstr_size, bstr_data, List.map_append, List.map_cons, List.map_nil, List.length_append, push_cast, ↓reduceIte, reduceCtorEq, Nat.reduceBEq, reduceEqDiff, reduceAdd, reduceSub, reduceLT, reduceLeDiff, reduceMul]
      repeat refine And.intro (by first | omega | (have := maxLen_big; omega) | (simp; done) | (simp; have := maxLen_big; omega)) ?_
      refine callA_give ?_
      simp only [List.map_append, List.length_append, push_cast, ↓reduceIte, reduceCtorEq, Nat.reduceBEq, reduceEqDiff, reduceAdd, reduceSub, reduceLT, reduceLeDiff, reduceMul]
      refine call_as (as' := [sb (s ++ [120])]) (by first | (simp [by8]; done) | (simp [by8]; rw [List.take_of_length_le (by simp)]; rfl)) ?_
      refine call_mk (still_parse (s ++ [120]) (by simp; omega) ns2 _ e2 hP2) rfl trivial ?_
      simp only [askA, nilOr, bstr_lit, bstr_app, bstr_size, bstr_data, List.map_append, List.map_cons, List.map_nil, List.length_append, push_cast, ↓reduceIte, reduceCtorEq, Nat.reduceBEq, reduceEqDiff, reduceAdd, reduceSub, reduceLT, reduceLeDiff, reduceMul]
      repeat refine And.intro (by first | omega | (have := maxLen_big; omega) | (simp; done) | (simp; have := maxLen_big; omega)) ?_
      refine callA_give ?_
      simp only [List.map_append, List.length_append, push_cast, ↓reduceIte, reduceCtorEq, Nat.reduceBEq, reduceEqDiff, reduceAdd, reduceSub, reduceLT, reduceLeDiff, reduceMul]
      refine call_as (as' := [sb [47, 108, 111, 97, 100]]) (rfl) ?_
      refine call_mk (still_parse _ (by decide) (by unfold NoStop; decide) (askA 0 [] [] []) 15 (by rw [bare_R _ (by unfold NoStop; decide) (by decide)]; rfl)) rfl trivial ?_
      simp only [askA, nilOr, bstr_lit, bstr_app, bstr_size, bstr_data, List.map_append, List.map_cons, List.map_nil, List.length_append, push_cast, ↓reduceIte, reduceCtorEq, Nat.reduceBEq, reduceEqDiff, reduceAdd, reduceSub, reduceLT, reduceLeDiff, reduceMul]
      repeat refine And.intro (by first | omega | (have := maxLen_big; omega) | (simp; done) | (simp; have := maxLen_big; omega)) ?_
      refine callA_give ?_
      simp only [List.map_append, List.length_append, push_cast, ↓reduceIte, reduceCtorEq, Nat.reduceBEq, reduceEqDiff, reduceAdd, reduceSub, reduceLT, reduceLeDiff, reduceMul]
      refine call_as (as' := [sb [47, 108, 111, 97, 100, 63]]) (rfl) ?_
      refine call_mk (anys_parse _ (by decide) (askA 0 [] [] []) 15 (by rfl) (fun f _ _ => by decide)) rfl trivial ?_
      simp only [askA, nilOr, bstr_lit, bstr_app, bstr_size, bstr_data, List.map_append, List.map_cons, List.map_nil, List.length_append, push_cast, ↓reduceIte, reduceCtorEq, Nat.reduceBEq, reduceEqDiff, reduceAdd, reduceSub, reduceLT, reduceLeDiff, reduceMul]
      repeat refine And.intro (by first | omega | (have := maxLen_big; omega) | (simp; done) | (simp; have := maxLen_big; omega)) ?_
      refine callA_give ?_
      simp only [List.map_append, List.length_append, push_cast, ↓reduceIte, reduceCtorEq, Nat.reduceBEq, reduceEqDiff, reduceAdd, reduceSub, reduceLT, reduceLeDiff, reduceMul]
      refine call_as (as' := [sb [47, 105, 110, 102, 111, 10]]) (rfl) ?_
      refine call_mk (anys_parse _ (by decide) (askA 0 [] [] []) 15 (by rfl) (fun f hf h16 => by
       have : f = (14, [105, 110, 102, 111], []) := Option.some.inj (hf.symm.trans rfl)
       subst this
       cases h16)) rfl trivial ?_
      simp only [askA, nilOr, bstr_lit, bstr_app, bstr_size, bstr_data, List.map_append, List.map_cons, List.map_nil, List.length_append, push_cast, ↓reduceIte, reduceCtorEq, Nat.reduceBEq, reduceEqDiff, reduceAdd, reduceSub, reduceLT, reduceLeDiff, reduceMul]
      repeat refine And.intro (by first | omega | (have := maxLen_big; omega) | (simp; done) | (simp; have := maxLen_big; omega)) ?_
      refine callA_give ?_
      simp only [List.map_append, List.length_append, push_cast, ↓reduceIte, reduceCtorEq, Nat.reduceBEq, reduceEqDiff, reduceAdd, reduceSub, reduceLT, reduceLeDiff, reduceMul]
      refine call_as (as' := [sb [47, 105, 110, 102, 111]]) (rfl) ?_
      refine call_mk (still_parse _ (by decide) (by unfold NoStop; decide) (askA 14 [] [] []) 0 (by rw [bare_R _ (by unfold NoStop; decide) (by decide)]; rfl)) rfl trivial ?_
      obtain ⟨L, hL⟩ : ∃ L, ((bstr s).toList == (bstr [108, 111, 97, 100]).toList) = L := ⟨_, rfl⟩
      obtain ⟨E1, hE1⟩ : ∃ E, (e1 == 15) = E := ⟨_, rfl⟩
      obtain ⟨E2, hE2⟩ : ∃ E, (e2 == 15) = E := ⟨_, rfl⟩
      obtain ⟨Z, hZ⟩ : ∃ Z, decide (((s.length : Nat) : Int) > 0) = Z := ⟨_, rfl⟩
      obtain ⟨S0, hS0⟩ : ∃ S, ((((s.getD (Int.toNat 0) 0).toNat : Nat) : Int) == 47) = S := ⟨_, rfl⟩
      have hA : (E1 == bif !K then true else L) = true := by
       have hKf : K = true ↔ formsL.find? (nmF s) ≠ none := by
        rw [← hK2, List.any_eq_true]
        constructor
        ·rintro ⟨f, hf, hn⟩ h0
         rw [List.find?_eq_none] at h0
         exact h0 f hf hn
        ·intro h0
         cases hf : formsL.find? (nmF s) with
         | none => exact absurd hf h0
         | some f => exact ⟨f, List.mem_of_find?_eq_some hf, List.find?_some hf⟩
       have hLs : L = true ↔ s = [108, 111, 97, 100] := by
        rw [← hL, bstr_list, bstr_list, beq_iff_eq]
       have hEe : E1 = true ↔ e1 = 15 := by rw [← hE1, beq_iff_eq]
       by_cases hk : formsL.find? (nmF s) = none
       ·have : K = false := by
         cases hKv : K with
         | false => rfl
         | true => exact absurd hk (hKf.1 hKv)
        rw [this, hEe.2 (he1.2 (.inl hk))]
        rfl
       ·rw [hKf.2 hk]
        by_cases hs2 : s = [108, 111, 97, 100]
        ·rw [hLs.2 hs2, hEe.2 (he1.2 (.inr hs2))]
         rfl
        ·have h1 : L = false := by
          cases hLv : L with
          | false => rfl
          | true => exact absurd (hLs.1 hLv) hs2
         have h2 : E1 = false := by
          cases hEv : E1 with
          | false => rfl
          | true => exact ((he1.1 (hEe.1 hEv)).elim hk hs2).elim
         rw [h1, h2]
         rfl
      have hB : (bif bif Z then S0 else false then true else E2) = true := by
       rcases he2 with h | ⟨t, rfl⟩
       ·have : E2 = true := by rw [← hE2, h]; rfl
        rw [this]
        cases Z <;> cases S0 <;> rfl
       ·have h1 : Z = true := by rw [← hZ]; simp
        have h2 : S0 = true := by rw [← hS0]; rfl
        rw [h1, h2]
        rfl
      have hC : (E1 == bif !K then true else L) = true → Z = true → ((E1 == bif !K then true else L) && Z) = true := fun h1 h2 => by rw [h1, h2]; rfl
      simp only [hL, hE1, hE2, hZ, hS0, hA, hB, askA, nilOr, bstr_lit, bstr_app, bstr_size, bstr_data, List.map_append, List.map_cons, List.map_nil, List.length_append, push_cast, ↓reduceIte, reduceCtorEq, Nat.reduceBEq, reduceEqDiff, reduceAdd, reduceSub, reduceLT, reduceLeDiff, reduceMul]
      refine ⟨by cases K <;> simp, fun h => by rw [← hZ] at h; have := of_decide_eq_true h; omega, by cases Z <;> cases S0 <;> simp, ?_⟩
      refine call_mk (askname_t kind) rfl trivial ?_
      obtain ⟨NE, hNE⟩ : ∃ X, ((bstr (nameL kind)).toList == (bstr []).toList) = X := ⟨_, rfl⟩
      obtain ⟨G1, hG1⟩ : ∃ X, decide (kind ≥ 1) = X := ⟨_, rfl⟩
      obtain ⟨G2, hG2⟩ : ∃ X, decide (kind ≤ 16) = X := ⟨_, rfl⟩
      have hD : ((!NE) == bif G1 then G2 else false) = true := by
       have hns := name_some kind
       have hNEe : NE = true ↔ nameL kind = [] := by rw [← hNE, bstr_list, bstr_list, beq_iff_eq]
       by_cases hn : nameL kind = []
       ·rw [hNEe.2 hn]
        have : ¬ (1 ≤ kind ∧ kind ≤ 16) := fun h => hns.2 h hn
        cases G1 with
        | false => rfl
        | true =>
         have h1 : kind ≥ 1 := of_decide_eq_true hG1
         have h2 : G2 = false := by rw [← hG2]; simp; omega
         rw [h2]; rfl
       ·have h0 : NE = false := by
         cases hv : NE with
         | false => rfl
         | true => exact absurd (hNEe.1 hv) hn
        obtain ⟨h1, h2⟩ := hns.1 hn
        have q1 : G1 = true := by rw [← hG1]; simp; omega
        have q2 : G2 = true := by rw [← hG2]; simp; omega
        rw [h0, q1, q2]; rfl
      simp only [hNE, hG1, hG2, hD, push_cast, ↓reduceIte, reduceCtorEq, Nat.reduceBEq, reduceEqDiff, reduceAdd, reduceSub, reduceLT, reduceLeDiff, reduceMul]
      refine call_mk askawake_t rfl trivial ?_
      simp only [push_cast, ↓reduceIte, reduceCtorEq, Nat.reduceBEq, reduceEqDiff, reduceAdd, reduceSub, reduceLT, reduceLeDiff, reduceMul]

noncomputable def rec_Reader_Take_pc : PC :=
  (.seq (.reg [p_s 4 (.mov (.c (.r (.v (.int .u64 0)))))])
 (.seq (.seq (.reg [p_m 8 0, p_s 9 (.nck (.t 8)), p_s 10 (.fa 0 (.t 9)), p_s 11 (.ld none (.t 10)), p_s 12 (.len false (.t 11)), p_m 13 1, p_s 14 (.bin .lss (.t 12) (.t 13))])
 (.cond (.t 14)
 (.seq (.reg [p_m 15 0, p_m 16 0, p_s 17 (.nck (.t 15)), p_s 18 (.fa 0 (.t 17)), ⟨none, none, 0, .act (.st 1 (.t 18) (.c (.nils 1 (.v (.int .u8 0)))))⟩, p_s 19 (.nck (.t 16)),
 p_s 20 (.fa 1 (.t 19)), ⟨none, none, 0, .act (.st 1 (.t 20) (.c (.r (.v (.bool true)))))⟩])
 (.seq (.reg [p_s 4 (.mov (.c (.r (.v (.int .u64 0)))))])
 .ret))
 .skip))
 (.seq (.reg [p_s 5 (.mov (.c (.r (.v (.int .u64 0)))))])
 (.seq (.seq (.reg [p_m 21 0, p_s 22 (.nck (.t 21)), p_s 23 (.fa 0 (.t 22)), p_s 24 (.ld none (.t 23)), p_m 25 1, p_s 26 (.sll 1 (.t 24) none (some (.t 25)) none), p_s 27 (.len false (.t 26)),
 p_s 28 (.mov (o_i 0))])
 (.block 0 (.loop (.seq (.reg [p_s 29 (.bin .lss (.t 28) (.t 27))])
 (.seq (.cond (.t 29)
 .skip
 (.exit 0))
 (.seq (.block 1 (.seq (.reg [p_s 30 (.ia 1 (.v (.int .u8 0)) (.t 26) (.t 28)), p_s 31 (.ld none (.t 30)), p_m 7 31])
 (.reg [p_m 32 5, p_s 33 (.bin .shl (.t 32) (.c (.r (.v (.int .u64 8))))), p_m 34 7, p_s 35 (.conv .u64 (.t 34)), p_s 36 (.bin .or (.t 33) (.t 35)), p_m 5 36])))
 (.reg [p_s 37 (.bin .add (.t 28) (o_i 1)), p_m 28 37])))))))
 (.seq (.reg [p_m 38 0, p_m 39 0, p_s 40 (.nck (.t 39)), p_s 41 (.fa 0 (.t 40)), p_s 42 (.ld none (.t 41)), p_m 43 1, p_s 44 (.sll 1 (.t 42) (some (.t 43)) none none), p_s 45 (.nck (.t 38)),
 p_s 46 (.fa 0 (.t 45)), ⟨none, none, 0, .act (.st 1 (.t 46) (.t 44))⟩])
 (.seq (.reg [p_m 47 5, p_m 4 47])
 .ret))))))
theorem rec_Reader_Take_triple : Fun Go.Proofs.Tryz.prog 84 2 [(4, false, none)] rec_Reader_Take_pc := fun_mk Go.Proofs.Tryz.func84 rfl (by decide) (by kernel_rfl) (by decide) rfl (by kernel_rfl) (by kernel_rfl) (by decide)
noncomputable def rec_Ops_pc : PC :=
  (.seq (.reg [p_s 2 (.mov (.c (.nils 5 (.agg [(.v (.int .i64 0)), (.v (.int .i64 0)), (.v (.int .i64 0)), (.v (.int .i64 0)), (.v (.int .i64 0))])))), p_s 3 (.mov (o_i 0))])
 (.seq (.reg [p_m 9 0, p_s 10 (.build [(.nils 1 (.v (.int .u8 0))), (.r (.v (.bool false)))] [(0, 1, (.t 9))]), p_a 11 (.box (.t 10)), p_m 4 11])
 (.seq (.reg [p_s 5 (.mov (.c (.nils 5 (.agg [(.v (.int .i64 0)), (.v (.int .i64 0)), (.v (.int .i64 0)), (.v (.int .i64 0)), (.v (.int .i64 0))]))))])
 (.seq (.block 0 (.loop (.seq (.seq (.reg [p_m 12 4, p_s 13 (.nck (.t 12)), p_s 14 (.fa 0 (.t 13)), p_s 15 (.ld none (.t 14)), p_s 16 (.len false (.t 15)), p_s 17 (.bin .gtr (.t 16) (o_i 0)), p_m 18 17, p_g 19 18 true (.mov (.t 5)),
 p_g 20 18 true (.len false (.t 19)), p_g 21 18 true (.bin .leq (.t 20) (o_i 500)), p_s 22 (.pick (.t 18) (.t 21) (.c (.r (.v (.bool false)))))])
 (.cond (.t 22)
 .skip
 (.exit 0)))
 (.block 1 (.seq (.reg [p_m 23 4, p_c 24 1 84 [(.t 23), (o_i 1)], p_s 25 (.conv .i64 (.t 24)), p_s 26 (.build [(.r (.v (.int .i64 0))), (.r (.v (.int .i64 0))), (.r (.v (.int .i64 0))), (.r (.v (.int .i64 0))), (.r (.v (.int .i64 0)))] [(0, 1, (.t 25))]),
 p_a 6 (.new [(.r (.v (.int .i64 0))), (.r (.v (.int .i64 0))), (.r (.v (.int .i64 0))), (.r (.v (.int .i64 0))), (.r (.v (.int .i64 0)))]), ⟨none, none, 0, .act (.st 5 (.t 6) (.t 26))⟩])
 (.seq (.seq (.reg [p_s 27 (.fa 0 (.t 6)), p_s 28 (.ld none (.t 27)), p_s 29 (.bin .eql (.t 28) (o_i 1))])
 (.cond (.t 29)
 (.reg [p_m 30 4, p_c 31 2 85 [.t 30], p_s 32 (.fa 1 (.t 6)), ⟨none, none, 0, .act (.st 4 (.t 32) (.t 31))⟩])
 (.reg [p_m 33 4, p_c 34 3 84 [(.t 33), (o_i 4)], p_s 35 (.conv .i64 (.t 34)), p_s 36 (.fa 1 (.t 6)), p_s 37 (.fa 0 (.t 36)), ⟨none, none, 0, .act (.st 1 (.t 37) (.t 35))⟩])))
 (.reg [p_m 38 5, p_s 39 (.ld (some 5) (.t 6)), p_a 40 (.bsl 5 (.agg [(.v (.int .i64 0)), (.v (.int .i64 0)), (.v (.int .i64 0)), (.v (.int .i64 0)), (.v (.int .i64 0))]) [(.t 39)]),
 p_a 41 (.app 5 (.agg [(.v (.int .i64 0)), (.v (.int .i64 0)), (.v (.int .i64 0)), (.v (.int .i64 0)), (.v (.int .i64 0))]) 40 (.t 38) (.t 40)), p_m 5 41])))))))
 (.seq (.seq (.reg [p_m 43 5, p_c 44 4 45 [.t 43], p_m 42 44, p_s 45 (.ext (.t 42) 0), p_s 46 (.ext (.t 42) 1), p_m 7 45, p_m 8 46])
 (.seq (.reg [p_m 47 4, p_s 48 (.nck (.t 47)), p_s 49 (.fa 1 (.t 48)), p_s 50 (.ld none (.t 49)), p_m 51 50, p_g 52 51 false (.mov (.t 8)), p_g 53 51 false (.bin .neq (.t 52) (o_i 0)),
 p_s 54 (.pick (.t 51) (.c (.r (.v (.bool true)))) (.t 53))])
 (.cond (.t 54)
 (.seq (.reg [p_s 2 (.mov (.c (.nils 5 (.agg [(.v (.int .i64 0)), (.v (.int .i64 0)), (.v (.int .i64 0)), (.v (.int .i64 0)), (.v (.int .i64 0))])))), p_s 3 (.mov (o_i 10))])
 .ret)
 .skip)))
 (.seq (.reg [p_m 55 5, p_m 2 55, p_s 3 (.mov (o_i 0))])
 .ret))))))
theorem rec_Ops_triple : Fun Go.Proofs.Tryz.prog 51 1 [(2, false, none), (3, false, none)] rec_Ops_pc := fun_mk Go.Proofs.Tryz.func51 rfl (by decide) (by kernel_rfl) (by decide) rfl (by kernel_rfl) (by kernel_rfl) (by decide)
noncomputable def rec_Batch_pc : PC :=
  (.seq (.reg [p_s 2 (.mov (.c (.nils 1 (.v (.int .u8 0))))), p_s 3 (.mov (o_i 0))])
 (.seq (.block 0 (.seq (.reg [p_m 8 0, p_s 9 (.len false (.t 8)), p_s 10 (.bin .gtr (.t 9) (o_i 500)), p_m 7 10])
 (.cond (.t 7)
 (.seq (.reg [p_s 2 (.mov (.c (.nils 1 (.v (.int .u8 0))))), p_s 3 (.mov (o_i 11))])
 .ret)
 (.seq (.reg [p_m 12 0, p_s 13 (.len false (.t 12)), p_s 14 (.bin .eql (.t 13) (o_i 0)), p_m 15 14, p_g 16 15 false (.mov (.t 0)), ⟨(some 17), (some (15, false)), 1, .call 71 [(.t 16), (.c (.fn (.func 72) []))]⟩,
 p_s 18 (.pick (.t 15) (.c (.r (.v (.bool true)))) (.t 17)), p_m 11 18])
 (.cond (.t 11)
 (.seq (.reg [p_s 2 (.mov (.c (.nils 1 (.v (.int .u8 0))))), p_s 3 (.mov (o_i 1))])
 .ret)
 .skip)))))
 (.seq (.reg [p_s 4 (.mov (.c (.nils 1 (.v (.int .u8 0)))))])
 (.seq (.seq (.reg [p_m 19 0, p_s 20 (.len false (.t 19)), p_s 21 (.mov (o_i 0))])
 (.block 1 (.loop (.seq (.reg [p_s 22 (.bin .lss (.t 21) (.t 20))])
 (.seq (.cond (.t 22)
 .skip
 (.exit 1))
 (.seq (.block 2 (.seq (.reg [p_s 23 (.ia 5 (.agg [(.v (.int .i64 0)), (.v (.int .i64 0)), (.v (.int .i64 0)), (.v (.int .i64 0)), (.v (.int .i64 0))]) (.t 19) (.t 21)), p_s 24 (.ld (some 5) (.t 23)),
 p_a 6 (.new [(.r (.v (.int .i64 0))), (.r (.v (.int .i64 0))), (.r (.v (.int .i64 0))), (.r (.v (.int .i64 0))), (.r (.v (.int .i64 0)))]), ⟨none, none, 0, .act (.st 5 (.t 6) (.t 24))⟩])
 (.seq (.reg [p_m 25 4, p_s 26 (.fa 0 (.t 6)), p_s 27 (.ld none (.t 26)), p_s 28 (.conv .u8 (.t 27)), p_a 29 (.bsl 1 (.v (.int .u8 0)) [(.t 28)]), p_a 30 (.app 1 (.v (.int .u8 0)) 1 (.t 25) (.t 29)),
 p_m 4 30])
 (.seq (.reg [p_s 31 (.fa 0 (.t 6)), p_s 32 (.ld none (.t 31)), p_s 33 (.bin .eql (.t 32) (o_i 1))])
 (.cond (.t 33)
 (.reg [p_m 34 4, p_s 35 (.fa 1 (.t 6)), p_s 36 (.ld (some 4) (.t 35)), p_c 37 2 74 [.t 34, .t 36], p_m 4 37])
 (.reg [p_m 38 4, p_s 39 (.fa 1 (.t 6)), p_s 40 (.fa 0 (.t 39)), p_s 41 (.ld none (.t 40)), p_s 42 (.conv .u64 (.t 41)), p_c 43 3 75 [(.t 38), (.t 42), (o_i 4)], p_m 4 43]))))))
 (.reg [p_s 44 (.bin .add (.t 21) (o_i 1)), p_m 21 44])))))))
 (.seq (.reg [p_m 45 4, p_m 2 45, p_s 3 (.mov (o_i 0))])
 .ret)))))
theorem rec_Batch_triple : Fun Go.Proofs.Tryz.prog 45 1 [(2, false, none), (3, false, none)] rec_Batch_pc := fun_mk Go.Proofs.Tryz.func45 rfl (by decide) (by kernel_rfl) (by decide) rfl (by kernel_rfl) (by kernel_rfl) (by decide)
def beN : Bs → Nat → Nat
 | [], a => a
 | c :: r, a => beN r (a * 256 + c.toNat)
theorem take_t (l : Bs) (b : Bool) (k : Nat) (hk : k ≤ 4) (h : k ≤ l.length) (hl : l.length ≤ 140737488355328) : Triple Go.Proofs.Tryz.prog 84 [.ptr 1000000 0 0, int .i64 k] [.box [sb l, bl b]] (uw (beN (l.take k) 0)) [.box [sb (l.drop k), bl b]] := by
 refine rec_Reader_Take_triple rfl (by simp) ?_
 have g1 : decide (((l.length : Nat) : Int) < (k : Int)) = false := by simp; omega
 have e1 : List.drop (Int.toNat 0) (List.take k (bys l)) = bys (l.take k) := by
  rw [show Int.toNat 0 = 0 from rfl, List.drop_zero, ← List.map_take]
 have htl : (l.take k).length = k := by simp; omega
 simp only [rec_Reader_Take_pc, g1, List.length_nil, List.length_map, Int.toNat_natCast, Int.toNat_natCast_add_one, Nat.zero_add, push_cast, ↓reduceIte, reduceCtorEq, Nat.reduceBEq, reduceEqDiff, reduceAdd, reduceSub, reduceLT, reduceLeDiff, reduceMul]
 refine ⟨by omega, ?_⟩
 simp only [e1, htl, List.length_map, Int.toNat_natCast, Int.toNat_natCast_add_one, Nat.zero_add, push_cast, ↓reduceIte, reduceCtorEq, Nat.reduceBEq, reduceEqDiff, reduceAdd, reduceSub, reduceLT, reduceLeDiff, reduceMul]
 refine run_loop [(0, false), (1, false), (5, false), (26, false), (27, false), (28, false)] (fun vs pos los => ∃ (i U : Nat), i ≤ k ∧ U < 256 ^ i ∧ beN ((l.take k).drop i) U = beN (l.take k) 0 ∧
   vs = [.ptr 1000000 0 0, int .i64 k, uw U, sb (l.take k), int .i64 k, int .i64 i] ∧ pos = [.box [sb l, bl b]] ∧ los = [])
  (fun vs _ _ => match vs with | [_, _, _, _, _, .r (.v (.int _ j))] => (k - j).toNat | _ => 0) rfl ?_ ?_
 ·simp only [push_cast, ↓reduceIte, reduceCtorEq, Nat.reduceBEq, reduceEqDiff, reduceAdd, reduceSub, reduceLT, reduceLeDiff, reduceMul]
  exact ⟨0, 0, by omega, by decide, rfl, rfl⟩
 ·rintro vs pos los ⟨i, U, i0, hU, hb, rfl, rfl, rfl⟩
  obtain ⟨T, hT⟩ : ∃ T, l.take k = T := ⟨_, rfl⟩
  rw [hT] at hb htl ⊢
  simp only [uw, List.length_map, push_cast, ↓reduceIte, reduceCtorEq, Nat.reduceBEq, reduceEqDiff, reduceAdd, reduceSub, reduceLT, reduceLeDiff, reduceMul]
  refine cnd_mk (fun hi => ?_) (fun hi => ?_)
  ·have hi : i < k := by simpa using hi
   have hiT : i < T.length := by omega
   obtain ⟨c, hc⟩ : ∃ c, T[i] = c := ⟨_, rfl⟩
   have hd : T.drop i = c :: T.drop (i + 1) := by rw [List.drop_eq_getElem_cons hiT, hc]
   have hg : ∀ z, (bys T).getD i z = .v (.int .u8 c.toNat) := fun z => by
    rw [List.getD_eq_getElem?_getD]
    simp [hiT, hc, by8]
   have w1 : IntKind.i64.wrap ((i : Int) + 1) = (i : Int) + 1 := wrap_id (by omega)
   have hcl := c.toNat_lt
   have hU256 : 256 ^ i ≤ 16777216 := by
    have : (256 : Nat) ^ i ≤ 256 ^ 3 := Nat.pow_le_pow_right (by decide) (by omega)
    have h3 : (256 : Nat) ^ 3 = 16777216 := by decide
    omega
   have w3 : IntKind.u64.wrap ((c.toNat : Nat) : Int) = ((c.toNat : Nat) : Int) := by rw [IntKind.wrap_u64]; omega
   have nx : IntKind.u64.wrap ((BitVec.ofInt IntKind.u64.bits (IntKind.u64.wrap ((U : Int) * 2 ^ min (Int.toNat 8) IntKind.u64.bits)) ||| BitVec.ofInt IntKind.u64.bits ((c.toNat : Nat) : Int)).toNat : Int) = ((U * 256 + c.toNat : Nat) : Int) := by
    have hm : min (Int.toNat 8) IntKind.u64.bits = 8 := by decide
    have hsh : IntKind.u64.wrap ((U : Int) * 2 ^ min (Int.toNat 8) IntKind.u64.bits) = ((U * 256 : Nat) : Int) := by
     rw [hm, IntKind.wrap_u64]
     omega
    rw [hsh, or_u (by omega) (by omega), Nat.or_comm, or_high (k := 8) (by omega)]
   rw [hd, beN] at hb
   simp only [hg, w1, w3, nx, htl, List.length_map, Int.toNat_natCast, Int.toNat_natCast_add_one, Nat.zero_add, push_cast, ↓reduceIte, reduceCtorEq, Nat.reduceBEq, reduceEqDiff, reduceAdd, reduceSub, reduceLT, reduceLeDiff, reduceMul]
   exact ⟨by omega, by decide, ⟨i + 1, U * 256 + c.toNat, by omega, by rw [Nat.pow_succ]; omega, hb, by simp⟩, by omega⟩
  ·have hi : i = k := Nat.le_antisymm i0 (by simpa using hi)
   subst hi
   rw [List.drop_of_length_le (by omega), beN] at hb
   simp only [List.length_map, Int.toNat_natCast, Int.toNat_natCast_add_one, Nat.zero_add, push_cast, ↓reduceIte, reduceCtorEq, Nat.reduceBEq, reduceEqDiff, reduceAdd, reduceSub, reduceLT, reduceLeDiff, reduceMul]
   exact ⟨by omega, by rw [hb], by rw [← List.map_drop]⟩
theorem beN_zero : ∀ k, beN (List.replicate k 0) 0 = 0
 | 0 => rfl
 | k + 1 => by rw [List.replicate_succ, beN]; exact beN_zero k
theorem batchLong_t (xs : List RV) (hl : 500 < xs.length) : Triple Go.Proofs.Tryz.prog 45 [.r (.sl 5 xs)] [] (.tup [.nils 1 (.v (.int .u8 0)), int .i64 11]) [] := by
 refine rec_Batch_triple rfl (by decide) ?_
 have g1 : decide (((xs.length : Nat) : Int) > 500) = true := by simp; omega
 simp only [rec_Batch_pc, g1, List.length_nil, push_cast, ↓reduceIte, reduceCtorEq, Nat.reduceBEq, reduceEqDiff, reduceAdd, reduceSub, reduceLT, reduceLeDiff, reduceMul]
theorem opsZ_t (m : Nat) (h1 : 2505 ≤ m) (h2 : m ≤ 100000) : Triple Go.Proofs.Tryz.prog 51 [sb (List.replicate m 0)] [] (.tup [.nils 5 opZ, int .i64 10]) [] := by
 refine rec_Ops_triple rfl (by decide) ?_
 simp only [rec_Ops_pc, List.length_nil, push_cast, ↓reduceIte, reduceCtorEq, Nat.reduceBEq, reduceEqDiff, reduceAdd, reduceSub, reduceLT, reduceLeDiff, reduceMul]
 refine run_loop [(4, false), (5, true)] (fun vs pos los => ∃ k : Nat, k ≤ 501 ∧ vs = [.ptr 2000000 0 0, .own 2000001 0 0 k] ∧ pos = [] ∧ los = [.box [sb (List.replicate (m - 5 * k) 0), bl false], .row 5 opZ true true (List.replicate k opZ)])
  (fun vs _ _ => match vs with | [_, .own _ _ _ k] => 501 - k | _ => 0) rfl ?_ ?_
 ·simp only [push_cast, ↓reduceIte, reduceCtorEq, Nat.reduceBEq, reduceEqDiff, reduceAdd, reduceSub, reduceLT, reduceLeDiff, reduceMul]
  exact ⟨0, by omega, rfl, rfl⟩
 ·rintro vs pos los ⟨k, k0, rfl, rfl, rfl⟩
  by_cases hk : k ≤ 500
  ·have g1 : decide ((((m - 5 * k : Nat)) : Int) > 0) = true := by simp; omega
   have g2 : decide ((k : Int) ≤ 500) = true := by simp; omega
   have t1 := take_t (List.replicate (m - 5 * k) 0) false 1 (by omega) (by simp; omega) (by simp; omega)
   have t2 := take_t (List.replicate (m - 5 * k - 1) 0) false 4 (by omega) (by simp; omega) (by simp; omega)
   rw [List.take_replicate, beN_zero, List.drop_replicate] at t1 t2
   have w0 : IntKind.i64.wrap ((0 : Nat) : Int) = 0 := rfl
   have w0' : IntKind.i64.wrap 0 = 0 := rfl
   have g3 : ((0 : Int) == 1) = false := rfl
   simp only [g1, g2, List.length_map, List.length_replicate, push_cast, ↓reduceIte, reduceCtorEq, Nat.reduceBEq, reduceEqDiff, reduceAdd, reduceSub, reduceLT, reduceLeDiff, reduceMul]
   refine call_mk t1 rfl ⟨rfl, trivial⟩ ?_
   simp only [uw, w0, w0', g3, List.length_map, List.length_replicate, push_cast, ↓reduceIte, reduceCtorEq, Nat.reduceBEq, reduceEqDiff, reduceAdd, reduceSub, reduceLT, reduceLeDiff, reduceMul]
   refine call_mk t2 rfl ⟨rfl, trivial⟩ ?_
   simp only [uw, w0, w0', g3, List.length_map, List.length_replicate, push_cast, ↓reduceIte, reduceCtorEq, Nat.reduceBEq, reduceEqDiff, reduceAdd, reduceSub, reduceLT, reduceLeDiff, reduceMul]
   refine ⟨by simp, by have := maxLen_big; omega, ⟨k + 1, by omega, rfl, ?_⟩, by omega⟩
   rw [List.take_of_length_le (by simp), show m - 5 * (k + 1) = m - 5 * k - 1 - 4 by omega, List.replicate_succ']
   rfl
  ·have hk : k = 501 := by omega
   subst hk
   have g2 : decide ((501 : Int) ≤ 500) = false := by decide
   obtain ⟨B, hB⟩ : ∃ B, decide (((m - 5 * 501 : Nat) : Int) > 0) = B := ⟨_, rfl⟩
   have hbl := batchLong_t (List.replicate 501 opZ) (by simp)
   have g3 : ((11 : Int) != 0) = true := rfl
   have htk : List.take 501 (List.replicate 501 opZ) = List.replicate 501 opZ := List.take_of_length_le (by simp)
   generalize List.replicate 501 opZ = X at hbl htk
   cases B <;> simp only [g2, hB, List.length_map, List.length_replicate, push_cast, ↓reduceIte, reduceCtorEq, Nat.reduceBEq, reduceEqDiff, reduceAdd, reduceSub, reduceLT, reduceLeDiff, reduceMul]
   all_goals refine callA_give ?_
   all_goals simp only [htk, push_cast, ↓reduceIte, reduceCtorEq, Nat.reduceBEq, reduceEqDiff, reduceAdd, reduceSub, reduceLT, reduceLeDiff, reduceMul]
   all_goals refine call_mk hbl rfl trivial ?_
   all_goals simp only [g3, push_cast, ↓reduceIte, reduceCtorEq, Nat.reduceBEq, reduceEqDiff, reduceAdd, reduceSub, reduceLT, reduceLeDiff, reduceMul]
   all_goals rfl
theorem wload_t (f : Form) (rest : Bs) (hk : f.1 = 16) (hr : rest ≠ []) (hl : rest.length ≤ 1000000) (e : Int) (he : e ≠ 0) (hO : Triple Go.Proofs.Tryz.prog 51 [sb rest.tail] [] (.tup [.nils 5 opZ, int .i64 e]) []) :
  Triple Go.Proofs.Tryz.prog 27 [.r (formR f), sb rest] [] (.tup [askA 0 [] [] [], int .i64 e]) [] := by
 obtain ⟨k, nm, fs⟩ := f
 simp only at hk
 subst hk
 have hfr : formR (16, nm, fs) = .agg [.v (.int .i64 16), .v (.string (bstr nm)), .sl 2 (fs.map fldR)] := rfl
 refine ask_form_whole_triple rfl (by decide) ?_
 have g16 : ((16 : Int) == 16) = true := rfl
 obtain ⟨N, hN⟩ : ∃ N : Int, ((rest.length : Nat) : Int) = N := ⟨_, rfl⟩
 have hN1 : 1 ≤ N := by
  have : rest.length ≠ 0 := fun h => hr (List.length_eq_zero_iff.1 h)
  omega
 have e1 : List.drop (Int.toNat 1) (List.take N.toNat (bys rest)) = bys rest.tail := by
  rw [show N.toNat = rest.length by omega, take_map_len, show Int.toNat 1 = 1 from rfl, ← List.map_drop, List.drop_one]
 have ge : (e != 0) = true := by simp [he]
 simp only [ask_form_whole_pc, hfr, g16, hN, e1, List.length_nil, List.length_map, push_cast, ↓reduceIte, reduceCtorEq, Nat.reduceBEq, reduceEqDiff, reduceAdd, reduceSub, reduceLT, reduceLeDiff, reduceMul]
 refine ⟨by omega, ?_⟩
 refine call_as (as' := [sb rest.tail]) rfl ?_
 refine call_mk hO rfl trivial ?_
 simp only [ge, push_cast, ↓reduceIte, reduceCtorEq, Nat.reduceBEq, reduceEqDiff, reduceAdd, reduceSub, reduceLT, reduceLeDiff, reduceMul]
 rfl

noncomputable def apiarylaw25_AskBounds_pc : PC :=
  (.seq (.reg [p_s 4 (.mov (.c (.r (.v (.bool false)))))])
 (.seq (.reg [p_m 16 0, p_s 17 (.bin .and (.t 16) (o_i 15)), p_s 18 (.bin .add (.t 17) (o_i 9990)), p_m 19 1, p_s 20 (.bin .and (.t 19) (o_i 15)), p_s 21 (.bin .add (.t 20) (o_i 93)),
 p_m 0 18, p_m 1 21])
 (.seq (.reg [p_m 22 0, p_a 23 (.mks 1 (.v (.int .u8 0)) 1 (.t 22) (.t 22)), p_m 5 23])
 (.seq (.reg [p_m 24 5, p_a 25 (.cps (.t 24) (.c (.r (.v (.string ⟨#[47, 108, 111, 97, 100, 10]⟩)))))])
 (.seq (.reg [p_m 27 5, p_c 28 1 11 [.t 27], p_m 26 28, p_s 29 (.ext (.t 26) 0), p_s 30 (.ext (.t 26) 1), p_a 6 (.new [(.r (.v (.int .i64 0))), (.nils 1 (.v (.int .i64 0))), (.nils 1 (.v (.int .u64 0))), (.nils 2 (.agg [(.v (.int .i64 0)), (.v (.int .i64 0))])), (.nils 5 (.agg [(.v (.int .i64 0)), (.v (.int .i64 0)), (.v (.int .i64 0)), (.v (.int .i64 0)), (.v (.int .i64 0))]))]),
 ⟨none, none, 0, .act (.st 5 (.t 6) (.t 29))⟩, p_m 7 30])
 (.seq (.reg [p_s 8 (.mov (o_i 10))])
 (.seq (.seq (.reg [p_m 31 0, p_s 32 (.bin .gtr (.t 31) (o_i 10000))])
 (.cond (.t 32)
 (.reg [p_s 8 (.mov (o_i 11))])
 .skip))
 (.seq (.reg [p_s 9 (.mov (.c (.r (.v (.string ⟨#[47, 102, 105, 108, 108, 63, 114, 61, 51, 38, 112, 61, 48, 44, 48]⟩)))))])
 (.seq (.seq (.reg [p_s 10 (.mov (o_i 1))])
 (.block 0 (.loop (.seq (.seq (.reg [p_m 33 10, p_m 34 1, p_s 35 (.bin .lss (.t 33) (.t 34))])
 (.cond (.t 35)
 .skip
 (.exit 0)))
 (.seq (.block 1 (.reg [p_m 38 9, p_s 39 (.bin .add (.t 38) (.c (.r (.v (.string ⟨#[44, 49, 44, 50]⟩))))), p_m 9 39]))
 (.reg [p_m 36 10, p_s 37 (.bin .add (.t 36) (o_i 1)), p_m 10 37]))))))
 (.seq (.reg [p_m 41 9, p_a 42 (.toBytes (.v (.int .u8 0)) (.t 41)), p_c 43 2 11 [.t 42], p_m 40 43, p_s 44 (.ext (.t 40) 0), p_s 45 (.ext (.t 40) 1), p_a 11 (.new [(.r (.v (.int .i64 0))), (.nils 1 (.v (.int .i64 0))), (.nils 1 (.v (.int .u64 0))), (.nils 2 (.agg [(.v (.int .i64 0)), (.v (.int .i64 0))])), (.nils 5 (.agg [(.v (.int .i64 0)), (.v (.int .i64 0)), (.v (.int .i64 0)), (.v (.int .i64 0)), (.v (.int .i64 0))]))]),
 ⟨none, none, 0, .act (.st 5 (.t 11) (.t 44))⟩, p_m 12 45])
 (.seq (.reg [p_m 47 9, p_s 48 (.bin .add (.t 47) (.c (.r (.v (.string ⟨#[44, 53]⟩))))), p_a 49 (.toBytes (.v (.int .u8 0)) (.t 48)), p_c 50 3 11 [.t 49], p_m 46 50, p_s 51 (.ext (.t 46) 0),
 p_s 52 (.ext (.t 46) 1), p_a 13 (.new [(.r (.v (.int .i64 0))), (.nils 1 (.v (.int .i64 0))), (.nils 1 (.v (.int .u64 0))), (.nils 2 (.agg [(.v (.int .i64 0)), (.v (.int .i64 0))])), (.nils 5 (.agg [(.v (.int .i64 0)), (.v (.int .i64 0)), (.v (.int .i64 0)), (.v (.int .i64 0)), (.v (.int .i64 0))]))]),
 ⟨none, none, 0, .act (.st 5 (.t 13) (.t 51))⟩, p_m 14 52])
 (.seq (.reg [p_s 15 (.mov (o_i 0))])
 (.seq (.seq (.reg [p_m 53 1, p_s 54 (.bin .gtr (.t 53) (o_i 100))])
 (.cond (.t 54)
 (.reg [p_s 15 (.mov (o_i 16))])
 .skip))
 (.seq (.reg [p_m 55 7, p_m 56 8, p_s 57 (.bin .eql (.t 55) (.t 56)), p_m 58 57, p_g 59 58 true (.mov (.t 12)), p_g 60 58 true (.mov (.t 15)), p_g 61 58 true (.bin .eql (.t 59) (.t 60)),
 p_s 62 (.pick (.t 58) (.t 61) (.c (.r (.v (.bool false))))), p_m 63 62, p_g 64 63 true (.mov (.t 12)), p_g 65 63 true (.bin .neq (.t 64) (o_i 0)), p_g 66 63 true (.mov (.t 65)),
 p_g 67 66 false (.fa 3 (.t 11)), p_g 68 66 false (.ld none (.t 67)), p_g 69 66 false (.len false (.t 68)), p_g 70 66 false (.mov (.t 1)), p_g 71 66 false (.bin .eql (.t 69) (.t 70)),
 p_g 72 63 true (.pick (.t 66) (.c (.r (.v (.bool true)))) (.t 71)), p_s 73 (.pick (.t 63) (.t 72) (.c (.r (.v (.bool false))))), p_m 74 73, p_g 75 74 true (.mov (.t 14)),
 p_g 76 74 true (.bin .eql (.t 75) (o_i 16)), p_s 77 (.pick (.t 74) (.t 76) (.c (.r (.v (.bool false))))), p_m 78 77, ⟨(some 79), (some (78, true)), 4, .call 9 []⟩,
 p_s 80 (.pick (.t 78) (.t 79) (.c (.r (.v (.bool false))))), p_m 4 80])
 .ret))))))))))))))
theorem apiarylaw25_AskBounds_triple : Fun Go.Proofs.Tryz.prog 7 2 [(4, false, none)] apiarylaw25_AskBounds_pc := fun_mk Go.Proofs.Tryz.func7 rfl (by decide) (by kernel_rfl) (by decide) rfl (by kernel_rfl) (by kernel_rfl) (by decide)
def tailR : Nat → Bs
 | 0 => []
 | n + 1 => [44, 49, 44, 50] ++ tailR n
theorem tailR_len : ∀ n, (tailR n).length = 4 * n
 | 0 => rfl
 | n + 1 => by rw [tailR, List.length_append, tailR_len n]; simp; omega
theorem tailR_snoc : ∀ n, tailR (n + 1) = tailR n ++ [44, 49, 44, 50]
 | 0 => rfl
 | n + 1 => by
  show [44, 49, 44, 50] ++ tailR (n + 1) = ([44, 49, 44, 50] ++ tailR n) ++ [44, 49, 44, 50]
  rw [tailR_snoc n, List.append_assoc]
theorem tailR_all (q : UInt8 → Prop) (h : q 44 ∧ q 49 ∧ q 50) : ∀ n, ∀ c ∈ tailR n, q c
 | 0 => fun c hc => by cases hc
 | n + 1 => fun c hc => by
  rw [tailR] at hc
  rcases List.mem_append.1 hc with hc | hc
  ·simp at hc
   rcases hc with rfl | rfl | rfl | rfl
   ·exact h.1
   ·exact h.2.1
   ·exact h.1
   ·exact h.2.2
  ·exact tailR_all q h n c hc
def pcs (p : Bs) : Nat → List Bs
 | 0 => [p]
 | n + 1 => p :: [49] :: pcs [50] n
theorem pcs_len : ∀ (n : Nat) (p : Bs), (pcs p n).length = 2 * n + 1
 | 0, p => rfl
 | n + 1, p => by rw [pcs, List.length_cons, List.length_cons, pcs_len n]; omega
theorem pieces_pcs : ∀ (n : Nat) (p : Bs), 44 ∉ p → pieces 44 (p ++ tailR n) = pcs p n
 | 0, p, h => by rw [tailR, List.append_nil, pieces_free 44 p h]; rfl
 | n + 1, p, h => by
  rw [tailR, show p ++ ([44, 49, 44, 50] ++ tailR n) = p ++ 44 :: ([49] ++ 44 :: ([50] ++ tailR n)) from rfl, pieces_cut 44 p _ h, pieces_cut 44 [49] _ (by decide), pieces_pcs n [50] (by decide)]
  rfl
theorem corn_pcs : ∀ (n : Nat) (a p : Bs) (x y : Int) (acc : List (Int × Int)), pv a = some x → pv p = some y → cornP (a :: pcs p n) acc = some (acc ++ (x, y) :: List.replicate n (1, 2))
 | 0, a, p, x, y, acc, ha, hp => by
  rw [pcs, cornP, ha, hp]
  rfl
 | n + 1, a, p, x, y, acc, ha, hp => by
  rw [pcs, cornP, ha, hp]
  simp only
  rw [corn_pcs n [49] [50] 1 2 _ (pv_of _ _ (by decide)) (pv_of _ _ (by decide)), List.replicate_succ, List.append_assoc]
  rfl
theorem ring_pts (m : Nat) : ringP ([48] ++ 44 :: ([48] ++ tailR m)) = if 100 < m + 1 then none else some ((0, 0) :: List.replicate m (1, 2)) := by
 unfold ringP
 rw [pieces_cut 44 [48] _ (by decide), pieces_pcs m [48] (by decide)]
 simp only [List.length_cons, pcs_len]
 by_cases h : 100 < m + 1
 ·rw [if_pos (by omega), if_pos h]
 ·rw [if_neg (by omega), if_neg h, corn_pcs m [48] [48] 0 0 [] (pv_of _ _ (by decide)) (pv_of _ _ (by decide))]
  rfl
theorem ring_odd (m : Nat) : ringP (([48] ++ 44 :: ([48] ++ tailR m)) ++ [44, 53]) = none := by
 unfold ringP
 have h : (pieces 44 (([48] ++ 44 :: ([48] ++ tailR m)) ++ [44, 53])).length = 2 * m + 3 := by
  have h1 := pieces_len 44 ([48] ++ 44 :: ([48] ++ tailR m))
  rw [pieces_cut 44 [48] _ (by decide), pieces_pcs m [48] (by decide), List.length_cons, pcs_len] at h1
  rw [pieces_len, List.count_append, show List.count (44 : UInt8) [44, 53] = 1 by decide]
  omega
 simp only [h]
 rw [if_pos (by omega)]
theorem fill_R (R : Bs) (hR : 38 ∉ R) (hl : R.length ≤ 8000) : parseR (47 :: ([102, 105, 108, 108] ++ 63 :: (kv 114 [51] ++ 38 :: kv 112 R))) = match ringP R with
  | none => (askA 0 [] [] [], 16)
  | some rg => (askA 15 [3] [] rg, 0) := by
 rw [parse_path _ _ (15, [102, 105, 108, 108], nF [114]) (by decide) rfl (by decide) (by simp [kv]; omega), wholeR_q _ _ (by decide)]
 have hq : queryR (15, [102, 105, 108, 108], nF [114]) (kv 114 [51] ++ 38 :: kv 112 R) = match ringP R with
   | none => (([], [], false), [])
   | some rg => (([3], [], true), rg) := by
  unfold queryR
  rw [if_pos rfl, pieces_cut 38 _ _ (kv_free (by decide) (by decide) (by decide)), pieces_free 38 _ (kv_free (by decide) (by decide) hR)]
  have h1 : [kv 114 [51], kv 112 R].getLastD [] = kv 112 R := rfl
  rw [h1, valP_kv]
  simp only
  cases ringP R with
  | none => rfl
  | some rg =>
   simp only
   unfold queryG
   rw [if_neg (by simp [nF])]
   simp only [nF, List.map_cons, List.map_nil, List.dropLast, fldsR, List.headD_cons, List.tail_cons, valP_kv, List.nil_append, pv_of [51] 3 (by decide)]
 rw [hq]
 cases ringP R <;> rfl
def ldZ (N : Nat) : Bs := [47, 108, 111, 97, 100, 10] ++ List.replicate (N - 6) 0
theorem ldz_row (N : Nat) (h : 6 ≤ N) : List.take ((N : Int)).toNat (spl (zerosAt (N : Int) (.v (.int .u8 0))) 0 (List.take ((N : Int)).toNat ((([47, 108, 111, 97, 100, 10] : Bs)).map fun b => RV.v (.int .u8 b.toNat)))) = bys (ldZ N) := by
 obtain ⟨P, rfl⟩ : ∃ P, N = P + 6 := ⟨N - 6, by omega⟩
 rw [Int.toNat_natCast]
 unfold spl splice zerosAt ldZ
 rw [Int.toNat_natCast, List.take_of_length_le (l := List.map _ _) (by simp), List.take_of_length_le (by simp)]
 simp [by8]
theorem zeros_parse (N : Nat) (h1 : 9000 ≤ N) (h2 : N ≤ 20000) : Triple Go.Proofs.Tryz.prog 11 [sb (ldZ N)] [] (.tup [askA 0 [] [] [], int .i64 (if 10000 < N then 11 else 10)]) [] := by
 have hl : (ldZ N).length = N := by unfold ldZ; simp; omega
 have hb : bhd (ldZ N) = [108, 111, 97, 100] ++ 10 :: List.replicate (N - 6) 0 := rfl
 have hu : upTo stopB (bhd (ldZ N)) = ([108, 111, 97, 100], 10 :: List.replicate (N - 6) 0) := by
  rw [hb]
  exact upTo_cut stopB 10 _ rfl _ (by decide)
 have hf : formsL.find? (nmF [108, 111, 97, 100]) = some (16, [108, 111, 97, 100], []) := rfl
 have hg := aparse_g (fun _ _ => (askA 0 [] [] [], 10)) (fun _ _ => ⟨0, [], [], [], [], rfl, .inr rfl⟩) (ldZ N) (by omega) (asc_dec _ (by omega) (fun c hc => by
  unfold ldZ at hc
  rcases List.mem_append.1 hc with hc | hc
  ·have : ∀ c ∈ [47, 108, 111, 97, 100, 10], (c : UInt8).toNat < 128 := by decide
   exact this c hc
  ·rw [List.eq_of_mem_replicate hc]; decide)) (fun f hm hB hfd hg hlen => by
  rw [hu] at hfd hlen ⊢
  rw [hf] at hfd
  cases hfd
  exact wload_t _ _ rfl (by simp) (by omega) 10 (by decide) (opsZ_t (N - 6) (by omega) (by omega)))
 have hp : parseG (fun _ _ => (askA 0 [] [] [], 10)) (ldZ N) = (askA 0 [] [] [], if 10000 < N then 11 else 10) := by
  unfold parseG
  rw [hl, hu]
  by_cases h : 10000 < N
  ·rw [if_pos h, if_pos h]
  ·rw [if_neg h, if_neg h]
   simp only [hf]
   rw [if_neg]
   rintro (h | h)
   ·cases h
   ·exact h rfl
 rw [hp] at hg
 exact hg
set_option maxHeartbeats 2000000 in
theorem bounds_law (n k : Int) (hn : in64 n) (hk : in64 k) : Triple Go.Proofs.Tryz.prog 7 [int .i64 n, int .i64 k] [] (bl true) [] := by
 refine apiarylaw25_AskBounds_triple rfl (by decide) ?_
 have e15 : ∀ x : Int, IntKind.i64.wrap ((BitVec.ofInt IntKind.i64.bits x &&& BitVec.ofInt IntKind.i64.bits 15).toNat) = x % 16 := fun x => by
  have := and_mask x 15 4 (by decide) (by decide)
  simpa using this
 obtain ⟨N, hN⟩ : ∃ N : Nat, n % 16 + 9990 = (N : Int) := ⟨(n % 16 + 9990).toNat, by omega⟩
 obtain ⟨M, hM⟩ : ∃ M : Nat, k % 16 + 93 = (M : Int) := ⟨(k % 16 + 93).toNat, by omega⟩
 have wn : IntKind.i64.wrap (n % 16 + 9990) = (N : Int) := by rw [hN]; exact wrap_id (by omega)
 have wk : IntKind.i64.wrap (k % 16 + 93) = (M : Int) := by rw [hM]; exact wrap_id (by omega)
 simp only [apiarylaw25_AskBounds_pc, e15, wn, wk, List.length_nil, push_cast, ↓reduceIte, reduceCtorEq, Nat.reduceBEq, reduceEqDiff, reduceAdd, reduceSub, reduceLT, reduceLeDiff, reduceMul]
 refine ⟨by have := maxLen_big; omega, ?_⟩
 refine callA_give ?_
 simp only [push_cast, ↓reduceIte, reduceCtorEq, Nat.reduceBEq, reduceEqDiff, reduceAdd, reduceSub, reduceLT, reduceLeDiff, reduceMul]
 refine call_as (as' := [sb (ldZ N)]) (congrArg (fun x => [AV.r (.sl 1 x)]) (ldz_row N (by omega))) ?_
 refine call_mk (zeros_parse N (by omega) (by omega)) rfl trivial ?_
 obtain ⟨E, hE⟩ : ∃ E : Int, (if 10000 < N then (11 : Int) else 10) = E := ⟨_, rfl⟩
 rw [hE]
 simp only [askA, nilOr, List.map_nil, push_cast, ↓reduceIte, reduceCtorEq, Nat.reduceBEq, reduceEqDiff, reduceAdd, reduceSub, reduceLT, reduceLeDiff, reduceMul]
 refine cnd_join (fun e ob => e 8 = int .i64 E ∧ e 7 = int .i64 E ∧ e 1 = int .i64 M) ?_ (fun h => ?_) (fun h => ?_)
 ·rintro e ob ⟨h8, h7, h1⟩
  simp only [h8, h7, h1, push_cast, ↓reduceIte, reduceCtorEq, Nat.reduceBEq, reduceEqDiff, reduceAdd, reduceSub, reduceLT, reduceLeDiff, reduceMul]
  refine run_loop [(1, false), (7, false), (8, false), (9, false), (10, false)] (fun vs pos los => ∃ i : Nat, i + 1 ≤ M ∧ vs = [int .i64 M, int .i64 E, int .i64 E, sV ([47, 102, 105, 108, 108, 63, 114, 61, 51, 38, 112, 61, 48, 44, 48] ++ tailR i), int .i64 ((i : Int) + 1)] ∧ pos = [] ∧ los = [])
   (fun vs _ _ => match vs with | [_, _, _, _, .r (.v (.int _ j))] => (M - j).toNat | _ => 0) rfl ?_ ?_
  ·simp only [h8, h7, h1, push_cast, ↓reduceIte, reduceCtorEq, Nat.reduceBEq, reduceEqDiff, reduceAdd, reduceSub, reduceLT, reduceLeDiff, reduceMul]
   exact ⟨0, by omega, rfl⟩
  ·rintro vs pos los ⟨i, i0, rfl, rfl, rfl⟩
   have hT := tailR_len i
   obtain ⟨T, hTT⟩ : ∃ T, tailR i = T := ⟨_, rfl⟩
   obtain ⟨R, hR⟩ : ∃ R, [47, 102, 105, 108, 108, 63, 114, 61, 51, 38, 112, 61, 48, 44, 48] ++ tailR i = R := ⟨_, rfl⟩
   have hRl : R.length = 15 + 4 * i := by rw [← hR, List.length_append, hT]; simp
   rw [hR]
   simp only [push_cast, ↓reduceIte, reduceCtorEq, Nat.reduceBEq, reduceEqDiff, reduceAdd, reduceSub, reduceLT, reduceLeDiff, reduceMul]
   refine cnd_mk (fun hi => ?_) (fun hi => ?_)
   ·have hi : i + 1 < M := by simp at hi; omega
    have w1 : IntKind.i64.wrap ((i : Int) + 1 + 1) = ((i + 1 : Nat) : Int) + 1 := by rw [wrap_id (by omega)]; omega
    simp only [w1, bstr_lit, bstr_app, bstr_size, push_cast, ↓reduceIte, reduceCtorEq, Nat.reduceBEq, reduceEqDiff, reduceAdd, reduceSub, reduceLT, reduceLeDiff, reduceMul]
    refine ⟨by omega, ⟨i + 1, by omega, ?_⟩, by omega⟩
    have hnx : [47, 102, 105, 108, 108, 63, 114, 61, 51, 38, 112, 61, 48, 44, 48] ++ tailR (i + 1) = R ++ [44, 49, 44, 50] := by rw [tailR_snoc, ← hR, List.append_assoc]
    exact congrArg (fun l => [int .i64 M, int .i64 E, int .i64 E, sV l, int .i64 (((i + 1 : Nat) : Int) + 1)]) hnx.symm
   ·have hi : i + 1 = M := by simp at hi; omega
    have hMl : M ≤ 108 := by omega
    obtain ⟨G, hG⟩ : ∃ G, [48] ++ 44 :: ([48] ++ tailR i) = G := ⟨_, rfl⟩
    have hGl : G.length = 3 + 4 * i := by rw [← hG]; simp [hT]; omega
    have hRG : R = 47 :: ([102, 105, 108, 108] ++ 63 :: (kv 114 [51] ++ 38 :: kv 112 G)) := by rw [← hR, ← hG]; rfl
    have hGt : Tame G := by
     have h2 := tailR_all (fun c => c.toNat < 128 ∧ c.toNat ≠ 10) (by decide) i
     rw [← hG]
     unfold Tame
     simp only [List.cons_append, List.nil_append, List.forall_mem_cons]
     exact ⟨by decide, by decide, by decide, h2⟩
    have hGf : (38 : UInt8) ∉ G := by
     have h2 := tailR_all (fun c => c ≠ 38) (by decide) i
     rw [← hG]
     simp
     exact fun h => h2 38 h rfl
    have hp1 := fill_R G hGf (by omega)
    have hp2 := fill_R (G ++ [44, 53]) (by simp [hGf]) (by simp; omega)
    rw [← hG, ring_pts i] at hp1
    rw [← hG, ring_odd i] at hp2
    rw [hG] at hp1 hp2
    have hR5 : R ++ [44, 53] = 47 :: ([102, 105, 108, 108] ++ 63 :: (kv 114 [51] ++ 38 :: kv 112 (G ++ [44, 53]))) := by rw [hRG]; simp [kv]
    have hRt : Tame R := by
     rw [hRG]
     unfold Tame
     simp only [kv, List.cons_append, List.nil_append, List.forall_mem_cons]
     repeat (first | exact hGt | (refine And.intro (by decide) ?_))
    have hRt5 : Tame (R ++ [44, 53]) := tame_app hRt (tame_of _ (by decide))
    rw [← hRG] at hp1
    rw [← hR5] at hp2
    clear hR hRG hR5 hG
    by_cases h100 : 100 < i + 1
    ·rw [if_pos h100] at hp1
     have t1 := pars R (askA 0 [] [] []) 16 (by omega) hRt hp1
     have t2 := pars (R ++ [44, 53]) (askA 0 [] [] []) 16 (by simp; omega) hRt5 hp2
     simp only [askA, nilOr, bstr_lit, bstr_app, bstr_size, bstr_data, List.map_append, List.map_cons, List.map_nil, List.length_append, push_cast, ↓reduceIte, reduceCtorEq, Nat.reduceBEq, reduceEqDiff, reduceAdd, reduceSub, reduceLT, reduceLeDiff, reduceMul]
     repeat refine And.intro (by first | omega | (have := maxLen_big; omega) | (simp; done) | (simp; have := maxLen_big; omega)) ?_
     refine callA_give ?_
     simp only [List.map_append, List.length_append, push_cast, ↓reduceIte, reduceCtorEq, Nat.reduceBEq, reduceEqDiff, reduceAdd, reduceSub, reduceLT, reduceLeDiff, reduceMul]
     refine call_as (as' := [sb R]) rfl ?_
     refine call_mk t1 rfl trivial ?_
     simp only [askA, nilOr, bstr_lit, bstr_app, bstr_size, bstr_data, List.map_append, List.map_cons, List.map_nil, List.length_append, push_cast, ↓reduceIte, reduceCtorEq, Nat.reduceBEq, reduceEqDiff, reduceAdd, reduceSub, reduceLT, reduceLeDiff, reduceMul]
     repeat refine And.intro (by first | omega | (have := maxLen_big; omega) | (simp; done) | (simp; have := maxLen_big; omega)) ?_
     refine callA_give ?_
     simp only [List.map_append, List.length_append, push_cast, ↓reduceIte, reduceCtorEq, Nat.reduceBEq, reduceEqDiff, reduceAdd, reduceSub, reduceLT, reduceLeDiff, reduceMul]
     refine call_as (as' := [sb (R ++ [44, 53])]) (by first | (simp [by8]; done) | (simp [by8]; rw [List.take_of_length_le (by simp)]; rfl) | (simp [by8]; rfl)) ?_
     refine call_mk t2 rfl trivial ?_
     have g1 : decide ((M : Int) > 100) = true := by simp; omega
     have gE : (E == E) = true := by simp
     have g16 : ((16 : Int) != 0) = true := rfl
     have g0 : ((0 : Int) != 0) = false := rfl
     simp only [g1, gE, g16, g0, askA, nilOr, bstr_lit, bstr_app, bstr_size, bstr_data, List.map_append, List.map_cons, List.map_nil, List.length_append, push_cast, ↓reduceIte, reduceCtorEq, Nat.reduceBEq, reduceEqDiff, reduceAdd, reduceSub, reduceLT, reduceLeDiff, reduceMul]
     refine call_mk askawake_t rfl trivial ?_
     simp only [push_cast, ↓reduceIte, reduceCtorEq, Nat.reduceBEq, reduceEqDiff, reduceAdd, reduceSub, reduceLT, reduceLeDiff, reduceMul]
    ·rw [if_neg h100] at hp1
     have t1 := pars R _ 0 (by omega) hRt hp1
     have t2 := pars (R ++ [44, 53]) (askA 0 [] [] []) 16 (by simp; omega) hRt5 hp2
     simp only [askA, nilOr, bstr_lit, bstr_app, bstr_size, bstr_data, List.map_append, List.map_cons, List.map_nil, List.length_append, push_cast, ↓reduceIte, reduceCtorEq, Nat.reduceBEq, reduceEqDiff, reduceAdd, reduceSub, reduceLT, reduceLeDiff, reduceMul]
     repeat refine And.intro (by first | omega | (have := maxLen_big; omega) | (simp; done) | (simp; have := maxLen_big; omega)) ?_
     refine callA_give ?_
     simp only [List.map_append, List.length_append, push_cast, ↓reduceIte, reduceCtorEq, Nat.reduceBEq, reduceEqDiff, reduceAdd, reduceSub, reduceLT, reduceLeDiff, reduceMul]
     refine call_as (as' := [sb R]) rfl ?_
     refine call_mk t1 rfl trivial ?_
     simp only [askA, nilOr, bstr_lit, bstr_app, bstr_size, bstr_data, List.map_append, List.map_cons, List.map_nil, List.length_append, push_cast, ↓reduceIte, reduceCtorEq, Nat.reduceBEq, reduceEqDiff, reduceAdd, reduceSub, reduceLT, reduceLeDiff, reduceMul]
     repeat refine And.intro (by first | omega | (have := maxLen_big; omega) | (simp; done) | (simp; have := maxLen_big; omega)) ?_
     refine callA_give ?_
     simp only [List.map_append, List.length_append, push_cast, ↓reduceIte, reduceCtorEq, Nat.reduceBEq, reduceEqDiff, reduceAdd, reduceSub, reduceLT, reduceLeDiff, reduceMul]
     refine call_as (as' := [sb (R ++ [44, 53])]) (by first | (simp [by8]; done) | (simp [by8]; rw [List.take_of_length_le (by simp)]; rfl) | (simp [by8]; rfl)) ?_
     refine call_mk t2 rfl trivial ?_
     have g1 : decide ((M : Int) > 100) = false := by simp; omega
     have gE : (E == E) = true := by simp
     have g16 : ((16 : Int) != 0) = true := rfl
     have g0 : ((0 : Int) != 0) = false := rfl
     simp only [g1, gE, g16, g0, List.length_map, List.length_replicate, hi, askA, nilOr, bstr_lit, bstr_app, bstr_size, bstr_data, List.map_append, List.map_cons, List.map_nil, List.length_append, push_cast, ↓reduceIte, reduceCtorEq, Nat.reduceBEq, reduceEqDiff, reduceAdd, reduceSub, reduceLT, reduceLeDiff, reduceMul]
     refine call_mk askawake_t rfl trivial ?_
     simp only [push_cast, ↓reduceIte, reduceCtorEq, Nat.reduceBEq, reduceEqDiff, reduceAdd, reduceSub, reduceLT, reduceLeDiff, reduceMul]
 ·have hNN : 10000 < N := by simp at h; omega
  rw [if_pos hNN] at hE
  subst hE
  simp only [push_cast, ↓reduceIte, reduceCtorEq, Nat.reduceBEq, reduceEqDiff, reduceAdd, reduceSub, reduceLT, reduceLeDiff, reduceMul]
 ·have hNN : ¬ 10000 < N := by simp at h; omega
  rw [if_neg hNN] at hE
  subst hE
  simp only [push_cast, ↓reduceIte, reduceCtorEq, Nat.reduceBEq, reduceEqDiff, reduceAdd, reduceSub, reduceLT, reduceLeDiff, reduceMul]

theorem order_law (k w x y r : Int) (hk : in64 k) (hw : 0 ≤ w ∧ w ≤ 18446744073709551615) (hx : in64 x) (hy : in64 y) (hr : in64 r) : Triple Go.Proofs.Tryz.prog 6 [int .i64 k, int .u64 w, int .i64 x, int .i64 y, int .i64 r] [] (bl true) [] := by
 obtain ⟨W, rfl⟩ : ∃ W : Nat, w = (W : Int) := ⟨w.toNat, by omega⟩
 exact order_t k W x y r hk (by omega) hx hy hr

end Go.Ev

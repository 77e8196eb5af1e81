import Derived.Lib.ParseIntBTie
import Derived.Test.YtfdjfbodgiodbaaGreatDoorM8
open Nat renaming reduceBEq → zB, reduceEqDiff → zE, reduceAdd → zA, reduceSub → zS, reduceLT → zL, reduceLeDiff → zD, reduceMul → zM
open Go.Proofs.Tryz renaming prog → P0
open Bool renaming false_eq_true → zaa
open Nat renaming pow_le_pow_right → zab
namespace Go.Ev
set_option maxRecDepth 100000
open Go
set_option linter.unusedSectionVars false
set_option linter.unnecessarySimpa false
set_option linter.unusedSimpArgs false
set_option linter.unusedVariables false
def i64 (v : Int) : Prop := -9223372036854775808 ≤ v ∧ v ≤ 9223372036854775807
def isNeg : List UInt8 → Bool
 | c :: _ => decide (c.toNat = 45)
 | [] => false
def isNought : List UInt8 → Bool
 | c :: _ => decide (c.toNat = 48)
 | [] => false
def pv (l : List UInt8) : Option Int := match Lib.parseIntB 64 l with
 | .ok v => if Lib.itoa v = l then some v else none
 | _ => none
def rpd (neg : Bool) (d : List UInt8) : Option Int :=
 if d.length = 0 ∨ 19 < d.length ∨ (isNought d = true ∧ (1 < d.length ∨ neg = true)) then none
 else if d.all isDig = false then none
 else if neg = true then (if dval 0 d ≤ 9223372036854775808 then some (-(dval 0 d : Int)) else none)
 else (if dval 0 d < 9223372036854775808 then some (dval 0 d : Int) else none)
def rp (l : List UInt8) : Option Int := if isNeg l then rpd true l.tail else rpd false l
theorem u45 {c : UInt8} (h : c.toNat = 45) : c = 45 := UInt8.toNat_inj.1 h
theorem dec_first {u : Nat} {c : UInt8} {r : List UInt8} (h : Lib.decDigits u = c :: r) : 48 ≤ c.toNat ∧ c.toNat ≤ 57 := by
 have := dec_all u
 rw [h] at this
 simp only [List.all_cons, Bool.and_eq_true, isDig, decide_eq_true_eq] at this
 exact this.1
theorem dec_len {u k : Nat} (h : u < 10 ^ k) (hk : 1 ≤ k) : (Lib.decDigits u).length ≤ k := by
 rw [Lib.decDigits_length]
 rcases Nat.lt_or_ge k (Lib.nDigits u) with hlt | hge
 ·exfalso
  have h0 : u ≠ 0 := fun h0 => by
   subst h0
   rw [Lib.nDigits_small (by decide)] at hlt
   omega
  have hd := dec_val u
  have hh := dec_head u h0
  generalize hl : Lib.decDigits u = l at hd hh
  have hlen : l.length = Lib.nDigits u := by rw [← hl, Lib.decDigits_length]
  cases l with
  | nil => exact dec_ne u hl
  | cons c r =>
   have h1 := dec_first hl
   have h2 := hh c rfl
   have h3 := dval_le r (c.toNat - 48)
   have h4 : dval (c.toNat - 48) r = u := by
    have : dval (0 * 10 + (c.toNat - 48)) r = u := hd
    rwa [Nat.zero_mul, Nat.zero_add] at this
   have h5 : k ≤ r.length := by simp at hlen; omega
   have h6 : 10 ^ k ≤ 10 ^ r.length := zab (by decide) h5
   have h7 : 1 * 10 ^ r.length ≤ (c.toNat - 48) * 10 ^ r.length := Nat.mul_le_mul_right _ (by omega)
   omega
 ·exact hge
theorem rpd_iff (neg : Bool) (d : List UInt8) (v : Int) : rpd neg d = some v ↔ i64 v ∧ (if neg then v < 0 ∧ Lib.decDigits v.natAbs = d else 0 ≤ v ∧ Lib.decDigits v.toNat = d) := by
 constructor
 ·intro h
  unfold rpd at h
  split at h
  ·cases h
  ·rename_i h1
   split at h
   ·cases h
   ·rename_i h2
    have hd : d.all isDig = true := by simpa using h2
    have hne : d ≠ [] := fun e => h1 (.inl (by simp [e]))
    have hh : ∀ c, d.head? = some c → c.toNat = 48 → d.length = 1 ∧ neg = false := fun c hc h48 => by
     have hn : isNought d = true := by
      cases d with
      | nil => cases hc
      | cons e d => cases hc; simp [isNought, h48]
     have hlen : 0 < d.length := by
      cases d with
      | nil => exact absurd rfl hne
      | cons => simp
     refine ⟨?_, ?_⟩
     ·rcases Nat.lt_or_ge 1 d.length with h5 | h5
      ·exact absurd (.inr (.inr ⟨hn, .inl h5⟩)) h1
      ·omega
     ·cases neg with
      | false => rfl
      | true => exact absurd (.inr (.inr ⟨hn, .inr rfl⟩)) h1
    have hdec := dec_of d hne hd (fun c hc h48 => (hh c hc h48).1)
    cases neg with
    | true =>
     simp only [if_true] at h ⊢
     split at h
     ·rename_i h3
      have hv := Option.some.inj h
      have hpos : dval 0 d ≠ 0 := fun h0 => by
       cases d with
       | nil => exact hne rfl
       | cons c r =>
        rw [h0] at hdec
        have : c = 48 := by
         have := congrArg List.head? hdec
         rw [Lib.decDigits_one (by decide)] at this
         exact (Option.some.inj this).symm
        have := (hh c rfl (by rw [this]; rfl)).2
        cases this
      subst hv
      refine ⟨by unfold i64; omega, by omega, ?_⟩
      rw [Int.natAbs_neg, Int.natAbs_natCast, hdec]
     ·cases h
    | false =>
     simp only [zaa, if_false] at h ⊢
     split at h
     ·rename_i h3
      have hv := Option.some.inj h
      subst hv
      refine ⟨by unfold i64; omega, by omega, ?_⟩
      rw [Int.toNat_natCast, hdec]
     ·cases h
 ·rintro ⟨hv, h⟩
  have key : ∀ u : Nat, u ≤ 9223372036854775808 → Lib.decDigits u = d → (neg = true → u ≠ 0) → d.all isDig = true ∧ dval 0 d = u ∧ ¬ (d.length = 0 ∨ 19 < d.length ∨ (isNought d = true ∧ (1 < d.length ∨ neg = true))) := fun u hu hud hn => by
   subst hud
   refine ⟨dec_all u, dec_val u, ?_⟩
   rintro (h1 | h1 | ⟨h1, h2⟩)
   ·exact dec_ne u (List.eq_nil_of_length_eq_zero h1)
   ·have := dec_len (u := u) (k := 19) (by omega) (by decide)
    omega
   ·by_cases h0 : u = 0
    ·subst h0
     rw [Lib.decDigits_one (by decide)] at h2
     rcases h2 with h2 | h2
     ·simp at h2
     ·exact hn h2 rfl
    ·have h3 := dec_head u h0
     generalize Lib.decDigits u = l at h1 h3
     cases l with
     | nil => simp [isNought] at h1
     | cons c r => exact h3 c rfl (by simpa [isNought] using h1)
  unfold i64 at hv
  unfold rpd
  cases neg with
  | true =>
   simp only [if_true] at h ⊢
   obtain ⟨k1, k2, k3⟩ := key v.natAbs (by omega) h.2 (fun _ => by omega)
   rw [if_neg (by simpa using k3), if_neg (by rw [k1]; simp), if_pos (by omega), k2]
   congr 1
   omega
  | false =>
   simp only [zaa, if_false] at h ⊢
   obtain ⟨k1, k2, k3⟩ := key v.toNat (by omega) h.2 (fun h => by cases h)
   rw [if_neg (by simpa using k3), if_neg (by rw [k1]; simp), if_pos (by omega), k2]
   congr 1
   omega
theorem rp_iff (l : List UInt8) (v : Int) : rp l = some v ↔ i64 v ∧ Lib.itoa v = l := by
 unfold rp
 cases l with
 | nil =>
  simp only [isNeg, zaa, if_false, rpd_iff]
  refine and_congr_right fun _ => ?_
  unfold Lib.itoa
  constructor
  ·rintro ⟨_, h⟩; exact absurd h (dec_ne _)
  ·intro h
   split at h
   ·cases h
   ·exact absurd h (dec_ne _)
 | cons c r =>
  by_cases hc : c.toNat = 45
  ·simp only [isNeg, hc, decide_true, if_true, List.tail_cons, rpd_iff]
   refine and_congr_right fun _ => ?_
   have := u45 hc
   subst this
   unfold Lib.itoa
   constructor
   ·rintro ⟨h1, h2⟩
    rw [if_pos h1, h2]
   ·intro h
    split at h
    ·rename_i h1
     simp at h
     exact ⟨h1, h⟩
    ·have := dec_first h
     exact absurd this.1 (by decide)
  ·simp only [isNeg, hc, decide_false, zaa, if_false, rpd_iff]
   refine and_congr_right fun _ => ?_
   unfold Lib.itoa
   constructor
   ·rintro ⟨h1, h2⟩
    rw [if_neg (by omega), h2]
   ·intro h
    split at h
    ·simp at h
     exact absurd (by rw [← h.1]; rfl) hc
    ·rename_i h1
     exact ⟨by omega, h⟩
theorem round_trip (v : Int) (hv : i64 v) : Lib.parseIntB 64 (Lib.itoa v) = .ok v := by
 unfold i64 at hv
 have key : ∀ u : Nat, u ≤ 9223372036854775808 → Lib.parseUintB 64 (Lib.decDigits u) = .ok u := fun u hu => by
  unfold Lib.parseUintB
  rw [if_neg (dec_ne u), parse_dig (by decide) _ _ (dec_all u) (by rw [dec_val]; omega), dec_val]
 unfold Lib.itoa
 by_cases h : v < 0
 ·rw [if_pos h]
  simp only [Lib.parseIntB, show ((45 : UInt8).toNat = 45) from rfl, or_true, if_true]
  rw [key _ (by omega)]
  simp only [not_true, false_and, if_false, true_and]
  rw [if_neg (by omega)]
  congr 1
  omega
 ·rw [if_neg h]
  have hd := key v.toNat (by omega)
  generalize hl : Lib.decDigits v.toNat = l at hd
  cases l with
  | nil => exact absurd hl (dec_ne _)
  | cons c r =>
   have h1 := dec_first hl
   simp only [Lib.parseIntB]
   rw [if_neg (by omega), hd]
   simp only []
   rw [if_neg (by omega), if_neg (by omega), if_neg (by omega)]
   congr 1
   omega
theorem pv_iff (l : List UInt8) (v : Int) : pv l = some v ↔ i64 v ∧ Lib.itoa v = l := by
 unfold pv
 constructor
 ·intro h
  split at h
  ·rename_i v' hp
   split at h
   ·rename_i hi
    cases h
    have := Lib.parseIntB_bounds (B := 64) hp
    exact ⟨by unfold i64; omega, hi⟩
   ·cases h
  ·cases h
 ·rintro ⟨hv, rfl⟩
  rw [round_trip v hv]
  simp
theorem pv_rp (l : List UInt8) : pv l = rp l := by
 cases h : rp l with
 | some v => exact (pv_iff l v).2 ((rp_iff l v).1 h)
 | none =>
  cases h2 : pv l with
  | none => rfl
  | some v => rw [(rp_iff l v).2 ((pv_iff l v).1 h2)] at h; cases h

open Go Go.RowKit
noncomputable def apiaryref1_Text_pc : PC :=
  (.seq (.reg [p_s 2 (.mov (.c (.r (.v (.string ⟨#[]⟩)))))])
 (.seq (.reg [p_m 8 0, p_s 9 (.conv .u64 (.t 8)), p_m 3 9])
 (.seq (.reg [p_s 4 (.mov (.c (.r (.v (.string ⟨#[]⟩)))))])
 (.seq (.seq (.reg [p_m 10 0, p_s 11 (.bin .lss (.t 10) (o_i 0))])
 (.cond (.t 11)
 (.seq (.reg [p_m 12 3, p_s 13 (.un .neg (.t 12)), p_m 3 13])
 (.reg [p_s 4 (.mov (.c (.r (.v (.string ⟨#[45]⟩)))))]))
 .skip))
 (.seq (.reg [p_s 5 (.mov (.c (.r (.v (.string ⟨#[]⟩)))))])
 (.seq (.block 0 (.loop (.seq (.seq (.reg [p_m 14 3, p_s 15 (.bin .gtr (.t 14) (.c (.r (.v (.int .u64 9)))))])
 (.cond (.t 15)
 .skip
 (.exit 0)))
 (.block 1 (.seq (.reg [p_m 16 3, p_s 17 (.bin .rem (.t 16) (.c (.r (.v (.int .u64 10))))), p_s 18 (.conv .i64 (.t 17)), p_m 6 18])
 (.seq (.reg [p_m 19 6, p_m 20 6, p_s 21 (.bin .add (.t 20) (o_i 1)), p_s 22 (.sls (.c (.r (.v (.string ⟨#[48, 49, 50, 51, 52, 53, 54, 55, 56, 57]⟩)))) (some (.t 19)) (some (.t 21))),
 p_m 23 5, p_s 24 (.bin .add (.t 22) (.t 23)), p_m 5 24])
 (.reg [p_m 25 3, p_s 26 (.bin .quo (.t 25) (.c (.r (.v (.int .u64 10))))), p_m 3 26])))))))
 (.seq (.reg [p_m 27 3, p_s 28 (.conv .i64 (.t 27)), p_m 7 28])
 (.seq (.reg [p_m 29 4, p_m 30 7, p_m 31 7, p_s 32 (.bin .add (.t 31) (o_i 1)), p_s 33 (.sls (.c (.r (.v (.string ⟨#[48, 49, 50, 51, 52, 53, 54, 55, 56, 57]⟩)))) (some (.t 30)) (some (.t 32))),
 p_s 34 (.bin .add (.t 29) (.t 33)), p_m 35 5, p_s 36 (.bin .add (.t 34) (.t 35)), p_m 2 36])
 .ret))))))))
theorem apiaryref1_Text_triple : Fun P0 12 1 [(2, false, none)] apiaryref1_Text_pc := fun_mk Go.Proofs.Tryz.func12 rfl (by decide) (by kernel_rfl) (by decide) rfl (by kernel_rfl) (by kernel_rfl) (by decide)
noncomputable def apiaryref1_Parse_pc : PC :=
  (.seq (.reg [p_s 2 (.mov (o_i 0)), p_s 3 (.mov (.c (.r (.v (.bool false)))))])
 (.seq (.reg [p_m 8 0, p_s 9 (.len true (.t 8)), p_s 10 (.bin .gtr (.t 9) (o_i 0)), p_m 11 10, p_g 12 11 true (.mov (.t 0)), p_g 13 11 true (.ixs (.t 12) (o_i 0)), p_g 14 11 true (.bin .eql (.t 13) (.c (.r (.v (.int .u8 45))))),
 p_s 15 (.pick (.t 11) (.t 14) (.c (.r (.v (.bool false))))), p_m 4 15])
 (.seq (.reg [p_m 16 0, p_m 5 16])
 (.seq (.seq (.reg [p_m 17 4])
 (.cond (.t 17)
 (.reg [p_m 18 0, p_s 19 (.sls (.t 18) (some (o_i 1)) none), p_m 5 19])
 .skip))
 (.seq (.seq (.reg [p_m 20 5, p_s 21 (.bin .eql (.t 20) (.c (.r (.v (.string ⟨#[]⟩))))), p_m 22 21, p_g 23 22 false (.mov (.t 5)), p_g 24 22 false (.len true (.t 23)), p_g 25 22 false (.bin .gtr (.t 24) (o_i 19)),
 p_s 26 (.pick (.t 22) (.c (.r (.v (.bool true)))) (.t 25)), p_m 27 26, p_g 28 27 false (.mov (.t 5)), p_g 29 27 false (.ixs (.t 28) (o_i 0)), p_g 30 27 false (.bin .eql (.t 29) (.c (.r (.v (.int .u8 48))))),
 p_g 31 27 false (.mov (.t 30)), p_g 32 31 true (.mov (.t 5)), p_g 33 31 true (.len true (.t 32)), p_g 34 31 true (.bin .gtr (.t 33) (o_i 1)), p_g 35 31 true (.mov (.t 34)),
 p_g 36 35 false (.mov (.t 4)), p_g 37 31 true (.pick (.t 35) (.c (.r (.v (.bool true)))) (.t 36)), p_g 38 27 false (.pick (.t 31) (.t 37) (.c (.r (.v (.bool false))))),
 p_s 39 (.pick (.t 27) (.c (.r (.v (.bool true)))) (.t 38))])
 (.cond (.t 39)
 (.seq (.reg [p_s 2 (.mov (o_i 0)), p_s 3 (.mov (.c (.r (.v (.bool false)))))])
 .ret)
 .skip))
 (.seq (.reg [p_s 6 (.mov (.c (.r (.v (.int .u64 0)))))])
 (.seq (.seq (.reg [p_s 7 (.mov (o_i 0))])
 (.block 0 (.loop (.seq (.seq (.reg [p_m 40 7, p_m 41 5, p_s 42 (.len true (.t 41)), p_s 43 (.bin .lss (.t 40) (.t 42))])
 (.cond (.t 43)
 .skip
 (.exit 0)))
 (.seq (.block 1 (.seq (.seq (.reg [p_m 46 5, p_m 47 7, p_s 48 (.ixs (.t 46) (.t 47)), p_s 49 (.bin .lss (.t 48) (.c (.r (.v (.int .u8 48))))), p_m 50 49, p_g 51 50 false (.mov (.t 5)), p_g 52 50 false (.mov (.t 7)),
 p_g 53 50 false (.ixs (.t 51) (.t 52)), p_g 54 50 false (.bin .gtr (.t 53) (.c (.r (.v (.int .u8 57))))), p_s 55 (.pick (.t 50) (.c (.r (.v (.bool true)))) (.t 54))])
 (.cond (.t 55)
 (.seq (.reg [p_s 2 (.mov (o_i 0)), p_s 3 (.mov (.c (.r (.v (.bool false)))))])
 .ret)
 .skip))
 (.reg [p_m 56 6, p_s 57 (.bin .mul (.c (.r (.v (.int .u64 10)))) (.t 56)), p_m 58 5, p_m 59 7, p_s 60 (.ixs (.t 58) (.t 59)), p_s 61 (.bin .sub (.t 60) (.c (.r (.v (.int .u8 48))))),
 p_s 62 (.conv .u64 (.t 61)), p_s 63 (.bin .add (.t 57) (.t 62)), p_m 6 63])))
 (.reg [p_m 44 7, p_s 45 (.bin .add (.t 44) (o_i 1)), p_m 7 45]))))))
 (.seq (.seq (.reg [p_m 64 4, p_m 65 64, p_g 66 65 true (.mov (.t 6)), p_g 67 65 true (.bin .leq (.t 66) (.c (.r (.v (.int .u64 9223372036854775808))))), p_s 68 (.pick (.t 65) (.t 67) (.c (.r (.v (.bool false)))))])
 (.cond (.t 68)
 (.seq (.reg [p_m 69 6, p_s 70 (.un .neg (.t 69)), p_s 71 (.conv .i64 (.t 70)), p_m 2 71, p_s 3 (.mov (.c (.r (.v (.bool true)))))])
 .ret)
 .skip))
 (.seq (.seq (.reg [p_m 72 4, p_m 73 72, p_g 74 73 false (.mov (.t 6)), p_g 75 73 false (.bin .geq (.t 74) (.c (.r (.v (.int .u64 9223372036854775808))))), p_s 76 (.pick (.t 73) (.c (.r (.v (.bool true)))) (.t 75))])
 (.cond (.t 76)
 (.seq (.reg [p_s 2 (.mov (o_i 0)), p_s 3 (.mov (.c (.r (.v (.bool false)))))])
 .ret)
 .skip))
 (.seq (.reg [p_m 77 6, p_s 78 (.conv .i64 (.t 77)), p_m 2 78, p_s 3 (.mov (.c (.r (.v (.bool true)))))])
 .ret))))))))))
theorem apiaryref1_Parse_triple : Fun P0 66 1 [(2, false, none), (3, false, none)] apiaryref1_Parse_pc := fun_mk Go.Proofs.Tryz.func66 rfl (by decide) (by kernel_rfl) (by decide) rfl (by kernel_rfl) (by kernel_rfl) (by decide)
theorem dig_at : ∀ k : Fin 10, (bstr [48, 49, 50, 51, 52, 53, 54, 55, 56, 57]).extract k.val (k.val + 1) = bstr [UInt8.ofNat (48 + k.val)] := by decide +kernel
theorem txt_eq (n : Int) : txt n = bstr (Lib.itoa n) := rfl
theorem rtext_t (n : Int) (hn : in64 n) : Triple P0 12 [int .i64 n] [] (strv (txt n)) [] := by
  refine apiaryref1_Text_triple rfl (by decide) ?_
  simp only [apiaryref1_Text_pc, push_cast, ↓reduceIte, reduceCtorEq, zB, zE, zA, zS, zL, zD, zM]
  refine cnd_join (fun e ob => e 3 = int .u64 n.natAbs ∧ e 4 = strv (bstr (if n < 0 then [45] else [])) ∧ ob = fun _ => none) ?_ (fun h => ?_) (fun h => ?_)
  · rintro e ob ⟨h3, h4, rfl⟩
    simp only [h3, h4, push_cast, ↓reduceIte, reduceCtorEq, zB, zE, zA, zS, zL, zD, zM]
    have hu : n.natAbs ≤ 9223372036854775808 := by unfold in64 at hn; omega
    refine run_loop [(3, false), (4, false), (5, false)] (fun vs pos los => ∃ (U : Int) (r : List UInt8), 0 ≤ U ∧ U ≤ 9223372036854775808 ∧ Lib.decDigits U.toNat ++ r = Lib.decDigits n.natAbs ∧ vs = [int .u64 U, strv (bstr (if n < 0 then [45] else [])), strv (bstr r)] ∧ pos = [] ∧ los = [])
      (fun vs _ _ => match vs with | .r (.v (.int _ j)) :: _ => j.toNat | _ => 0) rfl ?_ ?_
    · simp only [h3, h4, push_cast, ↓reduceIte, reduceCtorEq, zB, zE, zA, zS, zL, zD, zM]
      exact ⟨n.natAbs, [], by omega, by omega, by simp, rfl⟩
    · rintro vs pos los ⟨U, r, U0, U1, hr, rfl, rfl, rfl⟩
      have hrl2 : r.length ≤ 19 := by
        have := congrArg List.length hr
        rw [List.length_append] at this
        have := dec_len (u := n.natAbs) (k := 19) (by omega) (by decide)
        omega
      have dig : ∀ D : Int, 0 ≤ D → D < 10 → ({ data := #[48, 49, 50, 51, 52, 53, 54, 55, 56, 57] } : ByteArray).extract D.toNat (D + 1).toNat = bstr [UInt8.ofNat (48 + D.toNat)] := fun D h0 h1 => by
        have := dig_at ⟨D.toNat, by omega⟩
        rw [show (D + 1).toNat = D.toNat + 1 by omega]
        exact this
      have hsg : (bstr (if n < 0 then [45] else [])).size ≤ 1 := by rw [bstr_size]; split <;> simp
      have sz : ({ data := #[48, 49, 50, 51, 52, 53, 54, 55, 56, 57] } : ByteArray).size = 10 := rfl
      simp only [push_cast, ↓reduceIte, reduceCtorEq, zB, zE, zA, zS, zL, zD, zM]
      refine cnd_mk (fun h => ?_) (fun h => ?_)
      · have h9 : 9 < U := by simpa using h
        obtain ⟨D, hD, D0, D1⟩ : ∃ D, U % 10 = D ∧ 0 ≤ D ∧ D < 10 := ⟨_, rfl, by omega, by omega⟩
        have e1 : U.tmod 10 = D := by rw [Int.tmod_eq_emod_of_nonneg (by omega), hD]
        have e2 : IntKind.i64.wrap D = D := wrap_id (by omega)
        have e3 : IntKind.i64.wrap (D + 1) = D + 1 := wrap_id (by omega)
        have e4 : IntKind.u64.wrap (U.tdiv 10) = U / 10 := by
          rw [Int.tdiv_eq_ediv_of_nonneg (by omega), IntKind.wrap_u64]; omega
        simp only [e1, e2, e3, e4, dig D D0 D1, bstr_app, bstr_size, sz, push_cast, ↓reduceIte, reduceCtorEq, zB, zE, zA, zS, zL, zD, zM]
        refine ⟨by omega, by omega, by omega, by omega, ⟨U / 10, _, by omega, by omega, ?_, rfl⟩, by omega⟩
        rw [← hr, Lib.decDigits.eq_1 U.toNat, dif_neg (by omega), show U.toNat / 10 = (U / 10).toNat by omega, show U.toNat % 10 = D.toNat by omega, List.append_assoc]
        rfl
      · have h9 : U < 10 := by have : ¬ (U > 9) := by simpa using h
                               omega
        have e2 : IntKind.i64.wrap U = U := wrap_id (by omega)
        have e3 : IntKind.i64.wrap (U + 1) = U + 1 := wrap_id (by omega)
        simp only [e2, e3, dig U U0 h9, sz, push_cast, ↓reduceIte, reduceCtorEq, zB, zE, zA, zS, zL, zD, zM]
        have hd : Lib.decDigits n.natAbs = UInt8.ofNat (48 + U.toNat) :: r := by rw [← hr, Lib.decDigits_one (by omega)]; rfl
        refine ⟨by omega, by rw [bstr_size [_]]; simp; omega, ?_, ?_⟩
        · rw [bstr_app, bstr_size, bstr_size]
          rw [bstr_size] at hsg
          simp
          omega
        · rw [bstr_app, bstr_app, txt_eq, List.append_assoc]
          refine congrArg (fun l => strv (bstr l)) ?_
          unfold Lib.itoa
          by_cases hn0 : n < 0
          · rw [if_pos hn0, if_pos hn0, hd]; rfl
          · rw [if_neg hn0, if_neg hn0, show n.toNat = n.natAbs by omega, hd]; rfl
  · simp only [push_cast, ↓reduceIte, reduceCtorEq, zB, zE, zA, zS, zL, zD, zM]
    have h : n < 0 := by simpa using h
    refine ⟨?_, ?_⟩
    · rw [IntKind.wrap_u64, IntKind.wrap_u64]; unfold in64 at hn; congr 3; omega
    · rw [if_pos h]; rfl
  · simp only [push_cast, ↓reduceIte, reduceCtorEq, zB, zE, zA, zS, zL, zD, zM]
    have h : ¬ n < 0 := by simpa using h
    refine ⟨?_, ?_⟩
    · rw [IntKind.wrap_u64]; unfold in64 at hn; congr 3; omega
    · rw [if_neg h]; rfl

open Go Go.RowKit
def opt (o : Option Int) : AV := match o with
 | some v => .tup [int .i64 v, bl true]
 | none => .tup [int .i64 0, bl false]
theorem rpd_no {neg : Bool} {d : List UInt8} (h : d.length = 0 ∨ 19 < d.length ∨ (isNought d = true ∧ (1 < d.length ∨ neg = true))) : rpd neg d = none := by
 unfold rpd; rw [if_pos h]
theorem rpd_bad {neg : Bool} {d : List UInt8} (h : d.all isDig = false) : rpd neg d = none := by
 unfold rpd
 rw [if_pos h]
 split <;> rfl
theorem rpd_yes {neg : Bool} {d : List UInt8} (h : ¬ (d.length = 0 ∨ 19 < d.length ∨ (isNought d = true ∧ (1 < d.length ∨ neg = true)))) (hd : d.all isDig = true) :
  rpd neg d = if neg = true then (if dval 0 d ≤ 9223372036854775808 then some (-(dval 0 d : Int)) else none) else (if dval 0 d < 9223372036854775808 then some (dval 0 d : Int) else none) := by
 unfold rpd; rw [if_neg h, if_neg (by rw [hd]; simp)]
theorem dval_19 {l : List UInt8} (h : l.all isDig = true) (hl : l.length ≤ 19) : dval 0 l < 10000000000000000000 := by
 have h2 : 10 ^ l.length ≤ 10 ^ 19 := zab (by decide) hl
 have h1 := dval_lt l 0 h
 rw [Nat.zero_add, Nat.one_mul] at h1
 exact Nat.lt_of_lt_of_le h1 h2
theorem dval_18 {l : List UInt8} (h : l.all isDig = true) (hl : l.length ≤ 18) : dval 0 l < 1000000000000000000 := by
 have h2 : 10 ^ l.length ≤ 10 ^ 18 := zab (by decide) hl
 have h1 := dval_lt l 0 h
 rw [Nat.zero_add, Nat.one_mul] at h1
 exact Nat.lt_of_lt_of_le h1 h2
theorem take_step {d : List UInt8} {i : Nat} (hi : i < d.length) : d.take (i + 1) = d.take i ++ [d.getD i 0] := by
 rw [List.take_succ_eq_append_getElem hi]
 simp [List.getD, hi]
theorem dval_step {d : List UInt8} {i : Nat} (hi : i < d.length) : dval 0 (d.take (i + 1)) = dval 0 (d.take i) * 10 + ((d.getD i 0).toNat - 48) := by
 rw [take_step hi, dval_app]; rfl
theorem all_step {d : List UInt8} {i : Nat} (hi : i < d.length) : (d.take (i + 1)).all isDig = ((d.take i).all isDig && isDig (d.getD i 0)) := by
 rw [take_step hi, List.all_append]; simp
theorem all_bad {d : List UInt8} {i : Nat} (hi : i < d.length) (h : isDig (d.getD i 0) = false) : d.all isDig = false := by
 rw [← List.take_append_drop (i + 1) d, List.all_append, all_step hi, h]; simp
theorem rparse_t (l : List UInt8) (hl : l.length ≤ 9223372036854775807) : Triple P0 66 [strv (bstr l)] [] (opt (rp l)) [] := by
  refine apiaryref1_Parse_triple rfl (by decide) ?_
  simp only [apiaryref1_Parse_pc, bstr_size, bstr_data, push_cast, ↓reduceIte, reduceCtorEq, zB, zE, zA, zS, zL, zD, zM]
  refine ⟨by simp only [decide_eq_true_eq]; omega, ?_⟩
  refine cnd_join (fun e ob => ∃ (neg : Bool) (d : List UInt8), e 4 = bl neg ∧ e 5 = strv (bstr d) ∧ rp l = rpd neg d ∧ d.length ≤ l.length ∧ ob = fun _ => none) ?_ (fun h => ?_) (fun h => ?_)
  · rintro e ob ⟨neg, d, h4, h5, hrp, hdl, rfl⟩
    rw [hrp]
    simp only [h4, h5, bstr_size, bstr_data, bstr_list, push_cast, ↓reduceIte, reduceCtorEq, zB, zE, zA, zS, zL, zD, zM]
    generalize hN : ((d.length : Nat) : Int) = N
    generalize hC : (((d.getD (Int.toNat 0) 0).toNat : Nat) : Int) = C
    generalize hB : (d == ({ data := #[] } : ByteArray).toList) = B
    have hB0 : B = true → d = [] := fun h => by
      rw [← hB, ByteArray.toList_eq] at h
      simpa using h
    have hB1 : B = false → 1 ≤ N := fun h => by
      cases d with
      | nil => rw [← hB, ByteArray.toList_eq] at h; cases h
      | cons c r => simp at hN; omega
    have hC48 : C = 48 → isNought d = true ∨ d = [] := fun h => by
      cases d with
      | nil => exact .inr rfl
      | cons c r =>
        left
        have : ((c.toNat : Nat) : Int) = 48 := by rw [← h, ← hC]; rfl
        simp only [isNought, decide_eq_true_eq]
        omega
    have hCn : C ≠ 48 → isNought d = false := fun h => by
      cases d with
      | nil => rfl
      | cons c r =>
        simp only [isNought, decide_eq_false_iff_not]
        intro h2
        apply h
        rw [← hC]
        show ((c.toNat : Nat) : Int) = 48
        omega
    have hN0 : 0 ≤ N := by omega
    repeat refine And.intro (by cases B <;> cases neg <;> by_cases c1 : N > 19 <;> by_cases c2 : C = 48 <;> by_cases c3 : N > 1 <;> simp [c1, c2, c3] <;> simp at hB1 <;> omega) ?_
    refine cnd_mk (fun h => ?_) (fun h => ?_)
    · simp only [push_cast, ↓reduceIte, reduceCtorEq, zB, zE, zA, zS, zL, zD, zM]
      have hr : d.length = 0 ∨ 19 < d.length ∨ (isNought d = true ∧ (1 < d.length ∨ neg = true)) := by
        cases B with
        | true => exact .inl (by rw [hB0 rfl]; rfl)
        | false =>
          by_cases c1 : N > 19
          · exact .inr (.inl (by omega))
          · by_cases c2 : C = 48
            · have hd : isNought d = true := (hC48 c2).resolve_right (fun e => by have := hB1 rfl; subst e; simp at hN; omega)
              by_cases c3 : N > 1
              · exact .inr (.inr ⟨hd, .inl (by omega)⟩)
              · cases neg with
                | true => exact .inr (.inr ⟨hd, .inr rfl⟩)
                | false => simp [c1, c2, c3] at h
            · simp [c1, c2] at h
      rw [rpd_no hr]; rfl
    · have hr : N ≤ 19 ∧ 1 ≤ N ∧ ¬ (d.length = 0 ∨ 19 < d.length ∨ (isNought d = true ∧ (1 < d.length ∨ neg = true))) := by
        cases B with
        | true => simp at h
        | false =>
          have N1 := hB1 rfl
          by_cases c1 : N > 19
          · simp [c1] at h
          · refine ⟨by omega, N1, ?_⟩
            rintro (h5 | h5 | ⟨h5, h6⟩)
            · omega
            · omega
            · by_cases c2 : C = 48
              · rcases h6 with h6 | h6
                · have c3 : N > 1 := by omega
                  simp [c1, c2, c3] at h
                · subst h6
                  simp [c1, c2] at h
              · rw [hCn c2] at h5; cases h5
      obtain ⟨N19, N1, hrr⟩ := hr
      clear h
      simp only [h4, h5, push_cast, ↓reduceIte, reduceCtorEq, zB, zE, zA, zS, zL, zD, zM]
      have hlt : ∀ i : Nat, i ≤ 19 → (d.take i).all isDig = true → dval 0 (d.take i) < 10000000000000000000 := fun i hi ha =>
        dval_19 ha (Nat.le_trans (List.length_take_le i d) hi)
      refine run_loop [(4, false), (5, false), (6, false), (7, false)] (fun vs pos los => ∃ (i U : Int), 0 ≤ i ∧ i ≤ N ∧ (d.take i.toNat).all isDig = true ∧ U = dval 0 (d.take i.toNat) ∧
        vs = [bl neg, strv (bstr d), int .u64 U, int .i64 i] ∧ pos = [] ∧ los = []) (fun vs _ _ => match vs with | [_, _, _, .r (.v (.int _ j))] => (N - j).toNat | _ => 0) rfl ?_ ?_
      · simp only [h4, h5, push_cast, ↓reduceIte, reduceCtorEq, zB, zE, zA, zS, zL, zD, zM]
        exact ⟨0, 0, by omega, by omega, by simp, by rw [show (0 : Int).toNat = 0 from rfl, List.take_zero]; rfl, rfl⟩
      · rintro vs pos los ⟨i, U, i0, iN, ha, hU, rfl, rfl, rfl⟩
        have hUl := hlt i.toNat (by omega) ha
        simp only [bstr_size, bstr_data, hN, push_cast, ↓reduceIte, reduceCtorEq, zB, zE, zA, zS, zL, zD, zM]
        refine cnd_mk (fun h => ?_) (fun h => ?_)
        · have hi : i < N := by simpa using h
          have hin : i.toNat < d.length := by omega
          have hs1 := dval_step hin
          have hU18 := dval_18 ha (Nat.le_trans (List.length_take_le _ d) (show i.toNat ≤ 18 by omega))
          have hs2 := all_step hin
          have hbad := all_bad hin
          have hCl := (d.getD i.toNat 0).toNat_lt
          have hdg : isDig (d.getD i.toNat 0) = decide (48 ≤ (d.getD i.toNat 0).toNat ∧ (d.getD i.toNat 0).toNat ≤ 57) := rfl
          simp only [bstr_size, bstr_data, hN, push_cast, ↓reduceIte, reduceCtorEq, zB, zE, zA, zS, zL, zD, zM]
          generalize hC' : (((d.getD i.toNat 0).toNat : Nat) : Int) = C'
          refine ⟨⟨i0, hi⟩, fun _ => ⟨i0, hi⟩, ?_⟩
          repeat refine And.intro (by simp +contextual) ?_
          refine cnd_mk (fun h2 => ?_) (fun h2 => ?_)
          · simp only [push_cast, ↓reduceIte, reduceCtorEq, zB, zE, zA, zS, zL, zD, zM]
            have : isDig (d.getD i.toNat 0) = false := by
              rw [hdg, decide_eq_false_iff_not]
              by_cases c1 : C' < 48
              · omega
              · by_cases c2 : C' > 57
                · omega
                · simp [c1, c2] at h2
            rw [rpd_bad (hbad this)]; rfl
          · have c1 : ¬ C' < 48 := fun c1 => by simp [c1] at h2
            have c2 : ¬ C' > 57 := fun c2 => by simp [c1, c2] at h2
            have w1 : IntKind.u64.wrap (10 * U) = (10 * U) % 18446744073709551616 := IntKind.wrap_u64 _
            have w2 : IntKind.u8.wrap (C' - 48) = C' - 48 := by rw [IntKind.wrap_u8]; omega
            have w3 : IntKind.u64.wrap (C' - 48) = C' - 48 := by rw [IntKind.wrap_u64]; omega
            have w4 : IntKind.i64.wrap (i + 1) = i + 1 := wrap_id (by omega)
            have hst : (i + 1).toNat = i.toNat + 1 := by omega
            have ha2 : (d.take (i.toNat + 1)).all isDig = true := by rw [hs2, ha, hdg, Bool.true_and, decide_eq_true_eq]; omega
            have hUl2 := hlt (i.toNat + 1) (by omega) ha2
            have w5 : IntKind.u64.wrap ((10 * U) % 18446744073709551616 + (C' - 48)) = dval 0 (d.take (i.toNat + 1)) := by rw [IntKind.wrap_u64, hs1]; omega
            generalize hV : ((dval 0 (d.take (i.toNat + 1)) : Nat) : Int) = V at w5
            simp only [bstr_size, bstr_data, hN, hC', w1, w2, w3, w4, w5, push_cast, ↓reduceIte, reduceCtorEq, zB, zE, zA, zS, zL, zD, zM]
            refine ⟨⟨i0, hi⟩, ⟨i + 1, V, by omega, by omega, by rw [hst]; exact ha2, by rw [hst, hV], rfl⟩, by omega⟩
        · have hi : i = N := by have : ¬ i < N := by simpa using h
                                omega
          have htk : d.take i.toNat = d := List.take_of_length_le (by omega)
          rw [htk] at ha hU hUl
          rw [rpd_yes hrr ha]
          simp only [push_cast, ↓reduceIte, reduceCtorEq, zB, zE, zA, zS, zL, zD, zM]
          cases neg with
          | true =>
            by_cases c1 : U ≤ 9223372036854775808
            · have g1 : decide (U ≤ 9223372036854775808) = true := by simp [c1]
              have w1 : IntKind.i64.wrap (IntKind.u64.wrap (0 - U)) = -U := by rw [IntKind.wrap_u64, IntKind.wrap_i64]; omega
              simp only [g1, w1, push_cast, ↓reduceIte, reduceCtorEq, zB, zE, zA, zS, zL, zD, zM]
              rw [if_pos (by omega), ← hU]; rfl
            · have g1 : decide (U ≤ 9223372036854775808) = false := by simp; omega
              simp only [g1, push_cast, ↓reduceIte, reduceCtorEq, zB, zE, zA, zS, zL, zD, zM]
              rw [if_neg (by omega)]; rfl
          | false =>
            by_cases c1 : U ≥ 9223372036854775808
            · have g1 : decide (U ≥ 9223372036854775808) = true := by simp; omega
              simp only [g1, push_cast, ↓reduceIte, reduceCtorEq, zB, zE, zA, zS, zL, zD, zM]
              rw [if_neg (by omega)]; rfl
            · have g1 : decide (U ≥ 9223372036854775808) = false := by simp; omega
              have w1 : IntKind.i64.wrap U = U := wrap_id (by omega)
              simp only [g1, w1, push_cast, ↓reduceIte, reduceCtorEq, zB, zE, zA, zS, zL, zD, zM]
              rw [if_pos (by omega), ← hU]; rfl
  · simp only [bstr_size, push_cast, ↓reduceIte, reduceCtorEq, zB, zE, zA, zS, zL, zD, zM]
    cases l with
    | nil => exact absurd h (by decide)
    | cons c r =>
      have hc : c.toNat = 45 := by
        have : (((c.toNat : Nat) : Int) == 45) = true := by simpa using h
        have := eq_of_beq this
        omega
      refine ⟨by simp at hl ⊢; omega, true, r, by rw [h], ?_, ?_, by simp⟩
      · rw [show (Int.toNat 1) = 1 from rfl, Int.toNat_natCast, bstr_sub _ _ _ (Nat.le_refl _), List.take_length]
        rfl
      · simp [rp, isNeg, hc]
  · simp only [push_cast, ↓reduceIte, reduceCtorEq, zB, zE, zA, zS, zL, zD, zM]
    cases l with
    | nil => exact ⟨false, [], by rw [h], rfl, rfl, by simp⟩
    | cons c r =>
      have hc : ¬ c.toNat = 45 := fun hc => by
        have : (((c.toNat : Nat) : Int) == 45) = false := by simpa using h
        have := ne_of_beq_false this
        omega
      exact ⟨false, c :: r, by rw [h], rfl, by simp [rp, isNeg, hc], by simp⟩

end Go.Ev

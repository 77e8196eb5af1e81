import Derived.Lib.ParseIntBTie
import Derived.Test.YtfdjfbodgiodbaaGreatDoorM8
open Nat renaming reduceBEq → zB, reduceEqDiff → zE, reduceAdd → zA, reduceSub → zS, reduceLT → zL, reduceLeDiff → zD, reduceMul → zM
open Go.Proofs.Tryz renaming prog → P0
open Bool renaming false_eq_true → zaa
namespace Go.Ev
set_option maxRecDepth 100000
open Go
set_option linter.unusedSectionVars false
set_option linter.unnecessarySimpa false
set_option linter.unusedSimpArgs false
set_option linter.unusedVariables false
def i64 (v : Int) : Prop := -9223372036854775808 ≤ v ∧ v ≤ 9223372036854775807
def isNeg : List UInt8 → Bool
 | c :: _ => decide (c.toNat = 45)
 | [] => false
def isNought : List UInt8 → Bool
 | c :: _ => decide (c.toNat = 48)
 | [] => false
def pv (l : List UInt8) : Option Int := match Lib.parseIntB 64 l with
 | .ok v => if Lib.itoa v = l then some v else none
 | _ => none
def rpd (neg : Bool) (d : List UInt8) : Option Int :=
 if d.length = 0 ∨ 19 < d.length ∨ (isNought d = true ∧ (1 < d.length ∨ neg = true)) then none
 else if d.all isDig = false then none
 else if neg = true then (if dval 0 d ≤ 9223372036854775808 then some (-(dval 0 d : Int)) else none)
 else (if dval 0 d < 9223372036854775808 then some (dval 0 d : Int) else none)
def rp (l : List UInt8) : Option Int := if isNeg l then rpd true l.tail else rpd false l
theorem u45 {c : UInt8} (h : c.toNat = 45) : c = 45 := UInt8.toNat_inj.1 h
theorem dec_first {u : Nat} {c : UInt8} {r : List UInt8} (h : Lib.decDigits u = c :: r) : 48 ≤ c.toNat ∧ c.toNat ≤ 57 := by
 have := dec_all u
 rw [h] at this
 simp only [List.all_cons, Bool.and_eq_true, isDig, decide_eq_true_eq] at this
 exact this.1
theorem dec_len {u k : Nat} (h : u < 10 ^ k) (hk : 1 ≤ k) : (Lib.decDigits u).length ≤ k := by
 rw [Lib.decDigits_length]
 rcases Nat.lt_or_ge k (Lib.nDigits u) with hlt | hge
 ·exfalso
  have h0 : u ≠ 0 := fun h0 => by
   subst h0
   rw [Lib.nDigits_small (by decide)] at hlt
   omega
  have hd := dec_val u
  have hh := dec_head u h0
  generalize hl : Lib.decDigits u = l at hd hh
  have hlen : l.length = Lib.nDigits u := by rw [← hl, Lib.decDigits_length]
  cases l with
  | nil => exact dec_ne u hl
  | cons c r =>
   have h1 := dec_first hl
   have h2 := hh c rfl
   have h3 := dval_le r (c.toNat - 48)
   have h4 : dval (c.toNat - 48) r = u := by
    have : dval (0 * 10 + (c.toNat - 48)) r = u := hd
    rwa [Nat.zero_mul, Nat.zero_add] at this
   have h5 : k ≤ r.length := by simp at hlen; omega
   have h6 : 10 ^ k ≤ 10 ^ r.length := Nat.pow_le_pow_right (by decide) h5
   have h7 : 1 * 10 ^ r.length ≤ (c.toNat - 48) * 10 ^ r.length := Nat.mul_le_mul_right _ (by omega)
   omega
 ·exact hge
theorem rpd_iff (neg : Bool) (d : List UInt8) (v : Int) : rpd neg d = some v ↔ i64 v ∧ (if neg then v < 0 ∧ Lib.decDigits v.natAbs = d else 0 ≤ v ∧ Lib.decDigits v.toNat = d) := by
 constructor
 ·intro h
  unfold rpd at h
  split at h
  ·cases h
  ·rename_i h1
   split at h
   ·cases h
   ·rename_i h2
    have hd : d.all isDig = true := by simpa using h2
    have hne : d ≠ [] := fun e => h1 (.inl (by simp [e]))
    have hh : ∀ c, d.head? = some c → c.toNat = 48 → d.length = 1 ∧ neg = false := fun c hc h48 => by
     have hn : isNought d = true := by
      cases d with
      | nil => cases hc
      | cons e d => cases hc; simp [isNought, h48]
     have hlen : 0 < d.length := by
      cases d with
      | nil => exact absurd rfl hne
      | cons => simp
     refine ⟨?_, ?_⟩
     ·rcases Nat.lt_or_ge 1 d.length with h5 | h5
      ·exact absurd (.inr (.inr ⟨hn, .inl h5⟩)) h1
      ·omega
     ·cases neg with
      | false => rfl
      | true => exact absurd (.inr (.inr ⟨hn, .inr rfl⟩)) h1
    have hdec := dec_of d hne hd (fun c hc h48 => (hh c hc h48).1)
    cases neg with
    | true =>
     simp only [if_true] at h ⊢
     split at h
     ·rename_i h3
      have hv := Option.some.inj h
      have hpos : dval 0 d ≠ 0 := fun h0 => by
       cases d with
       | nil => exact hne rfl
       | cons c r =>
        rw [h0] at hdec
        have : c = 48 := by
         have := congrArg List.head? hdec
         rw [Lib.decDigits_one (by decide)] at this
         exact (Option.some.inj this).symm
        have := (hh c rfl (by rw [this]; rfl)).2
        cases this
      subst hv
      refine ⟨by unfold i64; omega, by omega, ?_⟩
      rw [Int.natAbs_neg, Int.natAbs_natCast, hdec]
     ·cases h
    | false =>
     simp only [zaa, if_false] at h ⊢
     split at h
     ·rename_i h3
      have hv := Option.some.inj h
      subst hv
      refine ⟨by unfold i64; omega, by omega, ?_⟩
      rw [Int.toNat_natCast, hdec]
     ·cases h
 ·rintro ⟨hv, h⟩
  have key : ∀ u : Nat, u ≤ 9223372036854775808 → Lib.decDigits u = d → (neg = true → u ≠ 0) → d.all isDig = true ∧ dval 0 d = u ∧ ¬ (d.length = 0 ∨ 19 < d.length ∨ (isNought d = true ∧ (1 < d.length ∨ neg = true))) := fun u hu hud hn => by
   subst hud
   refine ⟨dec_all u, dec_val u, ?_⟩
   rintro (h1 | h1 | ⟨h1, h2⟩)
   ·exact dec_ne u (List.eq_nil_of_length_eq_zero h1)
   ·have := dec_len (u := u) (k := 19) (by omega) (by decide)
    omega
   ·by_cases h0 : u = 0
    ·subst h0
     rw [Lib.decDigits_one (by decide)] at h2
     rcases h2 with h2 | h2
     ·simp at h2
     ·exact hn h2 rfl
    ·have h3 := dec_head u h0
     generalize Lib.decDigits u = l at h1 h3
     cases l with
     | nil => simp [isNought] at h1
     | cons c r => exact h3 c rfl (by simpa [isNought] using h1)
  unfold i64 at hv
  unfold rpd
  cases neg with
  | true =>
   simp only [if_true] at h ⊢
   obtain ⟨k1, k2, k3⟩ := key v.natAbs (by omega) h.2 (fun _ => by omega)
   rw [if_neg (by simpa using k3), if_neg (by rw [k1]; simp), if_pos (by omega), k2]
   congr 1
   omega
  | false =>
   simp only [zaa, if_false] at h ⊢
   obtain ⟨k1, k2, k3⟩ := key v.toNat (by omega) h.2 (fun h => by cases h)
   rw [if_neg (by simpa using k3), if_neg (by rw [k1]; simp), if_pos (by omega), k2]
   congr 1
   omega
theorem rp_iff (l : List UInt8) (v : Int) : rp l = some v ↔ i64 v ∧ Lib.itoa v = l := by
 unfold rp
 cases l with
 | nil =>
  simp only [isNeg, zaa, if_false, rpd_iff]
  refine and_congr_right fun _ => ?_
  unfold Lib.itoa
  constructor
  ·rintro ⟨_, h⟩; exact absurd h (dec_ne _)
  ·intro h
   split at h
   ·cases h
   ·exact absurd h (dec_ne _)
 | cons c r =>
  by_cases hc : c.toNat = 45
  ·simp only [isNeg, hc, decide_true, if_true, List.tail_cons, rpd_iff]
   refine and_congr_right fun _ => ?_
   have := u45 hc
   subst this
   unfold Lib.itoa
   constructor
   ·rintro ⟨h1, h2⟩
    rw [if_pos h1, h2]
   ·intro h
    split at h
    ·rename_i h1
     simp at h
     exact ⟨h1, h⟩
    ·have := dec_first h
     exact absurd this.1 (by decide)
  ·simp only [isNeg, hc, decide_false, zaa, if_false, rpd_iff]
   refine and_congr_right fun _ => ?_
   unfold Lib.itoa
   constructor
   ·rintro ⟨h1, h2⟩
    rw [if_neg (by omega), h2]
   ·intro h
    split at h
    ·simp at h
     exact absurd (by rw [← h.1]; rfl) hc
    ·rename_i h1
     exact ⟨by omega, h⟩
theorem round_trip (v : Int) (hv : i64 v) : Lib.parseIntB 64 (Lib.itoa v) = .ok v := by
 unfold i64 at hv
 have key : ∀ u : Nat, u ≤ 9223372036854775808 → Lib.parseUintB 64 (Lib.decDigits u) = .ok u := fun u hu => by
  unfold Lib.parseUintB
  rw [if_neg (dec_ne u), parse_dig (by decide) _ _ (dec_all u) (by rw [dec_val]; omega), dec_val]
 unfold Lib.itoa
 by_cases h : v < 0
 ·rw [if_pos h]
  simp only [Lib.parseIntB, show ((45 : UInt8).toNat = 45) from rfl, or_true, if_true]
  rw [key _ (by omega)]
  simp only [not_true, false_and, if_false, true_and]
  rw [if_neg (by omega)]
  congr 1
  omega
 ·rw [if_neg h]
  have hd := key v.toNat (by omega)
  generalize hl : Lib.decDigits v.toNat = l at hd
  cases l with
  | nil => exact absurd hl (dec_ne _)
  | cons c r =>
   have h1 := dec_first hl
   simp only [Lib.parseIntB]
   rw [if_neg (by omega), hd]
   simp only []
   rw [if_neg (by omega), if_neg (by omega), if_neg (by omega)]
   congr 1
   omega
theorem pv_iff (l : List UInt8) (v : Int) : pv l = some v ↔ i64 v ∧ Lib.itoa v = l := by
 unfold pv
 constructor
 ·intro h
  split at h
  ·rename_i v' hp
   split at h
   ·rename_i hi
    cases h
    have := Lib.parseIntB_bounds (B := 64) hp
    exact ⟨by unfold i64; omega, hi⟩
   ·cases h
  ·cases h
 ·rintro ⟨hv, rfl⟩
  rw [round_trip v hv]
  simp
theorem pv_rp (l : List UInt8) : pv l = rp l := by
 cases h : rp l with
 | some v => exact (pv_iff l v).2 ((rp_iff l v).1 h)
 | none =>
  cases h2 : pv l with
  | none => rfl
  | some v => rw [(rp_iff l v).2 ((pv_iff l v).1 h2)] at h; cases h

open Go Go.RowKit
noncomputable def apiaryref1_Text_pc : PC :=
  (.seq (.reg [p_s 2 (.mov (.c (.r (.v (.string ⟨#[]⟩)))))])
 (.seq (.reg [p_m 8 0, p_s 9 (.conv .u64 (.t 8)), p_m 3 9])
 (.seq (.reg [p_s 4 (.mov (.c (.r (.v (.string ⟨#[]⟩)))))])
 (.seq (.seq (.reg [p_m 10 0, p_s 11 (.bin .lss (.t 10) (o_i 0))])
 (.cond (.t 11)
 (.seq (.reg [p_m 12 3, p_s 13 (.un .neg (.t 12)), p_m 3 13])
 (.reg [p_s 4 (.mov (.c (.r (.v (.string ⟨#[45]⟩)))))]))
 .skip))
 (.seq (.reg [p_s 5 (.mov (.c (.r (.v (.string ⟨#[]⟩)))))])
 (.seq (.block 0 (.loop (.seq (.seq (.reg [p_m 14 3, p_s 15 (.bin .gtr (.t 14) (.c (.r (.v (.int .u64 9)))))])
 (.cond (.t 15)
 .skip
 (.exit 0)))
 (.block 1 (.seq (.reg [p_m 16 3, p_s 17 (.bin .rem (.t 16) (.c (.r (.v (.int .u64 10))))), p_s 18 (.conv .i64 (.t 17)), p_m 6 18])
 (.seq (.reg [p_m 19 6, p_m 20 6, p_s 21 (.bin .add (.t 20) (o_i 1)), p_s 22 (.sls (.c (.r (.v (.string ⟨#[48, 49, 50, 51, 52, 53, 54, 55, 56, 57]⟩)))) (some (.t 19)) (some (.t 21))),
 p_m 23 5, p_s 24 (.bin .add (.t 22) (.t 23)), p_m 5 24])
 (.reg [p_m 25 3, p_s 26 (.bin .quo (.t 25) (.c (.r (.v (.int .u64 10))))), p_m 3 26])))))))
 (.seq (.reg [p_m 27 3, p_s 28 (.conv .i64 (.t 27)), p_m 7 28])
 (.seq (.reg [p_m 29 4, p_m 30 7, p_m 31 7, p_s 32 (.bin .add (.t 31) (o_i 1)), p_s 33 (.sls (.c (.r (.v (.string ⟨#[48, 49, 50, 51, 52, 53, 54, 55, 56, 57]⟩)))) (some (.t 30)) (some (.t 32))),
 p_s 34 (.bin .add (.t 29) (.t 33)), p_m 35 5, p_s 36 (.bin .add (.t 34) (.t 35)), p_m 2 36])
 .ret))))))))
theorem apiaryref1_Text_triple : Fun P0 12 1 [(2, false, none)] apiaryref1_Text_pc := fun_mk Go.Proofs.Tryz.func12 rfl (by decide) (by kernel_rfl) (by decide) rfl (by kernel_rfl) (by kernel_rfl) (by decide)
theorem dig_at : ∀ k : Fin 10, (bstr [48, 49, 50, 51, 52, 53, 54, 55, 56, 57]).extract k.val (k.val + 1) = bstr [UInt8.ofNat (48 + k.val)] := by decide +kernel
theorem txt_eq (n : Int) : txt n = bstr (Lib.itoa n) := rfl
theorem rtext_t (n : Int) (hn : in64 n) : Triple P0 12 [int .i64 n] [] (strv (txt n)) [] := by
  refine apiaryref1_Text_triple rfl (by decide) ?_
  simp only [apiaryref1_Text_pc, push_cast, ↓reduceIte, reduceCtorEq, zB, zE, zA, zS, zL, zD, zM]
  refine cnd_join (fun e ob => e 3 = int .u64 n.natAbs ∧ e 4 = strv (bstr (if n < 0 then [45] else [])) ∧ ob = fun _ => none) ?_ (fun h => ?_) (fun h => ?_)
  · rintro e ob ⟨h3, h4, rfl⟩
    simp only [h3, h4, push_cast, ↓reduceIte, reduceCtorEq, zB, zE, zA, zS, zL, zD, zM]
    have hu : n.natAbs ≤ 9223372036854775808 := by unfold in64 at hn; omega
    refine run_loop [(3, false), (4, false), (5, false)] (fun vs pos los => ∃ (U : Int) (r : List UInt8), 0 ≤ U ∧ U ≤ 9223372036854775808 ∧ Lib.decDigits U.toNat ++ r = Lib.decDigits n.natAbs ∧ vs = [int .u64 U, strv (bstr (if n < 0 then [45] else [])), strv (bstr r)] ∧ pos = [] ∧ los = [])
      (fun vs _ _ => match vs with | .r (.v (.int _ j)) :: _ => j.toNat | _ => 0) rfl ?_ ?_
    · simp only [h3, h4, push_cast, ↓reduceIte, reduceCtorEq, zB, zE, zA, zS, zL, zD, zM]
      exact ⟨n.natAbs, [], by omega, by omega, by simp, rfl⟩
    · rintro vs pos los ⟨U, r, U0, U1, hr, rfl, rfl, rfl⟩
      have hrl2 : r.length ≤ 19 := by
        have := congrArg List.length hr
        rw [List.length_append] at this
        have := dec_len (u := n.natAbs) (k := 19) (by omega) (by decide)
        omega
      have dig : ∀ D : Int, 0 ≤ D → D < 10 → ({ data := #[48, 49, 50, 51, 52, 53, 54, 55, 56, 57] } : ByteArray).extract D.toNat (D + 1).toNat = bstr [UInt8.ofNat (48 + D.toNat)] := fun D h0 h1 => by
        have := dig_at ⟨D.toNat, by omega⟩
        rw [show (D + 1).toNat = D.toNat + 1 by omega]
        exact this
      have hsg : (bstr (if n < 0 then [45] else [])).size ≤ 1 := by rw [bstr_size]; split <;> simp
      have sz : ({ data := #[48, 49, 50, 51, 52, 53, 54, 55, 56, 57] } : ByteArray).size = 10 := rfl
      simp only [push_cast, ↓reduceIte, reduceCtorEq, zB, zE, zA, zS, zL, zD, zM]
      refine cnd_mk (fun h => ?_) (fun h => ?_)
      · have h9 : 9 < U := by simpa using h
        obtain ⟨D, hD, D0, D1⟩ : ∃ D, U % 10 = D ∧ 0 ≤ D ∧ D < 10 := ⟨_, rfl, by omega, by omega⟩
        have e1 : U.tmod 10 = D := by rw [Int.tmod_eq_emod_of_nonneg (by omega), hD]
        have e2 : IntKind.i64.wrap D = D := wrap_id (by omega)
        have e3 : IntKind.i64.wrap (D + 1) = D + 1 := wrap_id (by omega)
        have e4 : IntKind.u64.wrap (U.tdiv 10) = U / 10 := by
          rw [Int.tdiv_eq_ediv_of_nonneg (by omega), IntKind.wrap_u64]; omega
        simp only [e1, e2, e3, e4, dig D D0 D1, bstr_app, bstr_size, sz, push_cast, ↓reduceIte, reduceCtorEq, zB, zE, zA, zS, zL, zD, zM]
        refine ⟨by omega, by omega, by omega, by omega, ⟨U / 10, _, by omega, by omega, ?_, rfl⟩, by omega⟩
        rw [← hr, Lib.decDigits.eq_1 U.toNat, dif_neg (by omega), show U.toNat / 10 = (U / 10).toNat by omega, show U.toNat % 10 = D.toNat by omega, List.append_assoc]
        rfl
      · have h9 : U < 10 := by have : ¬ (U > 9) := by simpa using h
                               omega
        have e2 : IntKind.i64.wrap U = U := wrap_id (by omega)
        have e3 : IntKind.i64.wrap (U + 1) = U + 1 := wrap_id (by omega)
        simp only [e2, e3, dig U U0 h9, sz, push_cast, ↓reduceIte, reduceCtorEq, zB, zE, zA, zS, zL, zD, zM]
        have hd : Lib.decDigits n.natAbs = UInt8.ofNat (48 + U.toNat) :: r := by rw [← hr, Lib.decDigits_one (by omega)]; rfl
        refine ⟨by omega, by rw [bstr_size [_]]; simp; omega, ?_, ?_⟩
        · rw [bstr_app, bstr_size, bstr_size]
          rw [bstr_size] at hsg
          simp
          omega
        · rw [bstr_app, bstr_app, txt_eq, List.append_assoc]
          refine congrArg (fun l => strv (bstr l)) ?_
          unfold Lib.itoa
          by_cases hn0 : n < 0
          · rw [if_pos hn0, if_pos hn0, hd]; rfl
          · rw [if_neg hn0, if_neg hn0, show n.toNat = n.natAbs by omega, hd]; rfl
  · simp only [push_cast, ↓reduceIte, reduceCtorEq, zB, zE, zA, zS, zL, zD, zM]
    have h : n < 0 := by simpa using h
    refine ⟨?_, ?_⟩
    · rw [IntKind.wrap_u64, IntKind.wrap_u64]; unfold in64 at hn; congr 3; omega
    · rw [if_pos h]; rfl
  · simp only [push_cast, ↓reduceIte, reduceCtorEq, zB, zE, zA, zS, zL, zD, zM]
    have h : ¬ n < 0 := by simpa using h
    refine ⟨?_, ?_⟩
    · rw [IntKind.wrap_u64]; unfold in64 at hn; congr 3; omega
    · rw [if_neg h]; rfl

open Go Go.RowKit
def opt (o : Option Int) : AV := match o with
 | some v => .tup [int .i64 v, bl true]
 | none => .tup [int .i64 0, bl false]

end Go.Ev

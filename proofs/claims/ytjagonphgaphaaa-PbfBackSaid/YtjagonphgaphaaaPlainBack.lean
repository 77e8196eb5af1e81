/- Plain facts: fields that were written one behind the other are read as they were. -/
import Derived.Test.YtjagonphgaphaaaPlainEnds
namespace Go.Proofs.Ytjagonphgaphaaa
open Go.RowKit
set_option linter.unusedVariables false

theorem readF_fuel : ∀ (f g : Nat) (l : List UInt8), l.length ≤ f → l.length ≤ g → readF f l = readF g l := by
  intro f
  induction f with
  | zero =>
    intro g l hf _
    have : l = [] := List.eq_nil_of_length_eq_zero (by omega)
    subst this
    rw [readF_nil, readF_nil]
  | succ f ih =>
    intro g l hf hg
    match l with
    | [] => rw [readF_nil, readF_nil]
    | c :: t =>
      match g with
      | 0 => simp at hg
      | g + 1 =>
        rw [readF, readF]
        rcases h : oneL (c :: t) with _ | ⟨x, k⟩
        · rfl
        · obtain ⟨h2, h3⟩ := oneL_bound h
          have hl : ((c :: t).drop k).length ≤ t.length - 1 := by rw [List.length_drop, List.length_cons]; omega
          have h4 : 0 < t.length := by rw [List.length_cons] at h3; omega
          simp only
          rw [List.length_cons] at hf hg
          rw [ih g _ (by omega) (by omega)]
theorem varsF_fuel : ∀ (f g : Nat) (l : List UInt8), l.length ≤ f → l.length ≤ g → varsF f l = varsF g l := by
  intro f
  induction f with
  | zero =>
    intro g l hf _
    have : l = [] := List.eq_nil_of_length_eq_zero (by omega)
    subst this
    rw [varsF_nil, varsF_nil]
  | succ f ih =>
    intro g l hf hg
    match l with
    | [] => rw [varsF_nil, varsF_nil]
    | c :: t =>
      match g with
      | 0 => simp at hg
      | g + 1 =>
        rw [varsF, varsF]
        split
        · rfl
        · rename_i h
          rw [List.length_cons] at hf hg
          have hl : ((c :: t).drop (take (c :: t)).2).length ≤ t.length := by rw [List.length_drop, List.length_cons]; omega
          rw [ih g _ (by omega) (by omega)]
theorem readL_cons {x : Fld} {c rest : List UInt8} (h : oneL (c ++ rest) = some (x, c.length)) : readL (c ++ rest) = (readL rest).map (x :: ·) := by
  obtain ⟨h2, h3⟩ := oneL_bound h
  obtain ⟨f', hf, e⟩ := readF_on (by rw [List.length_append] at h3 ⊢; omega) (Nat.le_refl _) h
  unfold readL
  rw [e, List.drop_left, readF_fuel f' rest.length rest (by rw [List.length_append] at hf; omega) (Nat.le_refl _)]
theorem varsL_cons (n : Nat) (rest : List UInt8) (h : n < 18446744073709551616) : varsL (varL n ++ rest) = (varsL rest).map (n :: ·) := by
  have hp := varL_pos n
  rw [varsL_take (by rw [List.length_append]; omega) (take_var n rest h) (by omega), List.drop_left]
  unfold varsL
  rw [varsF_fuel _ rest.length rest (by rw [List.length_append]; omega) (Nat.le_refl _)]
theorem varsL_flat (l : List Nat) (h : ∀ n ∈ l, n < 18446744073709551616) : varsL (l.flatMap varL) = some l := by
  induction l with
  | nil => rfl
  | cons n l ih =>
    rw [List.flatMap_cons, varsL_cons n _ (h n (by simp)), ih fun x hx => h x (by simp [hx])]
    rfl
theorem readL_chunks (cs : List (List UInt8 × Fld)) (h : ∀ c ∈ cs, ∀ rest, oneL (c.1 ++ rest) = some (c.2, c.1.length)) : readL (cs.flatMap (·.1)) = some (cs.map (·.2)) := by
  induction cs with
  | nil => rfl
  | cons c cs ih =>
    rw [List.flatMap_cons, readL_cons (h c (by simp) _), ih fun x hx => h x (by simp [hx])]
    rfl
theorem oneL_numL (t n : Nat) (rest : List UInt8) (h1 : 1 ≤ t) (h2 : t ≤ 1000) (hn : n < 18446744073709551616) :
    oneL ((varL (8 * t) ++ varL n) ++ rest) = some ((t, 0, n, []), (varL (8 * t) ++ varL n).length) := by
  have hp := varL_pos n
  rw [List.append_assoc, oneL_tag (8 * t) _ (by omega) (by omega) (by omega) n (varL n).length (take_var n rest hn), if_neg (by omega), if_pos (by omega), List.length_append]
  rw [show 8 * t / 8 = t from by omega]
theorem oneL_bytesL (t : Nat) (x rest : List UInt8) (h1 : 1 ≤ t) (h2 : t ≤ 1000) (hx : x.length < 1048576) :
    oneL (bytesL (t : Int) x ++ rest) = some ((t, 2, 0, x), (bytesL (t : Int) x).length) := by
  have hp := varL_pos x.length
  have e : (8 * (t : Int) + 2).toNat = 8 * t + 2 := by omega
  unfold bytesL
  rw [e, List.append_assoc, List.append_assoc, oneL_tag (8 * t + 2) _ (by omega) (by omega) (by omega) x.length (varL x.length).length (take_var _ _ (by omega)), if_neg (by omega), if_neg (by omega), if_pos ⟨by omega, by simp⟩]
  rw [List.drop_left, List.take_left, show (8 * t + 2) / 8 = t from by omega]
  simp
  omega

/-- The bytes and the field of a place: a number at even places, the numbers so far as bytes at odd ones. -/
def chunk (fs : List Int) (ls : List Nat) (k : Nat) : List UInt8 × Fld :=
  let t := (fs.getD k 0 % 512 + 1).toNat
  if k % 2 = 0 then (varL (8 * t) ++ varL (ls.getD k 0), (t, 0, ls.getD k 0, []))
  else (bytesL (t : Int) ((ls.take (k + 1)).flatMap varL), (t, 2, 0, (ls.take (k + 1)).flatMap varL))
def chunks (fs : List Int) (ls : List Nat) (k : Nat) : List (List UInt8 × Fld) := (List.range k).map (chunk fs ls)
def bytesB (fs : List Int) (ls : List Nat) (k : Nat) : List UInt8 := (chunks fs ls k).flatMap (·.1)
theorem bytesB_succ (fs : List Int) (ls : List Nat) (k : Nat) : bytesB fs ls (k + 1) = bytesB fs ls k ++ (chunk fs ls k).1 := by
  unfold bytesB chunks
  rw [List.range_succ, List.map_append, List.flatMap_append]
  simp
theorem chunk_even {fs : List Int} {ls : List Nat} {k : Nat} (h : k % 2 = 0) : chunk fs ls k = (varL (8 * (fs.getD k 0 % 512 + 1).toNat) ++ varL (ls.getD k 0), ((fs.getD k 0 % 512 + 1).toNat, 0, ls.getD k 0, [])) := by
  unfold chunk; rw [if_pos h]
theorem chunk_odd {fs : List Int} {ls : List Nat} {k : Nat} (h : ¬ k % 2 = 0) : chunk fs ls k = (bytesL ((fs.getD k 0 % 512 + 1).toNat : Int) ((ls.take (k + 1)).flatMap varL), ((fs.getD k 0 % 512 + 1).toNat, 2, 0, (ls.take (k + 1)).flatMap varL)) := by
  unfold chunk; rw [if_neg h]
theorem readL_back (fs : List Int) (ls : List Nat) (k : Nat) (hk : k ≤ 30) (hl : ∀ n ∈ ls, n < 18446744073709551616) : readL (bytesB fs ls k) = some ((chunks fs ls k).map (·.2)) := by
  refine readL_chunks _ fun c hc rest => ?_
  unfold chunks at hc
  obtain ⟨i, hi, rfl⟩ := List.mem_map.1 hc
  have hik := List.mem_range.1 hi
  have ht : 1 ≤ (fs.getD i 0 % 512 + 1).toNat ∧ (fs.getD i 0 % 512 + 1).toNat ≤ 1000 := by omega
  by_cases h : i % 2 = 0
  · rw [chunk_even h]
    refine oneL_numL _ _ _ ht.1 ht.2 ?_
    by_cases hil : i < ls.length
    · rw [List.getD_eq_getElem?_getD, List.getElem?_eq_getElem hil]
      exact hl _ (List.getElem_mem hil)
    · rw [List.getD_eq_getElem?_getD, List.getElem?_eq_none (by omega)]
      decide
  · rw [chunk_odd h]
    refine oneL_bytesL _ _ _ ht.1 ht.2 ?_
    have := flat_len (ls.take (i + 1))
    have h2 : (ls.take (i + 1)).length ≤ i + 1 := List.length_take_le _ _
    omega
theorem chunk_len (fs : List Int) (ls : List Nat) (k : Nat) (hk : k ≤ 30) : (chunk fs ls k).1.length ≤ 350 := by
  by_cases h : k % 2 = 0
  · rw [chunk_even h]
    have a := varL_len (8 * (fs.getD k 0 % 512 + 1).toNat)
    have b := varL_len (ls.getD k 0)
    simp only [List.length_append]
    omega
  · rw [chunk_odd h]
    have a := flat_len (ls.take (k + 1))
    have h2 : (ls.take (k + 1)).length ≤ k + 1 := List.length_take_le _ _
    have b := varL_len ((ls.take (k + 1)).flatMap varL).length
    have c := varL_len (8 * ((fs.getD k 0 % 512 + 1).toNat : Int) + 2).toNat
    simp only [bytesL, List.length_append]
    omega
theorem bytesB_len (fs : List Int) (ls : List Nat) (k : Nat) (hk : k ≤ 30) : (bytesB fs ls k).length ≤ 350 * k := by
  induction k with
  | zero => simp [bytesB, chunks]
  | succ k ih =>
    have := chunk_len fs ls k (by omega)
    rw [bytesB_succ, List.length_append]
    have := ih (by omega)
    omega
theorem chunks_get (fs : List Int) (ls : List Nat) (n k : Nat) (h : k < n) : ((chunks fs ls n).map (·.2))[k]'(by simp [chunks, h]) = (chunk fs ls k).2 := by
  simp [chunks]
theorem chunks_len (fs : List Int) (ls : List Nat) (n : Nat) : ((chunks fs ls n).map (·.2)).length = n := by simp [chunks]
end Go.Proofs.Ytjagonphgaphaaa

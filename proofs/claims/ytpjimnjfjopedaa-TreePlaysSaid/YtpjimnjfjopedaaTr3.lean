import Derived.Test.YtpjimnjfjopedaaTr2
namespace Go.Ev
open Go
set_option linter.unnecessarySimpa false
set_option linter.unusedSimpArgs false
set_option linter.unusedVariables false
def keys (l : List Ky) : RV := .sl 3 (l.map Ky.rv)
def Ky.cs (k : Ky) : List AV := [int .u64 k.c, int .i64 k.v, int .i64 k.d]
set_option maxRecDepth 100000 in
theorem find1_t (l : List Ky) (k q : Ky) (i : Nat) (hi : i < l.length) (hq : l[i]? = some q) (hl : l.length ≤ maxLen) : Triple Go.Proofs.Try.prog 32 [int .i64 i, .ptr 1000000 0 0, .ptr 1000001 0 0] [.box [.r (keys l)], .box k.cs]
    (bl (!kl q k)) [.box [.r (keys l)], .box k.cs] := by
  refine tree_find_1_triple rfl (by simp) ?_
  have hg : (l.map Ky.rv).getD ((i : Int)).toNat (.agg [.v (.int .u64 0), .v (.int .i64 0), .v (.int .i64 0)]) = .agg [.v (.int .u64 q.c), .v (.int .i64 q.v), .v (.int .i64 q.d)] := by
    simp [List.getD, hq, Ky.rv]
  simp only [tree_find_1_pc, keys, Ky.cs, List.length_nil, List.length_map, hg, push_cast, ↓reduceIte, reduceCtorEq, Nat.reduceBEq, Nat.reduceEqDiff, Nat.reduceAdd, Nat.reduceSub, Nat.reduceLT, Nat.reduceLeDiff, Nat.reduceMul]
  refine And.intro ⟨by omega, by omega⟩ ?_
  refine dcall_mk (less_t q k) rfl trivial ?_
  simp only [push_cast, ↓reduceIte, reduceCtorEq, Nat.reduceBEq, Nat.reduceEqDiff, Nat.reduceAdd, Nat.reduceSub, Nat.reduceLT, Nat.reduceLeDiff, Nat.reduceMul]
  kernel_rfl
/-- The place of a key. -/
structure Plc (l : List Ky) (k : Ky) (r : Nat) : Prop where
  le : r ≤ l.length
  lo : ∀ (i : Nat) (q : Ky), i < r → l[i]? = some q → kl q k = true
  hi : ∀ (i : Nat) (q : Ky), r ≤ i → l[i]? = some q → kl q k = false
set_option maxRecDepth 100000 in
theorem find_t (l : List Ky) (k : Ky) (r : Nat) (hp : Plc l k r) (hl : l.length ≤ maxLen) : Triple Go.Proofs.Try.prog 23 [.r (keys l), k.av] []
    (.tup [int .i64 r, bl (decide (l[r]? = some k))]) [] := by
  refine tree_find_triple rfl (by decide) ?_
  have hF : ∀ i : Nat, i < l.length → Triple Go.Proofs.Try.prog 32 [int .i64 i, .ptr 1000000 0 0, .ptr 1000001 0 0] [.box [.r (keys l)], .box k.cs] (bl ((fun i => match l[i]? with | some q => !kl q k | none => true) i)) [.box [.r (keys l)], .box k.cs] := fun i hi => by
    have hq : l[i]? = some l[i] := by simp [hi]
    simp only [hq]
    exact find1_t l k _ i hi hq hl
  have hS := search_t 32 [.r (keys l)] k.cs rfl rfl rfl (fun i => match l[i]? with | some q => !kl q k | none => true) l.length r hl hp.le (fun i hi => by
    have hq : l[i]? = some (l[i]'(by have := hp.le; omega)) := by simp [show i < l.length by have := hp.le; omega]
    simp only [hq, hp.lo i _ hi hq]; rfl) (fun i hi hn => by
    have hq : l[i]? = some l[i] := by simp [hn]
    simp only [hq, hp.hi i _ hi hq]; rfl) hF
  simp only [tree_find_pc, keys, Ky.av, Ky.rv, List.length_nil, List.length_map, push_cast, ↓reduceIte, reduceCtorEq, Nat.reduceBEq, Nat.reduceEqDiff, Nat.reduceAdd, Nat.reduceSub, Nat.reduceLT, Nat.reduceLeDiff, Nat.reduceMul]
  refine call_mk hS rfl ⟨rfl, rfl, trivial⟩ ?_
  obtain ⟨q, hqd⟩ : ∃ q : Ky, q = (l[r]?).getD ⟨0, 0, 0⟩ := ⟨_, rfl⟩
  have hg : (l.map Ky.rv).getD ((r : Int)).toNat (.agg [.v (.int .u64 0), .v (.int .i64 0), .v (.int .i64 0)]) = .agg [.v (.int .u64 q.c), .v (.int .i64 q.v), .v (.int .i64 q.d)] := by
    rw [hqd]
    rcases hr : l[r]? with _ | q0 <;> simp [List.getD, hr, Ky.rv]
  simp only [keys, Ky.cs, List.length_map, hg, push_cast, ↓reduceIte, reduceCtorEq, Nat.reduceBEq, Nat.reduceEqDiff, Nat.reduceAdd, Nat.reduceSub, Nat.reduceLT, Nat.reduceLeDiff, Nat.reduceMul]
  refine ⟨fun h => ⟨by omega, by simpa using h⟩, by kernel_rfl, ?_⟩
  congr 4
  rcases hr : l[r]? with _ | q0
  · have : ¬ r < l.length := fun h => by simp [h] at hr
    simp [this]
  · have h1 := (List.getElem?_eq_some_iff.1 hr).1
    have h2 : q = q0 := by rw [hqd, hr]; rfl
    subst h2
    simp [h1]
    cases q; cases k
    simp
    rfl
end Go.Ev

/- The readers' contracts, the length as a number of its own. -/
import Derived.Test.YtjagonphgaphaaaBytes
namespace Go.Proofs.Ytjagonphgaphaaa
open Go.RowKit
set_option linter.unusedVariables false

theorem vars_at {n : Nat} (A : Option Addr) (c : Nat) (bs : List UInt8) (w : World) (B : Nat) (hn : bs.length = n) (hB : B ≤ w.heap.size) (hr : Reads w B 1 A n (bs.map u8v)) (hc : n ≤ c) (hb : n ≤ 1048576) :
    Calls Try.prog 16 #[.slice A n c] w fun e w' => ∃ v, e = .returned (.tuple #[v, .int .i64 (errN (varsL bs))]) ∧
      w'.ownsRow B 22 1 v ((varsL bs).getD []).length (((varsL bs).getD []).map u64v) ∧ Below B w w' := by
  subst hn
  exact vars_any A c bs w B hB hr hc hb

theorem read_at {n : Nat} (A : Option Addr) (c : Nat) (bs : List UInt8) (w : World) (B : Nat) (hn : bs.length = n) (hB : B ≤ w.heap.size) (hr : Reads w B 1 A n (bs.map u8v)) (hc : n ≤ c) (hb : n ≤ 1048576) :
    Calls Try.prog 14 #[.slice A n c] w fun e w' => ∃ v xs, e = .returned (.tuple #[v, .int .i64 (errN (readL bs))]) ∧
      w'.ownsRow B 46 4 v ((readL bs).getD []).length xs ∧ FldsR w' B ((readL bs).getD []) xs ∧ Below B w w' := by
  subst hn
  exact read_any A c bs w B hB hr hc hb
theorem bytes_at {n m : Nat} (A : Option Addr) (c : Nat) (bs : List UInt8) (f : Int) (Ax : Option Addr) (cx : Nat) (x : List UInt8) (w : World) (hn : bs.length = n) (hm : x.length = m) (g0 : 1 ≤ f) (g1 : f ≤ 1000)
    (hr : Reads w w.heap.size 1 A n (bs.map u8v)) (hx : Reads w w.heap.size 1 Ax m (x.map u8v)) (hb : n + m ≤ 140737488355280) :
    Calls Try.prog 21 #[.slice A n c, .int .i64 f, .slice Ax m cx] w fun e w' => ∃ v, e = .returned v ∧
      w'.ownsRow w.heap.size 5 1 v (bs ++ bytesL f x).length ((bs ++ bytesL f x).map u8v) ∧ Below w.heap.size w w' := by
  subst hn hm
  exact bytes_yes A c bs f Ax cx x w g0 g1 hr hx hb
theorem var_at {m : Nat} (A : Option Addr) (c : Nat) (bs : List UInt8) (n : Int) (w : World) (hm : bs.length = m) (h0 : 0 ≤ n) (h1 : n < 18446744073709551616) (hr : Reads w w.heap.size 1 A m (bs.map u8v)) (hb : m ≤ 140737488355300) :
    Calls Try.prog 19 #[.slice A m c, .int .u64 n] w fun e w' => ∃ v, e = .returned v ∧
      w'.ownsRow w.heap.size 5 1 v (bs ++ varL n.toNat).length ((bs ++ varL n.toNat).map u8v) ∧ Below w.heap.size w w' := by
  subst hm
  exact var_any A c bs n w w.heap.size (Nat.le_refl _) h0 h1 hr hb
end Go.Proofs.Ytjagonphgaphaaa

import Derived.Lib.LaidTab
import Derived.Stop.LaidErr
import Derived.Lib.LaidU8T
import Derived.Test.YtfdjfbodgiodbaaGreatDoorRows
import Derived.Test.YtfdjfbodgiodbaaGreatDoorM14
open Go.Proofs.Tryz renaming prog → P0
open Option renaming isSome_none → zaa
open Bool renaming false_eq_true → zab
namespace Go.Ev
set_option maxRecDepth 100000
open Go
set_option linter.unusedSectionVars false
set_option linter.unnecessarySimpa false
set_option linter.unusedSimpArgs false
set_option linter.unusedVariables false
theorem starE : "*" ++ "errors.errorString" = "*errors.errorString" := by decide
theorem rowE (u : TypeId) (h : Go.Proofs.Tryz.prog.typeName? 3 u = some "*errors.errorString") : u = 239 :=
 typeName_ptr_named (nm := "errors.errorString") (by rw [starE]; kernel_rfl) (by kernel_rfl) (by decide) u (by rw [starE]; exact h)
def ru8 : Go.Shelf.Ren := ⟨id, fun t => if t = 5 then 5 else if t = 119 then 184 else if t = 138 then 186 else if t = 139 then 187 else t,
 fun g => if g = 3 then 0 else if g = 4 then 1 else g⟩
theorem u8types : Go.Proofs.U8Types P0 ru8 := ⟨by kernel_rfl, by kernel_rfl, by kernel_rfl, by kernel_rfl⟩
theorem u8extra : Go.Proofs.U8Extra P0 ru8 := ⟨by kernel_rfl, by kernel_rfl, by kernel_rfl, by kernel_rfl, by kernel_rfl, by kernel_rfl, by kernel_rfl⟩
theorem first_eq : Go.Proofs.YtfdjfbodgiodbaaGreatDoor.Rows.laid_unicode_utf8_first = Lib.firstData := by kernel_rfl
theorem accept_eq : (Go.Proofs.YtfdjfbodgiodbaaGreatDoor.Rows.laid_unicode_utf8_acceptRanges : DataW Unit) = Lib.acceptData := by kernel_rfl
theorem gcells_of {W : World} {b n : Nat} {v : Nat → Value} (h : ∀ i, i < n → W.cell? ⟨b, i, none⟩ = some (v i)) (hn : 0 < n) : ∃ cs e fr, W.heap[b]? = some (.cells cs e fr) ∧ ∀ i, i < n → cs[i]? = some (v i) := by
 have h0 := h 0 hn
 unfold World.cell? at h0
 simp only [zaa, zab, if_false] at h0
 split at h0
 ·rename_i cs e fr hc
  refine ⟨cs, e, fr, hc, fun i hi => ?_⟩
  have := h i hi
  unfold World.cell? at this
  simpa only [zaa, zab, if_false, hc] using this
 ·cases h0
theorem gl5 {W : World} (hL : laidMet P0 Go.Proofs.YtfdjfbodgiodbaaGreatDoor.Rows.askOrderRow.laid W) : Gl P0 W fun _ => False := by
 have h2 := hL.tail.tail
 have ht : Lib.TabIs P0 W "internal/strconv.uint64pow10" .u64 Lib.pow10Tab := Lib.tabIs_of_head (g := 2) (t := 226) (e := 36) (n := 20) glob_pow (by kernel_rfl) (by kernel_rfl) (by kernel_rfl) (by kernel_rfl) (by kernel_rfl) h2
 have h3 := h2.tail.tail
 obtain ⟨a1, s1, hv1, -, -, -⟩ := laid_sentinel h3 glob_rng (ti := 159) (by kernel_rfl) Go.Proofs.Tryz.underlying159 rowE Go.Proofs.Tryz.underlying239 Go.Proofs.Tryz.underlying241 rfl rfl Go.Proofs.Tryz.underlying9 (by kernel_rfl) (by kernel_rfl)
 obtain ⟨a2, s2, hv2, -, -, -⟩ := laid_sentinel h3.tail glob_syn (ti := 159) (by kernel_rfl) Go.Proofs.Tryz.underlying159 rowE Go.Proofs.Tryz.underlying239 Go.Proofs.Tryz.underlying241 rfl rfl Go.Proofs.Tryz.underlying9 (by kernel_rfl) (by kernel_rfl)
 have hu : Lib.Utf8Tabs 0 1 W := Go.Proofs.utf8Tabs_of_readsT u8types u8extra
  (by rw [← first_eq]; exact Lib.laidMet.reads hL (by simp [Go.Proofs.YtfdjfbodgiodbaaGreatDoor.Rows.askOrderRow])) (by rw [← accept_eq]; exact Lib.laidMet.reads hL (by simp [Go.Proofs.YtfdjfbodgiodbaaGreatDoor.Rows.askOrderRow]))
 have key : ∀ (name : String) (cs0 : Array Value) (g : Nat), W.var? P0 name = some cs0 → Go.Proofs.Tryz.prog.globalNamed name = some g → ∃ cs e fr, W.heap[g]? = some (.cells cs e fr) ∧ cs = cs0 := fun name cs0 g hv hg => by
  unfold World.var? at hv
  rw [hg] at hv
  simp only [Option.bind_some] at hv
  split at hv
  ·rename_i cs e fr hc
   exact ⟨cs, e, fr, hc, Option.some.inj hv⟩
  ·cases hv
 refine ⟨fun g hg => ⟨id, ?_⟩, fun _ g hg => ⟨id, ?_⟩, fun _ g hg => ⟨id, ?_⟩, fun _ g hg => ⟨id, ?_⟩, fun _ g hg => ⟨id, ?_⟩⟩
 ·obtain ⟨cs, e, fr, h1, h2⟩ := key _ _ g ht hg
  exact ⟨cs, e, fr, h1, by rw [h2]; simp [pow10s, Lib.pow10Tab]⟩
 ·obtain ⟨cs, e, fr, h1, h2⟩ := key _ _ g hv2 hg
  exact ⟨cs, e, fr, h1, _, _, h2⟩
 ·obtain ⟨cs, e, fr, h1, h2⟩ := key _ _ g hv1 hg
  exact ⟨cs, e, fr, h1, _, _, h2⟩
 ·obtain rfl : 0 = g := Option.some.inj ((show Go.Proofs.Tryz.prog.globalNamed "unicode/utf8.first" = some 0 by kernel_rfl).symm.trans hg)
  obtain ⟨cs, e, fr, h1, h2⟩ := gcells_of hu.1 (by decide)
  exact ⟨cs, e, fr, h1, fun i hi => h2 i hi⟩
 ·obtain rfl : 1 = g := Option.some.inj ((show Go.Proofs.Tryz.prog.globalNamed "unicode/utf8.acceptRanges" = some 1 by kernel_rfl).symm.trans hg)
  have h0 := (hu.2 0 (by decide)).1
  unfold World.cell? at h0
  simp only [zaa, zab, if_false] at h0
  split at h0
  ·rename_i cs e fr hc
   refine ⟨cs, e, fr, hc, fun i hi => ?_⟩
   have := hu.2 i hi
   unfold World.cell? at this
   simpa only [zaa, zab, if_false, hc] using this
  ·cases h0

end Go.Ev

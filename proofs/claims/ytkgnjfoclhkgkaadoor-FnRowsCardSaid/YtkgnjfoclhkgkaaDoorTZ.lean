/- The library's counts of bits: walked. -/
import Derived.Test.YtkgnjfoclhkgkaaDoorProg
import Derived.Below
import Derived.Deep.Draws
import Derived.Deep.AppendLies
import Derived.Maps.AppendAt
import Derived.OwnWalk
import Derived.Laws.BytesArg
import Derived.Laws.MakeOwn
import Derived.Laws.OwnMore
import Derived.Deep.OwnRows
import Derived.Tactics
import Derived.Lib.ConvBytes
import Derived.Laws.Slices
import Derived.WalkKit
import Derived.KernelRfl
import Derived.RowKit3
import Derived.Deep.LoopGhost
import Derived.Deep.QuietTactic
import Derived.BigQuiet
import Derived.WideLaws
import Derived.Deep.DeepCutAuto
import Derived.Deep.CutBlock
import Derived.Deep.RegionHeld3
import Derived.Laws.Rows
import Derived.Lib.AppendStr
import Derived.ArgAppend
import Derived.Laws.IdiomCopy
import Derived.OrdersHeld
import Derived.Laws.BitsLemmas
import Derived.RowKit
import Derived.Lib.Hide
import Derived.WalkSpells
import Derived.Test.YtkgnjfoclhkgkaaDoorWWords
import Derived.Test.YtkgnjfoclhkgkaaDoorWLast
import Derived.Test.YtkgnjfoclhkgkaaDoorWTab
import Derived.Test.YtkgnjfoclhkgkaaDoorWQPut
import Derived.Test.YtkgnjfoclhkgkaaDoorWApart
import Derived.Test.YtkgnjfoclhkgkaaDoorWArr
import Derived.Test.YtkgnjfoclhkgkaaDoorWZeros
import Derived.Test.YtkgnjfoclhkgkaaDoorWFoot
import Derived.Test.YtkgnjfoclhkgkaaDoorWKept
import Derived.Test.YtkgnjfoclhkgkaaDoorWShare
import Derived.Test.YtkgnjfoclhkgkaaDoorWN
import Derived.Test.YtkgnjfoclhkgkaaDoorWNEv
import Derived.Test.YtkgnjfoclhkgkaaDoorWMore
import Derived.Test.YtkgnjfoclhkgkaaDoorN1
import Derived.Lib.SmallJoins
import Derived.Lib.TrailingZeros
import Derived.Lib.LaidTab
namespace Go.Proofs.YtkgnjfoclhkgkaaDoor.Given
open Go.RowKit Go.Proofs.YtkgnjfoclhkgkaaDoorW.PrintWords Go.Proofs.YtkgnjfoclhkgkaaDoorW.PrintLast Go.Proofs.YtkgnjfoclhkgkaaDoorW.PrintMore Go.Proofs.YtkgnjfoclhkgkaaDoor.NimF Go.Proofs.YtkgnjfoclhkgkaaDoor.NimGo
set_option linter.unusedVariables false
set_option linter.unusedSimpArgs false
def dbTab : List Int := Lib.deBruijn32tab.map fun (n : Nat) => (n : Int)
def RT (w : World) : Prop := Lib.TabIs Tryd.prog w "math/bits.deBruijn32tab" .u8 dbTab
theorem RT.on {w w' : World} (h : RT w) (hb : Below w.heap.size w w') : RT w' := Go.Joins.tab_stays (show Tryd.prog.globalNamed "math/bits.deBruijn32tab" = some 0 by kernel_rfl) h hb (Nat.le_refl _)
theorem db_len : dbTab.length = 32 := by decide +kernel
theorem db_at : ∀ i, i < 32 → dbTab.getD i 0 = ((Lib.deBruijn32tab.getD i 0 : Nat) : Int) := by decide +kernel
theorem and_nat32 {a b : Nat} (ha : a < 2 ^ 32) (hb : b < 2 ^ 32) : Go.bits .and .u32 (a : Int) b = ((a &&& b : Nat) : Int) :=
  (bits_nat .u32 32 (by decide) wraps_u32 a b ha hb).1
theorem RT.drewN {w : World} (h : RT w) (n : Nat) : RT (w.drewN n) := h
theorem RT.drew {w : World} (h : RT w) : RT w.drew := h
def bits_TrailingZeros32.f (a0 : Int) : Option Int := if 0 ≤ a0 ∧ a0 < 4294967296 then (if a0 = 0 then some 32 else some (Lib.ctz 32 a0.toNat : Int)) else none
set_option maxHeartbeats 1000000 in
set_option maxRecDepth 100000 in
theorem bits_TrailingZeros32.calls (a0 : Int) (r : Int) (w : World) (hT : RT w) (h : bits_TrailingZeros32.f a0 = some r) :
    Calls Tryd.prog 56 #[.int .u32 a0] w fun e w' => e = .returned (.int .i64 r) ∧ Drawn0 w w' := by
  unfold bits_TrailingZeros32.f at h
  by_cases hc : 0 ≤ a0 ∧ a0 < 4294967296
  case neg => rw [if_neg hc] at h; cases h
  rw [if_pos hc] at h
  obtain ⟨h0, h1⟩ := hc
  by_cases hz : a0 = 0
  · subst hz
    obtain rfl : (32 : Int) = r := by simpa using h
    go_enter Tryd.func56, Tryd.ntmps56
    go_wp2
    go_ret
    exact ⟨rfl, Drawn0.refl _⟩
  · rw [if_neg hz] at h
    obtain rfl : (Lib.ctz 32 a0.toNat : Int) = r := by simpa using h
    obtain ⟨x, hx⟩ : ∃ x : Nat, a0 = x := ⟨a0.toNat, by omega⟩
    have hl := Lib.lowest_bit 32 x (by omega) (by omega)
    obtain ⟨k, hk⟩ : ∃ k : Nat, Lib.ctz 32 x = k := ⟨_, rfl⟩
    rw [hk] at hl
    have hk32 := hl.2
    have hb : bits BinOp.and IntKind.u32 a0 (-a0 % 4294967296) = ((2 ^ k : Nat) : Int) := by
      rw [← hl.1, show (-a0 % 4294967296) = ((2 ^ 32 - x : Nat) : Int) by omega, hx]
      rw [and_nat32 (by omega) (by omega)]
    have hd := Lib.deBruijn32_at k hk32
    obtain ⟨ix, hix⟩ : ∃ ix : Nat, 2 ^ k * 125613361 % 4294967296 / 134217728 = ix := ⟨_, rfl⟩
    rw [hix] at hd
    have hcast : ((2 ^ k : Nat) : Int) * 125613361 % 4294967296 / 134217728 = (ix : Int) := by
      rw [← hix, Int.natCast_ediv, Int.natCast_emod, Int.natCast_mul]
      rfl
    have hcell0 : w.cell? ⟨0, ix, none⟩ = some (.int .u8 (k : Int)) := by
      rw [Lib.TabIs.cell hT (show Tryd.prog.globalNamed "math/bits.deBruijn32tab" = some 0 by kernel_rfl) ix (by rw [db_len]; exact hd.1)]
      rw [db_at ix hd.1, hd.2]
    have hcell : w.cell? ⟨0, (bits BinOp.and IntKind.u32 a0 (-a0 % 4294967296) * 125613361 % 4294967296 / 134217728).toNat, none⟩ = some (.int .u8 (k : Int)) := by
      rw [hb, hcast, Int.toNat_natCast]
      exact hcell0
    clear hcast hcell0 hix
    have hi : 0 ≤ (bits BinOp.and IntKind.u32 a0 (-a0 % 4294967296) * 125613361 % 4294967296 / 134217728) ∧ (bits BinOp.and IntKind.u32 a0 (-a0 % 4294967296) * 125613361 % 4294967296 / 134217728) < 32 := by omega
    rw [show a0.toNat = x by omega, hk]
    obtain ⟨hi0, hi1⟩ := hi
    have hk9 : (k : Int) < 32 := by omega
    clear hd hb hl hk hx h hT hk32
    have hz0 : (a0 == 0) = false := beq_false_of_ne hz
    go_enter Tryd.func56, Tryd.ntmps56
    go_wp2
    go_ret
    exact ⟨rfl, Drawn0.refl _⟩
end Go.Proofs.YtkgnjfoclhkgkaaDoor.Given

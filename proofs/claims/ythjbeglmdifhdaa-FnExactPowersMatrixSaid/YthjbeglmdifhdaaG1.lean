/- The products of nimbers, of the program and of the reference, as contracts: both are the plain product. -/
import Derived.Test.YthjbeglmdifhdaaG0
import Derived.Test.YthjbeglmdifhdaaGE
namespace Go.Proofs.Ythjbeglmdifhdaa.Given
open Go.RowKit Go.Proofs.YthjbeglmdifhdaaW.PrintWords Go.Proofs.YthjbeglmdifhdaaW.PrintLast Go.Proofs.YthjbeglmdifhdaaW.PrintMore Go.Proofs.Ythjbeglmdifhdaa.NimF Go.Proofs.Ythjbeglmdifhdaa.NimGo
theorem shl_ge {k : IntKind} (hk : k.signed = false) (x y : Int) : 0 ≤ shl k x y := by
  unfold shl IntKind.wrap
  simp only [hk]
  exact Int.emod_nonneg _ (by have := Int.pow_pos (n := (2 : Int)) (m := k.bits) (by omega); omega)
/-- the product of two numbers of 16 bits -/
def nimTimes (a b : Int) : Option Int := if a.toNat < 65536 ∧ b.toNat < 65536 ∧ a = (a.toNat : Int) ∧ b = (b.toNat : Int) then some ((nm 4 a.toNat b.toNat : Nat) : Int) else none
def spec_l01Times.f (a0 : Int) (a1 : Int) : Option (Int) := nimTimes a0 a1
def impl_times.f (a0 : Int) (a1 : Int) : Option (Int) := nimTimes a0 a1
theorem nimTimes_inv {a b r : Int} (h : nimTimes a b = some r) : 0 ≤ a ∧ a < 65536 ∧ 0 ≤ b ∧ b < 65536 ∧ r = ((nm 4 a.toNat b.toNat : Nat) : Int) := by
  unfold nimTimes at h
  by_cases c : a.toNat < 65536 ∧ b.toNat < 65536 ∧ a = (a.toNat : Int) ∧ b = (b.toNat : Int)
  · rw [if_pos c] at h
    exact ⟨by omega, by omega, by omega, by omega, (Option.some.inj h).symm⟩
  · rw [if_neg c] at h; exact absurd h (by simp)
theorem nimTimes_nat {a b : Nat} (ha : a < 65536) (hb : b < 65536) : nimTimes (a : Int) (b : Int) = some ((nm 4 a b : Nat) : Int) := by
  unfold nimTimes
  rw [Int.toNat_natCast, Int.toNat_natCast, if_pos ⟨ha, hb, rfl, rfl⟩]
theorem spec_l01Times.calls (a0 : Int) (a1 : Int) (r : Int) (w : World) (h : spec_l01Times.f a0 a1 = some r) :
    Calls Try.prog 39 #[.int .u16 a0, .int .u16 a1] w fun e w' => e = .returned (.int .u16 r) ∧ Drawn0 w w' := by
  obtain ⟨h0, h1, h2, h3, rfl⟩ := nimTimes_inv h
  exact l01_all 4 (by omega) 4 (by omega) a0 a1 h0 h1 h2 h3 w
theorem impl_times.calls (a0 : Int) (a1 : Int) (r : Int) (w : World) (h : impl_times.f a0 a1 = some r) :
    Calls Try.prog 46 #[.int .u16 a0, .int .u16 a1] w fun e w' => e = .returned (.int .u16 r) ∧ Drawn0 w w' := by
  obtain ⟨h0, h1, h2, h3, rfl⟩ := nimTimes_inv h
  obtain ⟨a, rfl⟩ := Int.eq_ofNat_of_zero_le h0
  obtain ⟨b, rfl⟩ := Int.eq_ofNat_of_zero_le h2
  obtain ⟨k, hk⟩ := Ev.rounds (TimesEv.times_ev (a := a) (b := b) (by omega) (by omega))
  rw [Int.toNat_natCast, Int.toNat_natCast]
  exact RTimes.impl_times.calls k _ _ _ w hk

end Go.Proofs.Ythjbeglmdifhdaa.Given

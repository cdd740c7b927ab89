/- Walks of functions that the print does not take. -/
import Derived.Test.YtkmpdnnifohifaaProg
import Derived.Below
import Derived.Deep.Draws
import Derived.Deep.AppendLies
import Derived.Maps.AppendAt
import Derived.OwnWalk
import Derived.Laws.BytesArg
import Derived.Laws.MakeOwn
import Derived.Laws.OwnMore
import Derived.Deep.OwnRows
import Derived.Tactics
import Derived.Lib.ConvBytes
import Derived.Laws.Slices
import Derived.WalkKit
import Derived.KernelRfl
import Derived.RowKit3
import Derived.Deep.LoopGhost
import Derived.Deep.QuietTactic
import Derived.BigQuiet
import Derived.WideLaws
import Derived.Deep.DeepCutAuto
import Derived.Deep.CutBlock
import Derived.Deep.RegionHeld3
import Derived.Laws.Rows
import Derived.Lib.AppendStr
import Derived.ArgAppend
import Derived.Laws.IdiomCopy
import Derived.OrdersHeld
import Derived.Laws.BitsLemmas
import Derived.RowKit
import Derived.Lib.Hide
import Derived.WalkSpells
import Derived.Test.YtkmpdnnifohifaaWWords
import Derived.Test.YtkmpdnnifohifaaWLast
import Derived.Test.YtkmpdnnifohifaaWTab
import Derived.Test.YtkmpdnnifohifaaWFour
import Derived.Test.YtkmpdnnifohifaaWQPut
import Derived.Test.YtkmpdnnifohifaaWApart
import Derived.Test.YtkmpdnnifohifaaWArr
import Derived.Test.YtkmpdnnifohifaaWZeros
import Derived.Test.YtkmpdnnifohifaaWFoot
import Derived.Test.YtkmpdnnifohifaaWKept
import Derived.Test.YtkmpdnnifohifaaWShare
import Derived.Test.YtkmpdnnifohifaaWN
import Derived.Test.YtkmpdnnifohifaaWFootNe
import Derived.Test.YtkmpdnnifohifaaWAt
import Derived.Test.YtkmpdnnifohifaaWEqStruct
import Derived.Test.YtkmpdnnifohifaaWRepsOne
import Derived.Test.YtkmpdnnifohifaaWInv
import Derived.Test.YtkmpdnnifohifaaWInvWords
import Derived.Test.YtkmpdnnifohifaaWGuard
import Derived.Test.YtkmpdnnifohifaaWNEv
import Derived.Test.YtkmpdnnifohifaaWMore
import Derived.Test.YtkmpdnnifohifaaN1
import Derived.Test.YtkmpdnnifohifaaC1
import Derived.Test.YtkmpdnnifohifaaG2
import Derived.Test.YtkmpdnnifohifaaCA
namespace Go.Proofs.Ytkmpdnnifohifaa.Given
open Go.RowKit Go.Proofs.YtkmpdnnifohifaaW.PrintWords Go.Proofs.YtkmpdnnifohifaaW.PrintLast Go.Proofs.YtkmpdnnifohifaaW.PrintMore Go.Proofs.Ytkmpdnnifohifaa.NimF Go.Proofs.Ytkmpdnnifohifaa.NimGo
set_option linter.unusedVariables false
set_option linter.unusedSimpArgs false
/-- the longer of two lengths -/
def mxN (a b : Nat) : Nat := if a < b then b else a
/-- a list, zeros behind it up to a length -/
def padL (l : List Int) (n : Nat) : List Int := l ++ List.replicate (n - l.length) 0
/-- the first n numbers of l1 laid onto x -/
def xorN (x l1 : List Int) : Nat → List Int
  | 0 => x
  | n + 1 => (xorN x l1 n).set n (Go.bits .xor .u16 (rd (xorN x l1 n) (n : Int)) (rd l1 (n : Int)))
theorem xorN_succ (x l1 : List Int) (n : Nat) : xorN x l1 (n + 1) = (xorN x l1 n).set n (Go.bits .xor .u16 (rd (xorN x l1 n) (n : Int)) (rd l1 (n : Int))) := rfl
theorem xorN_length (x l1 : List Int) (n : Nat) : (xorN x l1 n).length = x.length := by
  induction n with
  | zero => rfl
  | succ n ih => rw [xorN_succ, List.length_set, ih]
def plusR (l0 l1 : List Int) : List Int := xorN (padL l0 (mxN l0.length l1.length)) l1 l1.length
theorem padL_length (l : List Int) (n : Nat) (h : l.length ≤ n) : (padL l n).length = n := by
  unfold padL; rw [List.length_append, List.length_replicate]; omega
theorem mxN_le (a b : Nat) : a ≤ mxN a b ∧ b ≤ mxN a b := by unfold mxN; split <;> omega
theorem mx_cast (a b : Nat) : mx (a : Int) (b : Int) = (mxN a b : Int) := by
  unfold mx mxN
  by_cases h : a < b
  · rw [if_pos h, if_pos (by omega)]
  · rw [if_neg h, if_neg (by omega)]
theorem infoS36 : (Try.prog.info? 36).map (·.size) = some 1 := by kernel_rfl
set_option maxHeartbeats 2000000 in
set_option maxRecDepth 100000 in
theorem plus_calls (A0 : Option Addr) (c0 : Nat) (l0 : List Int) (A1 : Option Addr) (c1 : Nat) (l1 r : List Int) (w : World) (hr0 : Kd.C (Kd.int .u16) w A0 l0.length l0) (hr1 : Kd.C (Kd.int .u16) w A1 l1.length l1) (hl0 : l0.length ≤ 1048576) (hl1 : l1.length ≤ 1048576) (hh : cloneL (trimL (plusR l0 l1)) = some r) :
    Calls Try.prog 52 #[.slice A0 l0.length c0, .slice A1 l1.length c1] w fun e w' => ∃ v0_ : Value, e = .returned (v0_) ∧ Kd.R (Kd.int .u16) 36 w' w.heap.size (fun _ => True) v0_ r ∧ Below w.heap.size w w' := by
  have HR0 := Lib.hid hr0
  have HR1 := Lib.hid hr1
  have HH := Lib.hid hh
  obtain ⟨M, hM⟩ : ∃ M : Nat, mxN l0.length l1.length = M := ⟨_, rfl⟩
  have hm3 : (if l0.length < l1.length then (l1.length : Int) else (l0.length : Int)) = (M : Int) := by rw [← hM]; unfold mxN; split <;> rfl
  have g0 : l0.length ≤ M := by rw [← hM]; exact (mxN_le _ _).1
  have g1 : l1.length ≤ M := by rw [← hM]; exact (mxN_le _ _).2
  have gM : M ≤ 1048576 := by rw [← hM]; unfold mxN; split <;> omega
  have GS := Lib.hid (And.intro g0 (And.intro g1 gM))
  have HP : Hid (plusR l0 l1 = xorN (padL l0 M) l1 l1.length) := Lib.hid (by unfold plusR; rw [hM])
  have HB0 : Hid (Below w.heap.size w w) := Lib.hid (Below.refl _ _)
  have HL : Hid (l0.length ≤ 1048576 ∧ l1.length ≤ 1048576) := Lib.hid ⟨hl0, hl1⟩
  clear hr0 hr1 hh g0 g1 gM hM hl0 hl1
  go_enter Try.func52, Try.ntmps52
  go_wp2_with (first
    | ((with_reducible refine gate_dst (N := 13) rfl ?_); refine Kd.R_make (Kd.int .u16) (w0 := w) w.heap.size 36 rfl (N := 13) rfl 23 _ _ rfl (M : Int) rfl rfl Try.underlying23 (.int .u16 0) 2 infoG36 rfl (by decide) (by omega) 0 (ok := fun _ => True) (okp := fun _ => True) rfl (fun _ hk => hk) trivial (by omega) (by have := GS.out; rw [Int.toNat_natCast]; omega) HB0.out (Nat.le_refl _) ?_; intro v1 w1 ho hb _ _; rw [Int.toNat_natCast] at ho; obtain ⟨Ao, co, eo⟩ := Kd.R_slice ho; rw [List.length_replicate] at eo; subst eo; have HO := Lib.hid ho; have HB := Lib.hid hb; clear ho hb HB0)
    | ((with_reducible refine gate_builtin (b := .copy) (xs := #[.tmp 14, .tmp 15]) rfl ?_); refine Kd.R_copy (enc := Value.int .u16) (h1 := fun _ => rfl) 0 (w0 := w) w.heap.size rfl (.tmp 14) (.tmp 15) 23 24 36 rfl Try.underlying23 infoS36 (.slice Ao M co) (List.replicate M 0) l0 A0 l0.length c0 (fun _ => True) rfl rfl HO.out (Kd.C_below HR0.out HB.out) HB.out (Below.size HB.out) ?_; intro w2 ho2 hb2 _; have HO2 : Hid (Kd.R (Kd.int .u16) 36 w2 w.heap.size (fun _ => True) (.slice Ao M co) (padL l0 M)) := Lib.hid (by rw [show l0.take (min l0.length (List.replicate M (0 : Int)).length) ++ (List.replicate M (0 : Int)).drop (min l0.length (List.replicate M (0 : Int)).length) = padL l0 M by have := GS.out; unfold padL; rw [List.length_replicate, Nat.min_eq_left (by omega), List.take_length, List.drop_replicate]] at ho2; exact ho2); have HB2 := Lib.hid hb2; clear ho2 hb2 HO HB))
  go_loopg [19] l1.length (fun gg v19 wr => ∃ n : Nat, Hid (n ≤ l1.length) ∧ Hid (l1.length - n ≤ gg) ∧ v19 = .int .i64 (n : Int) ∧ Hid (Kd.R (Kd.int .u16) 36 wr w.heap.size (fun _ => True) (.slice Ao M co) (xorN (padL l0 M) l1 n)) ∧ Hid (Below w.heap.size w wr))
  case atStart => exact ⟨0, Lib.hid (Nat.zero_le _), Lib.hid (Nat.sub_le _ _), rfl, HO2, HB2⟩
  case round =>
    obtain ⟨n, hn, hg, rfl, HO, HB⟩ := hrel
    clear HO2 HB2
    by_cases hlt : n < l1.length
    · obtain ⟨ad, e, hx⟩ := Kd.at_int HR1.out (n : Int) (by omega) (by omega)
      subst e
      replace hx := (HB.out.cell (World.block_lt_of_cell? w _ hx)).trans hx
      rw [Int.toNat_natCast] at hx
      have hb0 : decide ((n : Int) < (l1.length : Int)) = true := decide_eq_true (by omega)
      have hb1 : (n : Int) < (l1.length : Int) := by omega
      have hi0 : (0 : Int) ≤ (n : Int) := by omega
      have hM1 : (n : Int) < (M : Int) := by have := GS.out; omega
      have hnb : n < 9223372036854775807 := by have := HL.out; omega
      have hlen : (xorN (padL l0 M) l1 n).length = M := by rw [xorN_length, padL_length _ _ GS.out.1]
      have TS : Hid (xorN (padL l0 M) l1 (n + 1) = (xorN (padL l0 M) l1 n).set n (Go.bits .xor .u16 (rd (xorN (padL l0 M) l1 n) (n : Int)) (rd l1 (n : Int)))) := Lib.hid (xorN_succ _ _ _)
      obtain ⟨go, cg, eo, gb, gl, cl, HG⟩ := Kd.R_form HO.out (by rw [hlen]; omega)
      injection eo with ea en ec
      subst ea ec
      clear en
      have GB := Lib.hid gb
      have GG := Lib.hid HG
      clear gb gl HG
      obtain ⟨hc, hf⟩ := Kd.R_celln 0 HO.out (n : Int) hi0 (by omega)
      rw [Int.toNat_natCast] at hc hf
      have HPut := Lib.hid (Kd.R_putg HO.out (n : Int) (Go.bits .xor .u16 (rd (xorN (padL l0 M) l1 n) (n : Int)) (rd l1 (n : Int))))
      obtain ⟨x, ex⟩ : ∃ x : Int, rd (xorN (padL l0 M) l1 n) (n : Int) = x := ⟨_, rfl⟩
      obtain ⟨y, ey⟩ : ∃ y : Int, rd l1 (n : Int) = y := ⟨_, rfl⟩
      have hc' : wr.cell? ⟨go, n, none⟩ = some (.int .u16 x) := by rw [← ex]; exact hc
      clear hc
      rw [ex, ey] at HPut TS
      rw [ey] at hx
      clear ex ey
      have HN := Lib.hid hlt
      clear hlt
      go_wp2
      go_roundg (l1.length - (n + 1))
      case measure => have := hg.out; have := HN.out; omega
      case rel =>
        refine ⟨n + 1, Lib.hid HN.out, Lib.hid (Nat.le_refl _), rfl, Lib.hid ?_, Lib.hid (below_set HB.out GB.out)⟩
        rw [TS.out]
        have h1 := HPut.out.1
        rw [Int.toNat_natCast] at h1
        exact h1
    · have en : n = l1.length := by have := hn.out; omega
      subst en
      have hb0 : decide ((l1.length : Int) < (l1.length : Int)) = false := decide_eq_false (by omega)
      have hlen : (xorN (padL l0 M) l1 l1.length).length = M := by rw [xorN_length, padL_length _ _ GS.out.1]
      have HOp : Hid (Kd.R (Kd.int .u16) 36 wr w.heap.size (fun _ => True) (.slice Ao M co) (plusR l0 l1)) := Lib.hid (by rw [HP.out]; exact HO.out)
      have hlen2 : (plusR l0 l1).length = M := by rw [HP.out]; exact hlen
      have hc := impl_trim.calls Ao co (plusR l0 l1) r wr (Kd.R_reads' HOp.out).2.2 (by rw [hlen2]; exact (Kd.R_reads' HOp.out).2.1) HH.out
      rw [hlen2] at hc
      have HCALL := Lib.hid hc
      clear hc hlen hlen2 hlt hn hg HO
      go_wp2_with (go_at_call 42; refine HCALL.out.mono ?_; rintro e w' ⟨v, rfl, hv, hb⟩; have HV := Lib.hid (Kd.R_lower hv (Below.size HB.out)); have HB3 := Lib.hid (below_step HB.out hb); clear hv hb)
      go_ret
      exact ⟨_, rfl, HV.out, HB3.out⟩

end Go.Proofs.Ytkmpdnnifohifaa.Given

/- The text of nimbers, as the reference tells it: walked. -/
import Derived.Test.YtcghgceihnfnhaaDoorProg
import Derived.Below
import Derived.Deep.Draws
import Derived.Deep.AppendLies
import Derived.Maps.AppendAt
import Derived.OwnWalk
import Derived.Laws.BytesArg
import Derived.Laws.MakeOwn
import Derived.Laws.OwnMore
import Derived.Deep.OwnRows
import Derived.Tactics
import Derived.Lib.ConvBytes
import Derived.Laws.Slices
import Derived.WalkKit
import Derived.KernelRfl
import Derived.RowKit3
import Derived.Deep.LoopGhost
import Derived.Deep.QuietTactic
import Derived.BigQuiet
import Derived.WideLaws
import Derived.Deep.DeepCutAuto
import Derived.Deep.CutBlock
import Derived.Deep.RegionHeld3
import Derived.Laws.Rows
import Derived.Lib.AppendStr
import Derived.ArgAppend
import Derived.Laws.IdiomCopy
import Derived.OrdersHeld
import Derived.Laws.BitsLemmas
import Derived.RowKit
import Derived.Lib.Hide
import Derived.WalkSpells
import Derived.Test.YtcghgceihnfnhaaDoorWWords
import Derived.Test.YtcghgceihnfnhaaDoorWLast
import Derived.Test.YtcghgceihnfnhaaDoorWTab
import Derived.Test.YtcghgceihnfnhaaDoorWFour
import Derived.Test.YtcghgceihnfnhaaDoorWQPut
import Derived.Test.YtcghgceihnfnhaaDoorWApart
import Derived.Test.YtcghgceihnfnhaaDoorWArr
import Derived.Test.YtcghgceihnfnhaaDoorWZeros
import Derived.Test.YtcghgceihnfnhaaDoorWFoot
import Derived.Test.YtcghgceihnfnhaaDoorWKept
import Derived.Test.YtcghgceihnfnhaaDoorWShare
import Derived.Test.YtcghgceihnfnhaaDoorWN
import Derived.Test.YtcghgceihnfnhaaDoorWFootNe
import Derived.Test.YtcghgceihnfnhaaDoorWAt
import Derived.Test.YtcghgceihnfnhaaDoorWEqStruct
import Derived.Test.YtcghgceihnfnhaaDoorWRepsOne
import Derived.Test.YtcghgceihnfnhaaDoorWInv
import Derived.Test.YtcghgceihnfnhaaDoorWInvWords
import Derived.Test.YtcghgceihnfnhaaDoorWGuard
import Derived.Test.YtcghgceihnfnhaaDoorWNEv
import Derived.Test.YtcghgceihnfnhaaDoorWMore
import Derived.Test.YtcghgceihnfnhaaDoorN1
import Derived.Test.YtcghgceihnfnhaaDoorRL01x1
import Derived.Test.YtcghgceihnfnhaaDoorGT
namespace Go.Proofs.YtcghgceihnfnhaaDoor.Given
open Go.RowKit Go.Proofs.YtcghgceihnfnhaaDoorW.PrintWords Go.Proofs.YtcghgceihnfnhaaDoorW.PrintLast Go.Proofs.YtcghgceihnfnhaaDoorW.PrintMore Go.Proofs.YtcghgceihnfnhaaDoor.NimF Go.Proofs.YtcghgceihnfnhaaDoor.NimGo
set_option linter.unusedVariables false
set_option linter.unusedSimpArgs false
open Go.Proofs.YtcghgceihnfnhaaDoor.RL01
theorem strN1 (n : Int) : strOfNums [n] = ⟨#[UInt8.ofNat n.toNat]⟩ := by
  simp [strOfNums]
theorem dec_ev : ∀ (u : Nat), u ≤ 65535 → Ev (fun k => spec_Decimal.f k (u : Int)) (⟨(Lib.decDigits u).toArray⟩ : ByteArray) := by
  intro u
  induction u using Nat.strongRecOn with
  | _ u ih =>
    intro hu
    have e1 : wrap64 (48 + Int.tmod (u : Int) 10) % 256 = ((48 + u % 10 : Nat) : Int) := by
      rw [Int.tmod_eq_emod_of_nonneg (by omega), w64i (by omega) (by omega)]
      omega
    by_cases h : u < 10
    · refine Ev.step (f := fun _ => some (⟨(Lib.decDigits u).toArray⟩ : ByteArray)) (fun k => ?_) (Ev.now _)
      simp only [spec_Decimal.f]
      rw [if_pos (by omega), e1, strN1, Int.toNat_natCast, Lib.decDigits_one h, Nat.mod_eq_of_lt h]
    · have e2 : wrap64 (Int.tdiv (u : Int) 10) = ((u / 10 : Nat) : Int) := by
        rw [Int.tdiv_eq_ediv_of_nonneg (by omega), w64i (by omega) (by omega)]
        omega
      have hd : Lib.decDigits u = Lib.decDigits (u / 10) ++ [UInt8.ofNat (48 + u % 10)] := by
        rw [Lib.decDigits, dif_neg h]
      have hl : (Lib.decDigits (u / 10)).length ≤ 21 := by
        have := Lib.itoa_length_le ((u / 10 : Nat) : Int) (by omega) (by omega)
        rwa [Lib.itoa_nonneg] at this
      refine Ev.step (f := fun k => (spec_Decimal.f k ((u / 10 : Nat) : Int)).bind fun t => (some ([((48 + u % 10 : Nat) : Int)] : List Int)).bind fun y => if t.size + (strOfNums y).size ≤ 9223372036854775807 then some (t ++ strOfNums y) else none) (fun k => ?_) (Ev.bind (ih (u / 10) (by omega) (by omega)) ?_)
      · simp only [spec_Decimal.f]
        rw [if_neg (by omega), e1, e2]
      · refine Ev.congr (fun k => ?_) (Ev.now _)
        have hz : (⟨(Lib.decDigits (u / 10)).toArray⟩ : ByteArray).size ≤ 21 := by simpa [ByteArray.size] using hl
        rw [Option.bind_some, if_pos (by rw [strOfNums_size]; simp only [List.length_cons, List.length_nil]; omega), strN1, Int.toNat_natCast, hd]
        congr 1

theorem itoa_ev (a : Int) (h0 : 0 ≤ a) (h1 : a ≤ 65535) : Ev (fun k => spec_Decimal.f k a) (⟨(Lib.itoa a).toArray⟩ : ByteArray) := by
  obtain ⟨u, rfl⟩ := Int.eq_ofNat_of_zero_le h0
  rw [Lib.itoa_nonneg]
  exact dec_ev u (by omega)
theorem text_ev (a : Int) (h0 : 0 ≤ a) (h1 : a ≤ 65535) : Ev (fun k => spec_l01Text.f k a) (nimB a) := by
  have e : wrap64 a = a := w64i (by omega) (by omega)
  have hl := Lib.itoa_length_le a (by omega) (by omega)
  have hz : (⟨(Lib.itoa a).toArray⟩ : ByteArray).size ≤ 21 := by simpa [ByteArray.size] using hl
  refine Ev.congr (f := fun k => (spec_Decimal.f k a).bind fun t => if 1 + t.size ≤ 9223372036854775807 then some ((⟨#[42]⟩ : ByteArray) ++ t) else none) (fun k => by simp only [spec_l01Text.f, e]) (Ev.bind (itoa_ev a h0 h1) ?_)
  refine Ev.congr (fun k => ?_) (Ev.now _)
  rw [if_pos (by omega)]
  congr 1
/-- the reference's text of a nimber -/
theorem sText_calls (a : Int) (h0 : 0 ≤ a) (h1 : a ≤ 65535) (w : World) : Calls Tryd.prog 42 #[.int .u16 a] w fun e w' => e = .returned (.string (nimB a)) ∧ Below w.heap.size w w' := by
  obtain ⟨k, hk⟩ := (text_ev a h0 h1).rounds
  exact spec_l01Text.calls k a (nimB a) w hk
theorem listT_succ (l : List Int) (n : Nat) (h : n < l.length) : listB (l.take (n + 1)) = (if 0 < n then listB (l.take n) ++ (⟨#[32]⟩ : ByteArray) else listB (l.take n)) ++ nimB (l.getD n 0) := by
  have e1 : l.take (n + 1) = l.take n ++ [l.getD n 0] := by rw [List.take_add_one, List.getElem?_eq_getElem h]; simp [List.getD, h]
  have key : listT (l.take (n + 1)) = (if 0 < n then listT (l.take n) ++ [32] else listT (l.take n)) ++ nimT (l.getD n 0) := by
    unfold listT
    rw [e1, List.map_append]
    rcases Nat.eq_zero_or_pos n with rfl | hn
    · simp [Lib.join_nil, Lib.join_one]
    · rw [if_pos hn]
      obtain ⟨x, r, hx⟩ : ∃ x r, l.take n = x :: r := by
        cases hq : l.take n with
        | nil => have := congrArg List.length hq; rw [List.length_take, List.length_nil] at this; omega
        | cons x r => exact ⟨x, r, rfl⟩
      rw [hx]
      simp only [List.map_cons, List.cons_append, List.map_nil]
      rw [Lib.join_cons, Lib.join_cons]
      simp [Lib.joinTail]
  apply ByteArray.ext
  simp only [listB, key]
  split <;> simp [nimB, ByteArray.data_append]
set_option maxHeartbeats 4000000 in
set_option maxRecDepth 100000 in
/-- the reference's text of a list -/
theorem sList_calls (A0 : Option Addr) (c0 : Nat) (l0 : List Int) (w : World) (hr0 : Kd.C (Kd.int .u16) w A0 l0.length l0) (hl0 : l0.length ≤ 1048576) (hv : ∀ a ∈ l0, 0 ≤ a ∧ a ≤ 65535) :
    Calls Tryd.prog 35 #[.slice A0 l0.length c0] w fun e w' => e = .returned (.string (listB l0)) ∧ Below w.heap.size w w' := by
  have HR := Lib.hid hr0
  have HL := Lib.hid hl0
  have HV := Lib.hid hv
  clear hr0 hl0 hv
  have HB0 : Hid (Below w.heap.size w w) := Lib.hid (Below.refl _ _)
  go_enter Tryd.func35, Tryd.ntmps35
  go_wp2
  go_loopg [3, 4] l0.length (fun gg v3 v4 wr => ∃ n : Nat, Hid (n ≤ l0.length) ∧ Hid (l0.length - n ≤ gg) ∧ v4 = .int .i64 (n : Int) ∧ v3 = .string (listB (l0.take n)) ∧ Hid (Below w.heap.size w wr))
  case atStart => exact ⟨0, Lib.hid (Nat.zero_le _), Lib.hid (Nat.sub_le _ _), rfl, rfl, HB0⟩
  case round =>
    clear HB0
    obtain ⟨n, hn, hg, rfl, rfl, HB⟩ := hrel
    by_cases hlt : n < l0.length
    · obtain ⟨ad, e, hx⟩ := Kd.at_int HR.out (n : Int) (by omega) (by omega)
      subst e
      replace hx := (HB.out.cell (World.block_lt_of_cell? w _ hx)).trans hx
      rw [Int.toNat_natCast, rd_nat] at hx
      have hm : l0.getD n 0 ∈ l0 := by rw [List.getD_eq_getElem?_getD, List.getElem?_eq_getElem hlt]; exact List.getElem_mem hlt
      have TS := listT_succ l0 n hlt
      have tl := listT_len (l0.take n) (fun a ha => HV.out a (List.mem_of_mem_take ha))
      rw [List.length_take, Nat.min_eq_left (by omega)] at tl
      obtain ⟨x, ex⟩ : ∃ x, l0.getD n 0 = x := ⟨_, rfl⟩
      have HX : Hid (0 ≤ x ∧ x ≤ 65535) := Lib.hid (by rw [← ex]; exact HV.out _ hm)
      rw [ex] at hx TS
      have hb0 : decide ((n : Int) < (l0.length : Int)) = true := decide_eq_true (by omega)
      have hb1 : (n : Int) < (l0.length : Int) := by omega
      have hi0 : (0 : Int) ≤ (n : Int) := by omega
      have hnb : n < 9223372036854775807 := by have := HL.out; omega
      have HC := fun w => Lib.hid (sText_calls x HX.out.1 HX.out.2 w)
      have hs2 := nimT_len x HX.out.1 HX.out.2
      obtain ⟨s, es⟩ : ∃ s, nimB x = s := ⟨_, rfl⟩
      obtain ⟨t, et⟩ : ∃ t, listB (l0.take n) = t := ⟨_, rfl⟩
      have hz : s.size ≤ 22 := by rw [← es]; simpa [nimB, ByteArray.size] using hs2
      have hz2 : t.size ≤ 23 * n := by rw [← et]; simpa [listB, ByteArray.size] using tl
      rw [es] at HC TS
      rw [et] at TS ⊢
      have HN := Lib.hid hlt
      have hL := HL.out
      have hq : (t ++ (⟨#[32]⟩ : ByteArray)).size = t.size + 1 := by simp [ByteArray.size_append]; rfl
      have hz3 : (t ++ (⟨#[32]⟩ : ByteArray)).size ≤ 30000000 := by omega
      have hz4 : t.size ≤ 30000000 := by omega
      clear es et ex hm tl hs2 hz2 hL hlt hq
      by_cases h0 : 0 < n
      · rw [if_pos h0] at TS
        have hb2 : decide ((0 : Int) < (n : Int)) = true := decide_eq_true (by omega)
        have TS2 := Lib.hid TS
        clear TS
        obtain ⟨t2, et2⟩ : ∃ t2, t ++ (⟨#[32]⟩ : ByteArray) = t2 := ⟨_, rfl⟩
        have ET : Hid (t ++ (⟨#[32]⟩ : ByteArray) = t2) := Lib.hid et2
        rw [et2] at TS2 hz3
        go_wp2_with (go_at_call 42; refine (HC _).out.mono ?_; rintro e w2 ⟨rfl, hb⟩; have HB2 := Lib.hid (below_step HB.out hb); clear hb)
        go_roundg (l0.length - (n + 1))
        case measure => have := hg.out; have := HN.out; omega
        case rel => exact ⟨n + 1, Lib.hid HN.out, Lib.hid (Nat.le_refl _), rfl, by rw [TS2.out], HB2⟩
      · rw [if_neg h0] at TS
        have hb2 : decide ((0 : Int) < (n : Int)) = false := decide_eq_false (by omega)
        have TS2 := Lib.hid TS
        clear TS
        go_wp2_with (go_at_call 42; refine (HC _).out.mono ?_; rintro e w2 ⟨rfl, hb⟩; have HB2 := Lib.hid (below_step HB.out hb); clear hb)
        go_roundg (l0.length - (n + 1))
        case measure => have := hg.out; have := HN.out; omega
        case rel => exact ⟨n + 1, Lib.hid HN.out, Lib.hid (Nat.le_refl _), rfl, by rw [TS2.out], HB2⟩
    · have en : n = l0.length := by have := hn.out; omega
      subst en
      have hb0 : decide ((l0.length : Int) < (l0.length : Int)) = false := decide_eq_false (by omega)
      have ET : Hid (listB (l0.take l0.length) = listB l0) := Lib.hid (by rw [List.take_length])
      clear hn hg hlt
      go_wp2
      go_ret
      exact ⟨by rw [← ET.out]; rfl, HB.out⟩

end Go.Proofs.YtcghgceihnfnhaaDoor.Given

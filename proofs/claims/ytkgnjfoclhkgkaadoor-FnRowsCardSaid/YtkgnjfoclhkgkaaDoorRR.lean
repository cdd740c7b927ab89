/- Rows read from their texts: walked. -/
import Derived.Test.YtkgnjfoclhkgkaaDoorProg
import Derived.Below
import Derived.Deep.Draws
import Derived.Deep.AppendLies
import Derived.Maps.AppendAt
import Derived.OwnWalk
import Derived.Laws.BytesArg
import Derived.Laws.MakeOwn
import Derived.Laws.OwnMore
import Derived.Deep.OwnRows
import Derived.Tactics
import Derived.Lib.ConvBytes
import Derived.Laws.Slices
import Derived.WalkKit
import Derived.KernelRfl
import Derived.RowKit3
import Derived.Deep.LoopGhost
import Derived.Deep.QuietTactic
import Derived.BigQuiet
import Derived.WideLaws
import Derived.Deep.DeepCutAuto
import Derived.Deep.CutBlock
import Derived.Deep.RegionHeld3
import Derived.Laws.Rows
import Derived.Lib.AppendStr
import Derived.ArgAppend
import Derived.Laws.IdiomCopy
import Derived.OrdersHeld
import Derived.Laws.BitsLemmas
import Derived.RowKit
import Derived.Lib.Hide
import Derived.WalkSpells
import Derived.Test.YtkgnjfoclhkgkaaDoorWWords
import Derived.Test.YtkgnjfoclhkgkaaDoorWLast
import Derived.Test.YtkgnjfoclhkgkaaDoorWTab
import Derived.Test.YtkgnjfoclhkgkaaDoorWQPut
import Derived.Test.YtkgnjfoclhkgkaaDoorWApart
import Derived.Test.YtkgnjfoclhkgkaaDoorWArr
import Derived.Test.YtkgnjfoclhkgkaaDoorWZeros
import Derived.Test.YtkgnjfoclhkgkaaDoorWFoot
import Derived.Test.YtkgnjfoclhkgkaaDoorWKept
import Derived.Test.YtkgnjfoclhkgkaaDoorWShare
import Derived.Test.YtkgnjfoclhkgkaaDoorWN
import Derived.Test.YtkgnjfoclhkgkaaDoorWNEv
import Derived.Test.YtkgnjfoclhkgkaaDoorWMore
import Derived.Test.YtkgnjfoclhkgkaaDoorN1
import Derived.Test.YtkgnjfoclhkgkaaDoorSH
import Derived.Test.YtkgnjfoclhkgkaaDoorTA3
import Derived.Lib.SmallJoins
import Derived.Deep.WholeRow
namespace Go.Proofs.YtkgnjfoclhkgkaaDoor.Given
open Go.RowKit Go.Proofs.YtkgnjfoclhkgkaaDoorW.PrintWords Go.Proofs.YtkgnjfoclhkgkaaDoorW.PrintLast Go.Proofs.YtkgnjfoclhkgkaaDoorW.PrintMore Go.Proofs.YtkgnjfoclhkgkaaDoor.NimF Go.Proofs.YtkgnjfoclhkgkaaDoor.NimGo
set_option linter.unusedVariables false
set_option linter.unusedSimpArgs false
open Go.Proofs.YtkgnjfoclhkgkaaDoor.RSORT
set_option maxHeartbeats 1000000 in
set_option maxRecDepth 100000 in
theorem trimR_calls (s : ByteArray) (b : Nat) (w : World) (hs : s.size ≤ 24) (hall : ∀ x ∈ s.data.toList, w.cell? ⟨b, x.toNat, none⟩ = some (.bool true)) :
    Calls Tryd.prog 64 #[.string s, .pointer (some ⟨b, 0, none⟩)] w fun e w' => e = .returned (.string ⟨#[]⟩) ∧ Drawn0 w w' := by
  have HA := Lib.hid hall
  have HS := Lib.hid hs
  clear hall
  go_enter Tryd.func64, Tryd.ntmps64
  go_wp2
  go_loopg [0] (s.size + 1) (fun gg v0 wr => ∃ t : ByteArray, v0 = .string t ∧ Hid (t.size + 1 = gg ∧ t.size ≤ 24 ∧ ∀ x ∈ t.data.toList, x ∈ s.data.toList) ∧ Drawn0 w wr)
  case atStart => exact ⟨s, rfl, Lib.hid ⟨rfl, hs, fun _ h => h⟩, by repeat (first | exact Drawn0.refl _ | apply Drawn0.step)⟩
  case round =>
  obtain ⟨t, rfl, HT, ⟨m1, rfl⟩⟩ := hrel
  by_cases h0 : t.size = 0
  · have e : t = ⟨#[]⟩ := by
      exact ByteArray.size_eq_zero_iff.1 h0
    subst e
    clear h0
    go_wp2
    go_ret
    exact ⟨rfl, by repeat (first | exact Drawn0.refl _ | apply Drawn0.step)⟩
  · have h24 : t.size ≤ 24 := HT.out.2.1
    have hpos : 0 < t.size := by omega
    have hd : decide ((t.size : Int) > 0) = true := decide_eq_true (by omega)
    have HC := fun W x h => Lib.hid (Tryd.asciiSet_contains b x true W h)
    go_wp2_with (first | (go_at_call 74; refine Hid.out ?_))
    refine Lib.hid ?_
    have hmem : t[t.size - 1]'(by omega) ∈ s.data.toList := HT.out.2.2 _ (by
      have h1 : t.size - 1 < t.data.toList.length := by simp; omega
      have h2 : t.data.toList[t.size - 1]'h1 = t[t.size - 1]'(by omega) := by simp; rfl
      rw [← h2]; exact List.getElem_mem _)
    refine (Tryd.asciiSet_contains b (t[t.size - 1]'(by omega)) true (w.drewN m1) (HA.out _ hmem)).mono ?_
    rintro e w1 ⟨rfl, rfl⟩
    clear hmem
    go_wp2
    go_roundg (gk - 1)
    case measure => have := HT.out; omega
    case rel => exact ⟨t.extract 0 (t.size - 1), rfl, Lib.hid ⟨by have := HT.out.1; rw [ByteArray.size_extract]; omega, by rw [ByteArray.size_extract]; omega, fun x hx => HT.out.2.2 x (by
      rw [ByteArray.data_extract, Array.toList_extract] at hx
      exact List.mem_of_mem_drop (List.mem_of_mem_take hx))⟩, by repeat (first | exact Drawn0.refl _ | apply Drawn0.step)⟩
set_option maxHeartbeats 1000000 in
set_option maxRecDepth 100000 in
theorem trimL_calls (b : Nat) (w : World) : Calls Tryd.prog 63 #[.string ⟨#[]⟩, .pointer (some ⟨b, 0, none⟩)] w fun e w' => e = .returned (.string ⟨#[]⟩) ∧ Drawn0 w w' := by
  go_enter Tryd.func63, Tryd.ntmps63
  go_wp2
  go_loopg [0] 1 (fun gg v0 wr => v0 = .string ⟨#[]⟩ ∧ Drawn0 w wr)
  case atStart => exact ⟨rfl, by repeat (first | exact Drawn0.refl _ | apply Drawn0.step)⟩
  case round =>
  obtain ⟨rfl, ⟨m1, rfl⟩⟩ := hrel
  go_wp2
  go_ret
  exact ⟨rfl, by repeat (first | exact Drawn0.refl _ | apply Drawn0.step)⟩
theorem i82 : (Tryd.prog.info? 82).map (fun i => i.zero) = some (some (.agg (Array.replicate 256 (.bool false)))) := by kernel_rfl
theorem zero82 (w : World) : (zeroValue 82).run Tryd.prog w = .ok (.agg (Array.replicate 256 (.bool false))) w := by
  obtain ⟨i, hi, hz⟩ := Option.map_eq_some_iff.1 i82
  simp [zeroValue, typeInfo, hi, hz]
set_option maxHeartbeats 1000000 in
set_option maxRecDepth 100000 in
theorem trim_calls (s : ByteArray) (w : World) (hs : s.size ≤ 24) (hht : ∀ x ∈ s.data.toList, x = 72 ∨ x = 84) : Calls Tryd.prog 43 #[.string s, .string ⟨#[72, 84]⟩] w fun e w' => e = .returned (.string ⟨#[]⟩) ∧ Below w.heap.size w w' := by
  by_cases h0 : s.size = 0
  · obtain rfl : s = ⟨#[]⟩ := ByteArray.size_eq_zero_iff.1 h0
    clear h0 hs hht
    go_enter Tryd.func43, Tryd.ntmps43
    go_wp2
    go_ret
    exact ⟨rfl, Below.refl _ _⟩
  · have hne : s.toList.isEmpty = false := by
      rw [Lib.toList_data]
      cases he : s.data.toList with
      | nil => exact absurd (by have h1 : s.data.toList.length = s.size := by simp
                                rw [he] at h1; exact h1.symm) h0
      | cons a l => rfl
    have HH := Lib.hid hht
    have HS := Lib.hid hs
    clear h0 hht
    go_enter Tryd.func43, Tryd.ntmps43
    go_wp2_with (first | (go_at_call 62; refine Hid.out ?_))
    refine Lib.hid ?_
    refine (Tryd.strings_makeASCIISet zero82 ⟨#[72, 84]⟩ w (by decide) (fun j b h => by rcases j with _ | _ | j <;> simp at h <;> subst h <;> decide)).mono ?_
    rintro e w1 ⟨rfl, hw1⟩
    have hb1 : Below w.heap.size w w1 := by rw [hw1]; exact below_alloc (Below.refl _ _) _
    have HB := Lib.hid hb1
    clear hw1 hb1
    have hst := Go.run_storeCells_new (P := Tryd.prog) w1 82 Tryd.zeroCells82 (Lib.setCells [72, 84]) (by kernel_rfl) (by kernel_rfl) (by kernel_rfl)
    obtain ⟨C, hC⟩ : ∃ C, Lib.setCells [72, 84] = C := ⟨_, rfl⟩
    rw [hC] at hst ⊢
    have HCC := Lib.hid hC
    have hCs : C.size = 256 := by rw [← hC]; kernel_rfl
    clear hC
    go_wp2_with (first | (go_at_call 64; refine Hid.out ?_))
    refine Lib.hid ?_
    have hb2 := below_alloc (Below.refl _ w1) (.cells C 82)
    have hblk : (w1.alloc (.cells C 82)).heap[w1.heap.size]? = some (.cells C 82 (0, 0)) := Array.getElem?_push_size
    refine (trimR_calls s w1.heap.size (w1.alloc (.cells C 82)) HS.out (fun x hx => ?hall)).mono ?_
    case hall =>
      rw [Go.Joins.cell_of_block hblk, ← HCC.out]
      rcases HH.out x hx with rfl | rfl <;> kernel_rfl
    rintro e w2 ⟨rfl, ⟨nd, rfl⟩⟩
    have HB2 := Lib.hid (below_step HB.out hb2)
    clear hst hCs hb2 hblk hne
    generalize w1.alloc (.cells C 82) = w3 at HB2 ⊢
    go_wp2_with (first | (go_at_call 63; refine Hid.out ?_))
    refine Lib.hid ?_
    refine (trimL_calls w1.heap.size _).mono ?_
    rintro e w4 ⟨rfl, ⟨nd2, rfl⟩⟩
    go_wp2
    go_ret
    exact ⟨rfl, by repeat (first | exact HB2.out | apply pw_below_drewN)⟩
def readF (s : ByteArray) : Nat → Int → Int → Int
  | 0, _, r => r
  | n + 1, i, r => readF s n (i + 1) (if bt s i = 72 then Go.bits .or .u32 r ((2 : Int) ^ i.toNat % 4294967296) else r)
def impl_ReadRow.f (s : ByteArray) : Option (Int × Int) := if s.size ≤ 24 ∧ (s.data.toList.all fun x => x == 72 || x == 84) = true then some (readF s s.size 0 0, 0) else none
set_option maxHeartbeats 1000000 in
set_option maxRecDepth 100000 in
theorem impl_ReadRow.calls (s : ByteArray) (r1 r2 : Int) (w : World) (h : impl_ReadRow.f s = some (r1, r2)) : Calls Tryd.prog 16 #[.string s] w fun e w' => e = .returned (.tuple #[.int .u32 r1, .int .i64 r2]) ∧ Below w.heap.size w w' := by
  unfold impl_ReadRow.f at h
  by_cases hc : s.size ≤ 24 ∧ (s.data.toList.all fun x => x == 72 || x == 84) = true
  case neg => rw [if_neg hc] at h; cases h
  rw [if_pos hc] at h
  obtain ⟨h24, hht⟩ := hc
  obtain ⟨rfl, rfl⟩ : readF s s.size 0 0 = r1 ∧ 0 = r2 := by simpa using h
  have HT := Lib.hid (trim_calls s w h24 (fun x hx => by simpa using List.all_eq_true.1 hht x hx))
  have hd : decide ((s.size : Int) > 24) = false := decide_eq_false (by omega)
  obtain ⟨R, hR⟩ : ∃ R, readF s s.size 0 0 = R := ⟨_, rfl⟩
  rw [hR]
  have HR := Lib.hid hR
  have h24' : (s.size : Int) ≤ 24 := by omega
  clear h hht hR h24
  go_enter Tryd.func16, Tryd.ntmps16
  go_wp2_with (first | (go_at_call 43; with_reducible refine HT.out.mono ?_; rintro e w1 ⟨rfl, hb⟩; have HB := Lib.hid hb; clear hb; refine Hid.out ?_))
  refine Lib.hid ?_
  go_wp2
  go_loopg [4, 16] (s.size + 1) (fun gg v4 v16 wr => ∃ (i r : Int), v4 = .int .u32 r ∧ v16 = .int .i64 i ∧ Hid (0 ≤ i ∧ i ≤ (s.size : Int) ∧ i + gg = s.size + 1) ∧ Hid (readF s (s.size - i.toNat) i r = R) ∧ Hid (Below w.heap.size w wr))
  case atStart => exact ⟨0, 0, rfl, rfl, Lib.hid (by omega), Lib.hid (by simpa using HR.out), HB⟩
  case round =>
  clear HB HR
  obtain ⟨i, r, rfl, rfl, HI, HF, HB⟩ := hrel
  by_cases hlt : i < (s.size : Int)
  · have HLT := Lib.hid hlt
    have hi0 : 0 ≤ i := HI.out.1
    have hi9 : i < 32 := by omega
    have hF := HF.out
    rw [show s.size - i.toNat = (s.size - (i + 1).toNat) + 1 by omega] at hF
    unfold readF at hF
    obtain ⟨pi, hpi⟩ : ∃ j_ : Int, (2 : Int) ^ i.toNat % 4294967296 = j_ := ⟨_, rfl⟩
    rw [hpi] at hF
    have hbt := bt_at s i (by omega)
    clear HF
    by_cases hq : bt s i = 72
    · rw [if_pos hq] at hF
      have HF := Lib.hid hF
      have hqb : (bt s i == 72) = true := beq_iff_eq.2 hq
      clear hF hq
      go_wp2
      go_roundg (gk - 1)
      case measure => have := HI.out; have := HLT.out; omega
      case rel => exact ⟨i + 1, _, rfl, rfl, Lib.hid (by have := HI.out; have := HLT.out; omega), HF, HB⟩
    · rw [if_neg hq] at hF
      have HF := Lib.hid hF
      have hqb : (bt s i == 72) = false := beq_eq_false_iff_ne.2 hq
      clear hF hq
      go_wp2
      go_roundg (gk - 1)
      case measure => have := HI.out; have := HLT.out; omega
      case rel => exact ⟨i + 1, _, rfl, rfl, Lib.hid (by have := HI.out; have := HLT.out; omega), HF, HB⟩
  · have hin : i = (s.size : Int) := by have := HI.out; omega
    subst hin
    have er : r = R := by
      have hF := HF.out
      rw [show s.size - ((s.size : Int)).toNat = 0 by omega] at hF
      exact hF
    subst er
    clear hlt
    go_wp2
    exact bodyPost_ret (v := .tuple #[.int .u32 r, .int .i64 0]) (by simp [results, Tryd.results16, go_sem]) rfl ⟨rfl, HB.out⟩
end Go.Proofs.YtkgnjfoclhkgkaaDoor.Given

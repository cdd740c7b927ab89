/- The text of nimbers, as the program tells it: walked. -/
import Derived.Test.YtcghgceihnfnhaaDoorProg
import Derived.Below
import Derived.Deep.Draws
import Derived.Deep.AppendLies
import Derived.Maps.AppendAt
import Derived.OwnWalk
import Derived.Laws.BytesArg
import Derived.Laws.MakeOwn
import Derived.Laws.OwnMore
import Derived.Deep.OwnRows
import Derived.Tactics
import Derived.Lib.ConvBytes
import Derived.Laws.Slices
import Derived.WalkKit
import Derived.KernelRfl
import Derived.RowKit3
import Derived.Deep.LoopGhost
import Derived.Deep.QuietTactic
import Derived.BigQuiet
import Derived.WideLaws
import Derived.Deep.DeepCutAuto
import Derived.Deep.CutBlock
import Derived.Deep.RegionHeld3
import Derived.Laws.Rows
import Derived.Lib.AppendStr
import Derived.ArgAppend
import Derived.Laws.IdiomCopy
import Derived.OrdersHeld
import Derived.Laws.BitsLemmas
import Derived.RowKit
import Derived.Lib.Hide
import Derived.WalkSpells
import Derived.Test.YtcghgceihnfnhaaDoorWWords
import Derived.Test.YtcghgceihnfnhaaDoorWLast
import Derived.Test.YtcghgceihnfnhaaDoorWTab
import Derived.Test.YtcghgceihnfnhaaDoorWFour
import Derived.Test.YtcghgceihnfnhaaDoorWQPut
import Derived.Test.YtcghgceihnfnhaaDoorWApart
import Derived.Test.YtcghgceihnfnhaaDoorWArr
import Derived.Test.YtcghgceihnfnhaaDoorWZeros
import Derived.Test.YtcghgceihnfnhaaDoorWFoot
import Derived.Test.YtcghgceihnfnhaaDoorWKept
import Derived.Test.YtcghgceihnfnhaaDoorWShare
import Derived.Test.YtcghgceihnfnhaaDoorWN
import Derived.Test.YtcghgceihnfnhaaDoorWFootNe
import Derived.Test.YtcghgceihnfnhaaDoorWAt
import Derived.Test.YtcghgceihnfnhaaDoorWEqStruct
import Derived.Test.YtcghgceihnfnhaaDoorWRepsOne
import Derived.Test.YtcghgceihnfnhaaDoorWInv
import Derived.Test.YtcghgceihnfnhaaDoorWInvWords
import Derived.Test.YtcghgceihnfnhaaDoorWGuard
import Derived.Test.YtcghgceihnfnhaaDoorWNEv
import Derived.Test.YtcghgceihnfnhaaDoorWMore
import Derived.Test.YtcghgceihnfnhaaDoorN1
import Derived.Test.YtcghgceihnfnhaaDoorShelf
import Derived.Lib.ItoaLen
import Derived.Lib.SmallJoins
namespace Go.Proofs.YtcghgceihnfnhaaDoor.Given
open Go.RowKit Go.Proofs.YtcghgceihnfnhaaDoorW.PrintWords Go.Proofs.YtcghgceihnfnhaaDoorW.PrintLast Go.Proofs.YtcghgceihnfnhaaDoorW.PrintMore Go.Proofs.YtcghgceihnfnhaaDoor.NimF Go.Proofs.YtcghgceihnfnhaaDoor.NimGo
set_option linter.unusedVariables false
set_option linter.unusedSimpArgs false
open Go.Proofs
/-- the text of a nimber -/
def nimT (a : Int) : List UInt8 := 42 :: Lib.itoa a
def nimB (a : Int) : ByteArray := ⟨(nimT a).toArray⟩
/-- the text of a list -/
def listT (l : List Int) : List UInt8 := Lib.join (l.map nimT) [32]
def listB (l : List Int) : ByteArray := ⟨(listT l).toArray⟩
/-- the table of the powers of ten lies in the world -/
def P10 (w : World) : Prop := Lib.TabIs Tryd.prog w "internal/strconv.uint64pow10" .u64 Lib.pow10Tab
theorem P10.on {w w' : World} (h : P10 w) (hb : Below w.heap.size w w') : P10 w' := Go.Joins.tab_stays (show Tryd.prog.globalNamed "internal/strconv.uint64pow10" = some 5 by kernel_rfl) h hb (Nat.le_refl _)
theorem nimT_len (a : Int) (h0 : 0 ≤ a) (h1 : a ≤ 65535) : (nimT a).length ≤ 22 := by
  have := Lib.itoa_length_le a (by omega) (by omega)
  simp [nimT]; omega
theorem lens_le (l : List (List UInt8)) (c : Nat) (h : ∀ x ∈ l, x.length ≤ c) : Lib.lens l ≤ c * l.length := by
  induction l with
  | nil => simp [Lib.lens]
  | cons x l ih =>
    have h1 := ih (fun y hy => h y (List.mem_cons_of_mem _ hy))
    have h2 := h x List.mem_cons_self
    have h3 : Lib.lens (x :: l) = x.length + Lib.lens l := by simp [Lib.lens]
    rw [h3, List.length_cons, Nat.mul_succ]; omega
theorem join_len (l : List (List UInt8)) (c : Nat) (h : ∀ x ∈ l, x.length ≤ c) : (Lib.join l [32]).length ≤ (c + 1) * l.length := by
  cases l with
  | nil => simp [Lib.join_nil]
  | cons x r =>
    rw [Lib.join_length]
    have := lens_le (x :: r) c h
    simp only [List.length_cons, List.length_nil, Nat.zero_add, Nat.one_mul] at this ⊢
    rw [Nat.add_mul, Nat.one_mul]
    omega
theorem listT_len (l : List Int) (h : ∀ a ∈ l, 0 ≤ a ∧ a ≤ 65535) : (listT l).length ≤ 23 * l.length := by
  have := join_len (l.map nimT) 22 (by
    intro x hx
    obtain ⟨a, ha, rfl⟩ := List.mem_map.1 hx
    exact nimT_len a (h a ha).1 (h a ha).2)
  rwa [List.length_map] at this
theorem grow_below (w : World) (k : Nat) (os : Array Obj) : Below w.heap.size w (Sort.grow (w.drewN k) os) :=
  ⟨rfl, rfl, rfl, by show w.heap.size ≤ (w.heap ++ os).size; rw [Array.size_append]; omega, fun i hi => by
    show ((w.drewN k).heap ++ os)[i]? = _
    rw [Array.getElem?_append_left (by show i < w.heap.size; omega)]
    rfl⟩
set_option maxHeartbeats 1000000 in
theorem dec_calls (n : Int) (h0 : 0 ≤ n) (h1 : n ≤ 65535) (w : World) (hT : P10 w) : Calls Tryd.prog 43 #[.int .i64 n] w fun e w' => e = .returned (.string ⟨(Lib.itoa n).toArray⟩) ∧ Below w.heap.size w w' := by
  have HC := Lib.hid (Tryd.strconv_FormatInt_10 n (by omega) (by omega) w hT)
  clear hT
  go_enter Tryd.func43, Tryd.ntmps43
  go_wp2_with (go_at_call 54; refine HC.out.mono ?_; rintro e w' ⟨rfl, k, os, rfl⟩; have HB := Lib.hid (grow_below w k os); obtain ⟨w1, hw1⟩ : ∃ w1, Sort.grow (w.drewN k) os = w1 := ⟨_, rfl⟩; rw [hw1] at HB ⊢; clear hw1)
  go_ret
  exact ⟨rfl, HB.out⟩
set_option maxHeartbeats 1000000 in
theorem nimText_calls (n : Int) (h0 : 0 ≤ n) (h1 : n ≤ 65535) (w : World) (hT : P10 w) : Calls Tryd.prog 36 #[.int .u16 n] w fun e w' => e = .returned (.string (nimB n)) ∧ Below w.heap.size w w' := by
  have HC := Lib.hid (dec_calls n h0 h1 w hT)
  have hl := Lib.itoa_length_le n (by omega) (by omega)
  obtain ⟨s, hs⟩ : ∃ s : ByteArray, (⟨(Lib.itoa n).toArray⟩ : ByteArray) = s := ⟨_, rfl⟩
  have hz : s.size ≤ 21 := by rw [← hs]; simpa [ByteArray.size] using hl
  have HE : Hid ((⟨#[42]⟩ : ByteArray) ++ s = nimB n) := Lib.hid (by rw [← hs]; apply ByteArray.ext; simp [nimB, nimT, ByteArray.data_append])
  rw [hs] at HC
  clear hT hs hl
  go_enter Tryd.func36, Tryd.ntmps36
  go_wp2_with (go_at_call 43; refine HC.out.mono ?_; rintro e w' ⟨rfl, hb⟩; have HB := Lib.hid hb; clear hb)
  go_ret
  exact ⟨by rw [HE.out]; rfl, HB.out⟩

theorem infoS9 : (Tryd.prog.info? 9).map (fun i => (i.zero, i.size, i.bytes)) = some (some (.string ⟨#[]⟩), 1, 16) := by kernel_rfl
/-- strings.Join at a row of strings of the call's own -/
theorem join_calls {base : Nat} {ok : Nat → Prop} (v : Value) (xs : List ByteArray) (w : World) (h : Kd.string.R 9 w base ok v xs) (hN : xs.length ≤ 140737488355328)
    (hl : (Lib.join (xs.map (·.data.toList)) [32]).length ≤ 140737488355328) :
    Calls Tryd.prog 37 #[v, .string ⟨#[32]⟩] w fun e w' => e = .returned (.string ⟨(Lib.join (xs.map (·.data.toList)) [32]).toArray⟩) ∧ Below w.heap.size w w' := by
  rcases Nat.eq_zero_or_pos xs.length with h0 | h0
  · have e0 : xs = [] := List.length_eq_zero_iff.1 h0
    subst e0
    obtain ⟨A, c, rfl⟩ := Kd.R_slice h
    refine (Tryd.strings_Join_none A c ⟨#[32]⟩ w).mono fun e w' ⟨he, hw⟩ => ⟨he, ?_⟩
    subst hw
    exact Below.refl _ _
  · obtain ⟨g, c, rfl, hb, hlt, cells, hcells⟩ := Kd.R_form h h0
    obtain ⟨_, hc, _⟩ := Kd.R_reads' h
    refine Tryd.strings_Join g 0 c xs ⟨#[32]⟩ w (fun j x hj => ?_) hlt hN hc hl
    have hjl : j < xs.length := (List.getElem?_eq_some_iff.1 hj).1
    have := (Kd.R_cell ByteArray.empty h (j : Int) (by omega) (by omega)).1
    rw [Int.toNat_natCast] at this
    rw [Nat.zero_add, this]
    have : rdOf ByteArray.empty xs (j : Int) = x := by simp [rdOf, hj]
    rw [this]
set_option maxHeartbeats 4000000 in
set_option maxRecDepth 100000 in
theorem nimsText_calls (A0 : Option Addr) (c0 : Nat) (l0 : List Int) (w : World) (hr0 : Kd.C (Kd.int .u16) w A0 l0.length l0) (hl0 : l0.length ≤ 1048576) (hv : ∀ a ∈ l0, 0 ≤ a ∧ a ≤ 65535) (hT : P10 w) :
    Calls Tryd.prog 29 #[.slice A0 l0.length c0] w fun e w' => e = .returned (.string (listB l0)) ∧ Below w.heap.size w w' := by
  have HR := Lib.hid hr0
  have HL := Lib.hid hl0
  have HV := Lib.hid hv
  have HT := Lib.hid hT
  clear hr0 hl0 hv hT
  go_enter Tryd.func29, Tryd.ntmps29
  go_wp2_with (first | ((with_reducible refine gate_dst (N := 6) rfl ?_); refine Kd.R_lit (w0 := w) Kd.string w.heap.size 9 ?hg (N := 6) ?hd (xs := ([] : List ByteArray)) (inner := []) (ok := fun _ => True) (okp := fun _ => True) ?hr ?hp (fun _ hk => hk) trivial (Below.refl _ _) (Nat.le_refl _) (by simp) ?_; (case hd => rfl); (case hg => rfl); (case hr => first | (go_simp; done) | (go_simp; rfl)); (case hp => exact (Reps.none _ _)); intro v1 w1 ho hb hg_ hnew_; clear hg_ hnew_; have HO := Lib.hid ho; have HB := Lib.hid hb; clear ho hb))
  go_loopg [3, 9] l0.length (fun gg v3 v9 wr => ∃ n : Nat, Hid (n ≤ l0.length) ∧ Hid (l0.length - n ≤ gg) ∧ v9 = .int .i64 (n : Int) ∧ Hid (Kd.string.R 9 wr w.heap.size (fun _ => True) v3 ((l0.take n).map nimB)) ∧ Hid (Below w.heap.size w wr))
  case atStart => exact ⟨0, Lib.hid (Nat.zero_le _), Lib.hid (Nat.sub_le _ _), rfl, HO, HB⟩
  case round =>
    clear HO HB
    obtain ⟨n, hn, hg, rfl, HO, HB⟩ := hrel
    by_cases hlt : n < l0.length
    · obtain ⟨ad, e, hx⟩ := Kd.at_int HR.out (n : Int) (by omega) (by omega)
      subst e
      replace hx := (HB.out.cell (World.block_lt_of_cell? w _ hx)).trans hx
      rw [Int.toNat_natCast, rd_nat] at hx
      have hm : l0.getD n 0 ∈ l0 := by rw [List.getD_eq_getElem?_getD, List.getElem?_eq_getElem hlt]; exact List.getElem_mem hlt
      obtain ⟨x, ex⟩ : ∃ x, l0.getD n 0 = x := ⟨_, rfl⟩
      have HX : Hid (0 ≤ x ∧ x ≤ 65535) := Lib.hid (by rw [← ex]; exact HV.out _ hm)
      have TS : Hid ((l0.take (n + 1)).map nimB = (l0.take n).map nimB ++ [nimB x]) := Lib.hid (by rw [List.take_add_one, List.getElem?_eq_getElem hlt, List.map_append, ← ex]; simp [List.getD, hlt])
      have TL : Hid (((l0.take n).map nimB).length = n) := Lib.hid (by rw [List.length_map, List.length_take, Nat.min_eq_left (by omega)])
      rw [ex] at hx
      have hb0 : decide ((n : Int) < (l0.length : Int)) = true := decide_eq_true (by omega)
      have hb1 : (n : Int) < (l0.length : Int) := by omega
      have hi0 : (0 : Int) ≤ (n : Int) := by omega
      have hnb : n < 9223372036854775807 := by have := HL.out; omega
      have HC := Lib.hid (nimText_calls x HX.out.1 HX.out.2 wr (HT.out.on HB.out))
      obtain ⟨ys, ey⟩ : ∃ ys, (l0.take n).map nimB = ys := ⟨_, rfl⟩
      obtain ⟨s, es⟩ : ∃ s, nimB x = s := ⟨_, rfl⟩
      rw [ey] at HO TS TL
      rw [es] at HC TS
      have HN := Lib.hid hlt
      clear ey es ex hm hlt
      go_wp2_with (first
        | (go_at_call 36; refine HC.out.mono ?_; rintro e w2 ⟨rfl, hb⟩; have HB2 := Lib.hid (below_step HB.out hb); have HO2 := Lib.hid (Kd.R_below HO.out hb); clear hb)
        | ((with_reducible refine gate_builtin (b := .append) (xs := #[.tmp 13, .tmp 16]) rfl ?_); at_builtin; refine Kd.R_append Kd.string (w0 := w) w.heap.size rfl (.tmp 13) (.tmp 16) 48 9 (.string ⟨#[]⟩) 16 rfl Tryd.underlying48 infoS9 rfl (by decide) (by omega) u3 ys s [.string s] (fun _ => True) (fun _ => False) rfl rfl ?aP (fun _ hk => hk.elim) ?aF ?aO ?aB ?aS ?aL ?_; (case aP => exact rfl); (case aB => exact HB2.out); (case aF => exact (fun _ _ => trivial)); (case aO => exact HO2.out); (case aS => exact (Below.size HB2.out)); (case aL => have := TL.out; have := HN.out; have := HL.out; omega); intro v4 w4 ho hb hg2 hat; have HO4 := Lib.hid ho; have HB4 := Lib.hid hb; clear ho hb hg2 hat))
      go_roundg (l0.length - (n + 1))
      case measure => have := hg.out; have := HN.out; omega
      case rel => exact ⟨n + 1, Lib.hid HN.out, Lib.hid (Nat.le_refl _), rfl, Lib.hid (by rw [TS.out]; exact HO4.out), HB4⟩
    · have en : n = l0.length := by have := hn.out; omega
      subst en
      have hb0 : decide ((l0.length : Int) < (l0.length : Int)) = false := decide_eq_false (by omega)
      have hO := HO.out
      rw [List.take_length] at hO
      have e1 : (l0.map nimB).map (·.data.toList) = l0.map nimT := by simp [nimB]
      have hj := join_calls u3 (l0.map nimB) wr hO (by rw [List.length_map]; have := HL.out; omega) (by rw [e1]; have := listT_len l0 HV.out; unfold listT at this; have := HL.out; omega)
      rw [e1] at hj
      have HJ : Hid (Calls Tryd.prog 37 #[u3, .string ⟨#[32]⟩] wr fun e w' => e = .returned (.string (listB l0)) ∧ Below wr.heap.size wr w') := Lib.hid hj
      clear hj hO e1 HO hn hg hlt
      go_wp2_with (go_at_call 37; refine HJ.out.mono ?_; rintro e w2 ⟨rfl, hb⟩; have HB2 := Lib.hid (below_step HB.out hb); clear hb)
      go_ret
      exact ⟨rfl, HB2.out⟩
set_option maxHeartbeats 1000000 in
theorem wordText_calls (A0 : Option Addr) (c0 : Nat) (l0 : List Int) (w : World) (hr0 : Kd.C (Kd.int .u16) w A0 l0.length l0) (hl0 : l0.length ≤ 1048576) (hv : ∀ a ∈ l0, 0 ≤ a ∧ a ≤ 65535) (hT : P10 w) :
    Calls Tryd.prog 19 #[.slice A0 l0.length c0] w fun e w' => e = .returned (.string (listB l0)) ∧ Below w.heap.size w w' := by
  have HC := Lib.hid (nimsText_calls A0 c0 l0 w hr0 hl0 hv hT)
  clear hr0 hl0 hv hT
  go_enter Tryd.func19, Tryd.ntmps19
  go_wp2_with (go_at_call 29; refine HC.out.mono ?_; rintro e w2 ⟨rfl, hb⟩; have HB2 := Lib.hid hb; clear hb)
  go_ret
  exact ⟨rfl, HB2.out⟩

end Go.Proofs.YtcghgceihnfnhaaDoor.Given

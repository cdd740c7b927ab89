/- Texts read by the program: walked. -/
import Derived.Test.YtcghgceihnfnhaaDoorProg
import Derived.Below
import Derived.Deep.Draws
import Derived.Deep.AppendLies
import Derived.Maps.AppendAt
import Derived.OwnWalk
import Derived.Laws.BytesArg
import Derived.Laws.MakeOwn
import Derived.Laws.OwnMore
import Derived.Deep.OwnRows
import Derived.Tactics
import Derived.Lib.ConvBytes
import Derived.Laws.Slices
import Derived.WalkKit
import Derived.KernelRfl
import Derived.RowKit3
import Derived.Deep.LoopGhost
import Derived.Deep.QuietTactic
import Derived.BigQuiet
import Derived.WideLaws
import Derived.Deep.DeepCutAuto
import Derived.Deep.CutBlock
import Derived.Deep.RegionHeld3
import Derived.Laws.Rows
import Derived.Lib.AppendStr
import Derived.ArgAppend
import Derived.Laws.IdiomCopy
import Derived.OrdersHeld
import Derived.Laws.BitsLemmas
import Derived.RowKit
import Derived.Lib.Hide
import Derived.WalkSpells
import Derived.Test.YtcghgceihnfnhaaDoorWWords
import Derived.Test.YtcghgceihnfnhaaDoorWLast
import Derived.Test.YtcghgceihnfnhaaDoorWTab
import Derived.Test.YtcghgceihnfnhaaDoorWFour
import Derived.Test.YtcghgceihnfnhaaDoorWQPut
import Derived.Test.YtcghgceihnfnhaaDoorWApart
import Derived.Test.YtcghgceihnfnhaaDoorWArr
import Derived.Test.YtcghgceihnfnhaaDoorWZeros
import Derived.Test.YtcghgceihnfnhaaDoorWFoot
import Derived.Test.YtcghgceihnfnhaaDoorWKept
import Derived.Test.YtcghgceihnfnhaaDoorWShare
import Derived.Test.YtcghgceihnfnhaaDoorWN
import Derived.Test.YtcghgceihnfnhaaDoorWFootNe
import Derived.Test.YtcghgceihnfnhaaDoorWAt
import Derived.Test.YtcghgceihnfnhaaDoorWEqStruct
import Derived.Test.YtcghgceihnfnhaaDoorWRepsOne
import Derived.Test.YtcghgceihnfnhaaDoorWInv
import Derived.Test.YtcghgceihnfnhaaDoorWInvWords
import Derived.Test.YtcghgceihnfnhaaDoorWGuard
import Derived.Test.YtcghgceihnfnhaaDoorWNEv
import Derived.Test.YtcghgceihnfnhaaDoorWMore
import Derived.Test.YtcghgceihnfnhaaDoorN1
import Derived.Test.YtcghgceihnfnhaaDoorRP
import Derived.Lib.SmallJoins
namespace Go.Proofs.YtcghgceihnfnhaaDoor.Given
open Go.RowKit Go.Proofs.YtcghgceihnfnhaaDoorW.PrintWords Go.Proofs.YtcghgceihnfnhaaDoorW.PrintLast Go.Proofs.YtcghgceihnfnhaaDoorW.PrintMore Go.Proofs.YtcghgceihnfnhaaDoor.NimF Go.Proofs.YtcghgceihnfnhaaDoor.NimGo
set_option linter.unusedVariables false
set_option linter.unusedSimpArgs false
/-- no more numbers than a polynomial may have, the last of them not 0 -/
def vpol (l : List Int) : Bool := l.length == 0 || (decide (l.length ≤ 21) && l.getD (l.length - 1) 0 != 0)
set_option maxHeartbeats 1000000 in
theorem vp_calls (A0 : Option Addr) (c0 : Nat) (l0 : List Int) (r : Bool) (w : World) (hr0 : Kd.C (Kd.int .u16) w A0 l0.length l0) (hh : vpol l0 = r) :
    Calls Tryd.prog 27 #[.slice A0 l0.length c0] w fun e w' => e = .returned (.bool r) ∧ w' = w := by
  unfold vpol at hh
  by_cases h21 : l0.length ≤ 21
  · by_cases h0 : l0.length = 0
    · have e : r = true := by rw [← hh, h0]; rfl
      subst e
      have g1 : (l0.length : Int) ≤ 21 := by omega
      have g0 : (l0.length : Int) = 0 := by omega
      have HX := Lib.hid h0
      clear hh hr0 h21 h0
      rw [HX.out] at g0 g1 ⊢
      go_enter Tryd.func27, Tryd.ntmps27
      go_wp2
      go_ret
      exact ⟨rfl, rfl⟩
    · obtain ⟨m, hm⟩ : ∃ m, l0.length = m + 1 := ⟨l0.length - 1, by omega⟩
      obtain ⟨ad, e, hx⟩ := Kd.at_int hr0 (m : Int) (by omega) (by omega)
      subst e
      rw [rd_nat, Int.toNat_natCast] at hx
      have e1 : (l0.length == 0) = false := beq_eq_false_iff_ne.mpr h0
      have e2 : l0.length - 1 = m := by omega
      rw [e1, decide_eq_true h21, e2] at hh
      obtain ⟨x, ex⟩ : ∃ x : Int, l0.getD m 0 = x := ⟨_, rfl⟩
      rw [ex] at hx hh
      rw [hm]
      have hnb : m < 9223372036854775807 := by omega
      have g1 : (m : Int) + 1 ≤ 21 := by omega
      have g2 : m + 1 ≤ 21 := by omega
      have HH : Hid ((x != 0) = r) := Lib.hid (by rw [← hh]; rfl)
      clear hh ex e1 e2 h0 h21 hr0 hm
      by_cases hz : x = 0
      · have hr : r = false := by rw [← HH.out, hz]; rfl
        subst hr hz
        go_enter Tryd.func27, Tryd.ntmps27
        go_wp2
        go_ret
        exact ⟨rfl, rfl⟩
      · have hr : r = true := by rw [← HH.out]; exact bne_iff_ne.mpr hz
        subst hr
        have hb : (x != 0) = true := bne_iff_ne.mpr hz
        have hb2 : (x == 0) = false := beq_eq_false_iff_ne.mpr hz
        go_enter Tryd.func27, Tryd.ntmps27
        go_wp2
        go_ret
        exact ⟨rfl, rfl⟩
  · have e : r = false := by
      have h0 : (l0.length == 0) = false := beq_eq_false_iff_ne.mpr (by omega)
      rw [← hh, h0, decide_eq_false h21]; rfl
    subst e
    have g1 : ¬ ((l0.length : Int) ≤ 21) := by omega
    have g2 : 21 < (l0.length : Int) := by omega
    clear hh h21 hr0
    go_enter Tryd.func27, Tryd.ntmps27
    go_wp2
    go_ret
    exact ⟨rfl, rfl⟩

/-- what reading wants of the world: the library's tables and its two errors lie there -/
def RT (w : World) : Prop := P10 w ∧ (∃ tp p, w.var? Tryd.prog "strconv.ErrSyntax" = some #[.iface tp p]) ∧ (∃ tp p, w.var? Tryd.prog "strconv.ErrRange" = some #[.iface tp p]) ∧ (∃ m, w.cell? ⟨0, 0, none⟩ = some (.int .i64 m))
theorem RT.on {w w' : World} (h : RT w) (hb : Below w.heap.size w w') : RT w' := by
  obtain ⟨h1, ⟨t2, p2, h2⟩, ⟨t3, p3, h3⟩, ⟨m, h4⟩⟩ := h
  exact ⟨h1.on hb, ⟨t2, p2, Go.Joins.var_stays (show Tryd.prog.globalNamed "strconv.ErrSyntax" = some 3 by kernel_rfl) h2 hb (Nat.le_refl _)⟩,
    ⟨t3, p3, Go.Joins.var_stays (show Tryd.prog.globalNamed "strconv.ErrRange" = some 4 by kernel_rfl) h3 hb (Nat.le_refl _)⟩, ⟨m, (hb.cell (World.block_lt_of_cell? w _ h4)).trans h4⟩⟩
set_option maxHeartbeats 1000000 in
theorem within_calls (n lo hi : Int) (r : Bool) (w : World) (h : (decide (lo ≤ n) && decide (n ≤ hi)) = r) : Calls Tryd.prog 52 #[.int .i64 n, .int .i64 lo, .int .i64 hi] w fun e w' => e = .returned (.bool r) ∧ w' = w := by
  by_cases h1 : lo ≤ n
  · rw [decide_eq_true h1, Bool.true_and] at h
    by_cases h2 : n ≤ hi
    · rw [decide_eq_true h2] at h
      subst h
      go_enter Tryd.func52, Tryd.ntmps52
      go_wp2
      go_ret
      exact ⟨rfl, rfl⟩
    · rw [decide_eq_false h2] at h
      subst h
      have h3 : hi < n := by omega
      have h4 : decide (n ≤ hi) = false := decide_eq_false h2
      clear h2
      go_enter Tryd.func52, Tryd.ntmps52
      go_wp2
      go_ret
      exact ⟨rfl, rfl⟩
  · rw [decide_eq_false h1, Bool.false_and] at h
    subst h
    have h3 : n < lo := by omega
    clear h1
    go_enter Tryd.func52, Tryd.ntmps52
    go_wp2
    go_ret
    exact ⟨rfl, rfl⟩
/-- a text that is no number, or one out of range: an error that is not nil -/
theorem parse_bad (s : ByteArray) (hs : s.size ≤ 281474976710656) (h : ∀ v, Lib.parseIntB 64 s.data.toList ≠ .ok v) (w : World) (hT : RT w) :
    Calls Tryd.prog 51 #[.string s, .int .i64 10, .int .i64 64] w fun e w' => ∃ (x : Int) (N : Nat), e = .returned (.tuple #[.int .i64 x, .iface 96 (.pointer (some ⟨N, 0, none⟩))]) ∧ Below w.heap.size w w' := by
  obtain ⟨tS, pS, hS⟩ := hT.2.1
  obtain ⟨tR, pR, hR⟩ := hT.2.2.1
  cases hp : Lib.parseIntB 64 s.data.toList with
  | ok v => exact absurd hp (h v)
  | range =>
    have hc : Calls Tryd.prog 51 #[.string s, .int .i64 10, .int .i64 64] w _ := Any.strconv_ParseInt_10_at64_range_var Tryd.laysC174 s hs hp tR pR w hR
    exact hc.mono fun e w' ⟨N, he, _, _, hb⟩ => ⟨_, N, he, hb⟩
  | _ =>
    have hc : Calls Tryd.prog 51 #[.string s, .int .i64 10, .int .i64 64] w _ := Any.strconv_ParseInt_10_at64_syntax_var Tryd.laysC174 s hs hp tS pS w hS
    exact hc.mono fun e w' ⟨N, he, _, _, hb⟩ => ⟨_, N, he, hb⟩
set_option maxHeartbeats 2000000 in
set_option maxRecDepth 100000 in
theorem number_calls (s : ByteArray) (hs : s.size ≤ 281474976710656) (w : World) (hT : RT w) :
    Calls Tryd.prog 40 #[.string s, .int .i64 65535] w fun e w' => e = .returned (.int .i64 (numI s.data.toList)) ∧ Below w.heap.size w w' := by
  obtain ⟨tS, pS, hS⟩ := hT.2.1
  obtain ⟨tR, pR, hR⟩ := hT.2.2.1
  have HT := Lib.hid hT
  cases hp : Lib.parseIntB 64 s.data.toList with
  | ok v =>
    have hc : Calls Tryd.prog 51 #[.string s, .int .i64 10, .int .i64 64] w fun e w' => e = .returned (.tuple #[.int .i64 v, .nilIface]) ∧ Below w.heap.size w w' :=
      (Tryd.strconv_ParseInt_10_at64_ok s (by omega) v hp w).mono fun e w' ⟨he, hw⟩ => ⟨he, by
        rcases hw with rfl | ⟨t, rfl⟩
        · exact Below.refl _ _
        · exact Lib.bytesWorld_below _ _ _⟩
    have HC := Lib.hid hc
    by_cases hv : 0 ≤ v ∧ v ≤ 65535
    · have HW := fun w => Lib.hid (within_calls v 0 65535 true w (by rw [decide_eq_true hv.1, decide_eq_true hv.2]; rfl))
      have HD := fun w h => Lib.hid (dec_calls v hv.1 hv.2 w h)
      obtain ⟨d, ed⟩ : ∃ d : ByteArray, (⟨(Lib.itoa v).toArray⟩ : ByteArray) = d := ⟨_, rfl⟩
      rw [ed] at HD
      by_cases es : d = s
      · have HI : Hid (numI s.data.toList = v) := Lib.hid (numI_ok hv.1 hv.2 (by rw [← es, ← ed]))
        subst es
        clear hp hc hs hv ed hT hS hR
        go_enter Tryd.func40, Tryd.ntmps40
        go_wp2_with (first
          | (go_at_call 51; refine HC.out.mono ?_; rintro e w1 ⟨rfl, hb⟩; have HB := Lib.hid hb; clear hb)
          | (go_at_call 52; refine (HW _).out.mono ?_; rintro e w2 ⟨rfl, hw_⟩; have hw2_ := hw_.symm; clear hw_; subst hw2_)
          | (go_at_call 43; refine (HD _ (HT.out.1.on HB.out)).out.mono ?_; rintro e w3 ⟨rfl, hb⟩; have HB3 := Lib.hid (below_step HB.out hb); clear hb))
        go_ret
        exact ⟨by rw [HI.out]; rfl, HB3.out⟩
      · have HI : Hid (numI s.data.toList = -1) := Lib.hid (numI_no (fun n hn h1 h2 => es (by
          rw [hp] at h1
          have e1 : v = (n : Int) := by injection h1
          rw [← ed, e1]
          apply ByteArray.ext
          simpa using congrArg List.toArray h2)))
        have hne : (d.toList == s.toList) = false := beq_eq_false_iff_ne.mpr (fun h => es (by rw [ByteArray.toList_eq, ByteArray.toList_eq] at h; exact Go.WideShapes.bytes_inj h))
        clear hp hc hs hv ed hT hS hR es
        go_enter Tryd.func40, Tryd.ntmps40
        go_wp2_with (first
          | (go_at_call 51; refine HC.out.mono ?_; rintro e w1 ⟨rfl, hb⟩; have HB := Lib.hid hb; clear hb)
          | (go_at_call 52; refine (HW _).out.mono ?_; rintro e w2 ⟨rfl, hw_⟩; have hw2_ := hw_.symm; clear hw_; subst hw2_)
          | (go_at_call 43; refine (HD _ (HT.out.1.on HB.out)).out.mono ?_; rintro e w3 ⟨rfl, hb⟩; have HB3 := Lib.hid (below_step HB.out hb); clear hb))
        go_ret
        exact ⟨by rw [HI.out]; rfl, HB3.out⟩
    · have HW := fun w => Lib.hid (within_calls v 0 65535 false w (by
        by_cases h0 : 0 ≤ v
        · have : ¬ v ≤ 65535 := fun h => hv ⟨h0, h⟩
          rw [decide_eq_false this, Bool.and_false]
        · rw [decide_eq_false h0, Bool.false_and]))
      have HI : Hid (numI s.data.toList = -1) := Lib.hid (numI_no (fun n hn h1 h2 => hv (by
          rw [hp] at h1
          have e1 : v = (n : Int) := by injection h1
          omega)))
      clear hp hc hs hv hT hS hR
      go_enter Tryd.func40, Tryd.ntmps40
      go_wp2_with (first
          | (go_at_call 51; refine HC.out.mono ?_; rintro e w1 ⟨rfl, hb⟩; have HB := Lib.hid hb; clear hb)
          | (go_at_call 52; refine (HW _).out.mono ?_; rintro e w2 ⟨rfl, hw_⟩; have hw2_ := hw_.symm; clear hw_; subst hw2_))
      go_ret
      exact ⟨by rw [HI.out]; rfl, HB.out⟩
  | _ =>
    have HI : Hid (numI s.data.toList = -1) := Lib.hid (numI_no (fun n hn h1 h2 => by rw [hp] at h1; cases h1))
    have HC := Lib.hid (parse_bad s hs (fun v => by rw [hp]; simp) w hT)
    clear hp hs hT hS hR
    go_enter Tryd.func40, Tryd.ntmps40
    go_wp2_with (go_at_call 51; refine HC.out.mono ?_; rintro e w1 ⟨x, N, rfl, hb⟩; have HB := Lib.hid hb; clear hb)
    go_ret
    exact ⟨by rw [HI.out]; rfl, HB.out⟩
theorem bsz (b : ByteArray) : b.data.toList.length = b.size := by rw [Array.length_toList]; rfl
theorem hasPrefix_star (t : List UInt8) : Lib.hasPrefix t [42] = decide (t.headD 0 = 42) := by
  cases t with
  | nil => rfl
  | cons c r =>
    show (((42 : UInt8) == c) && true) = decide (c = 42)
    by_cases h : c = 42
    · rw [h]; rfl
    · rw [decide_eq_false h, Bool.and_true, beq_eq_false_iff_ne]; exact fun e => h e.symm
theorem trimPrefix_star (t : List UInt8) (h : t.headD 0 = 42) : Lib.trimPrefix t [42] = t.tail := by
  unfold Lib.trimPrefix
  rw [hasPrefix_star, decide_eq_true h, if_pos rfl]
  cases t <;> rfl
/-- what is read: the number and the code -/
def rN (t : List UInt8) : Int × Int := match readN t with | some n => ((n : Int), 0) | none => (0, 5)
set_option maxHeartbeats 2000000 in
set_option maxRecDepth 100000 in
theorem readNim_calls (s : ByteArray) (hs : s.size ≤ 281474976710656) (w : World) (hT : RT w) :
    Calls Tryd.prog 32 #[.string s] w fun e w' => e = .returned (.tuple #[.int .u16 (rN s.data.toList).1, .int .i64 (rN s.data.toList).2]) ∧ Below w.heap.size w w' := by
  have hcp := Tryd.strings_CutPrefix s ⟨#[42]⟩ w
  rw [show (⟨#[42]⟩ : ByteArray).data.toList = [42] from rfl, hasPrefix_star] at hcp
  by_cases h : s.data.toList.headD 0 = 42
  · rw [decide_eq_true h, trimPrefix_star _ h] at hcp
    have hrl : s.data.toList.tail.length ≤ s.size := by rw [List.length_tail, bsz]; omega
    have hn := fun w hT => number_calls (⟨s.data.toList.tail.toArray⟩ : ByteArray) (by show s.data.toList.tail.toArray.size ≤ _; rw [List.size_toArray]; omega) w hT
    simp only [] at hn
    have er : readN s.data.toList = numL s.data.toList.tail := by unfold readN; rw [if_pos h]
    have HC := Lib.hid hcp
    have HT := Lib.hid hT
    cases hq : numL s.data.toList.tail with
    | some n =>
      have e1 : numI s.data.toList.tail = (n : Int) := by unfold numI; rw [hq]
      have e2 : rN s.data.toList = ((n : Int), 0) := by unfold rN; rw [er, hq]
      have hn1 := (numL_some.1 hq).1
      rw [e1] at hn
      have HN := fun w hT => Lib.hid (hn w hT)
      have HE := Lib.hid e2
      rw [e2]
      have g0 : (0 : Int) ≤ (n : Int) := by omega
      have g1 : decide ((n : Int) < 0) = false := decide_eq_false (by omega)
      have g2 : (n : Int) ≤ 65535 := by omega
      obtain ⟨q, hq2⟩ : ∃ q : ByteArray, (⟨s.data.toList.tail.toArray⟩ : ByteArray) = q := ⟨_, rfl⟩
      rw [hq2] at HC HN
      clear hcp hn er hq e1 e2 h hs hrl hT hq2
      go_enter Tryd.func32, Tryd.ntmps32
      go_wp2_with (first
        | (go_at_call 39; refine HC.out.mono ?_; rintro e w1 ⟨rfl, hw_⟩; have hw2_ := hw_.symm; clear hw_; subst hw2_)
        | (go_at_call 40; refine (HN _ HT.out).out.mono ?_; rintro e w1 ⟨rfl, hb⟩; have HB := Lib.hid hb; clear hb))
      go_ret2
      exact ⟨by first | rfl | (simp; done), HB.out⟩
    | none =>
      have e1 : numI s.data.toList.tail = -1 := by unfold numI; rw [hq]
      have e2 : rN s.data.toList = (0, 5) := by unfold rN; rw [er, hq]
      rw [e1] at hn
      have HN := fun w hT => Lib.hid (hn w hT)
      rw [e2]
      obtain ⟨q, hq2⟩ : ∃ q : ByteArray, (⟨s.data.toList.tail.toArray⟩ : ByteArray) = q := ⟨_, rfl⟩
      rw [hq2] at HC HN
      clear hcp hn er hq e1 e2 h hs hrl hT hq2
      go_enter Tryd.func32, Tryd.ntmps32
      go_wp2_with (first
        | (go_at_call 39; refine HC.out.mono ?_; rintro e w1 ⟨rfl, hw_⟩; have hw2_ := hw_.symm; clear hw_; subst hw2_)
        | (go_at_call 40; refine (HN _ HT.out).out.mono ?_; rintro e w1 ⟨rfl, hb⟩; have HB := Lib.hid hb; clear hb))
      go_ret2
      exact ⟨rfl, HB.out⟩
  · have e1 : Lib.trimPrefix s.data.toList [42] = s.data.toList := by unfold Lib.trimPrefix; rw [hasPrefix_star, decide_eq_false h]; rfl
    have e2 : rN s.data.toList = (0, 5) := by unfold rN readN; rw [if_neg h]
    have e3 : (⟨s.data.toList.toArray⟩ : ByteArray) = s := by apply ByteArray.ext; simp
    rw [decide_eq_false h, e1, e3] at hcp
    have HN := fun w hT => Lib.hid (number_calls s hs w hT)
    have HC := Lib.hid hcp
    have HT := Lib.hid hT
    rw [e2]
    obtain ⟨v, hv⟩ : ∃ v, numI s.data.toList = v := ⟨_, rfl⟩
    rw [hv] at HN
    clear hcp e1 e2 e3 h hs hT hv
    go_enter Tryd.func32, Tryd.ntmps32
    go_wp2_with (first
      | (go_at_call 39; refine HC.out.mono ?_; rintro e w1 ⟨rfl, hw_⟩; have hw2_ := hw_.symm; clear hw_; subst hw2_)
      | (go_at_call 40; refine (HN _ HT.out).out.mono ?_; rintro e w1 ⟨rfl, hb⟩; have HB := Lib.hid hb; clear hb))
    go_ret2
    exact ⟨rfl, HB.out⟩
/-- strings.Split at a blank -/
theorem split_calls (s : ByteArray) (hs : s.size ≤ 1048576) (w : World) (hT : RT w) :
    Calls Tryd.prog 31 #[.string s, .string ⟨#[32]⟩] w fun e w' => ∃ (g c : Nat) (ws : List ByteArray), e = .returned (.slice (some ⟨g, 0, none⟩) ws.length c) ∧ ws.map (·.data.toList) = splitC 32 s.data.toList ∧ w'.heap[g]? = some (.cells (ws.map Value.string).toArray 9 (0, 0)) ∧ ws.length ≤ 1048577 ∧ (∀ x ∈ ws, x.size ≤ 1048576) ∧ Below w.heap.size w w' := by
  obtain ⟨m, hm⟩ := hT.2.2.2
  refine (Tryd.strings_Split s ⟨#[32]⟩ m w (by omega) hm (by decide)).mono fun e w' ⟨he, hw⟩ => ?_
  obtain ⟨ws, hws⟩ : ∃ ws, Lib.splitB ⟨#[32]⟩ 0 (Lib.countB s ⟨#[32]⟩) s = ws := ⟨_, rfl⟩
  have hl : ws.length = Lib.countB s ⟨#[32]⟩ + 1 := by rw [← hws]; exact Lib.splitB_all _ (by decide) _ _ _ rfl
  have hd : ws.map (·.data.toList) = splitC 32 s.data.toList := by
    rw [← hws, Lib.splitB_data, ← split_eq]
    show Lib.splitK [32] 0 (Lib.count s.data.toList [32]) _ = _
    rw [Lib.count_one]
  have hle : Lib.countB s ⟨#[32]⟩ ≤ s.size := Lib.countB_le _ (by decide) _ _ (Nat.le_refl _)
  have hin : ∀ x ∈ ws, x.size ≤ 1048576 := by
    intro x hx
    have h1 : x.data.toList ∈ splitC 32 s.data.toList := by rw [← hd]; exact List.mem_map.2 ⟨x, hx, rfl⟩
    have h2 := splitC_len 32 _ _ h1
    rw [bsz, bsz] at h2
    omega
  rw [hws] at hw
  refine ⟨w.heap.size, Lib.countB s ⟨#[32]⟩ + 1, ws, by rw [hl]; exact he, hd, ?_, by omega, hin, by rw [hw]; exact (Below.refl _ _).alloc (Nat.le_refl _) _⟩
  rw [hw]
  show (w.heap.push _)[w.heap.size]? = _
  simp
/-- a block of strings is read -/
theorem C_strs {w : World} {g : Nat} {ws : List ByteArray} (h : w.heap[g]? = some (.cells (ws.map Value.string).toArray 9 (0, 0))) (hl : ws.length ≤ 1048577) : Kd.string.C w (some ⟨g, 0, none⟩) ws.length ws := by
  refine Kd.C_of_reads (d := ByteArray.empty) ⟨rfl, by omega, fun _ => ⟨_, rfl, fun j hj => ?_⟩⟩
  have e : (⟨g, 0, none⟩ : Addr).add j = ⟨g, j, none⟩ := by simp only [Addr.add, Nat.zero_add]; split <;> simp_all
  rw [e, Go.Joins.cell_of_block h]
  simp [List.getElem?_eq_getElem hj, List.getD]
theorem lt_of_heap {w : World} {g : Nat} {o : Obj} (h : w.heap[g]? = some o) : g < w.heap.size := by
  rcases Nat.lt_or_ge g w.heap.size with h' | h'
  · exact h'
  · rw [Array.getElem?_eq_none h'] at h; cases h
/-- what is read: the list and the code -/
def toRL : Option (List Int) → List Int × Int | some l => (l, 0) | none => ([], 5)
def rL (t : List UInt8) : List Int × Int := toRL (readL t)

theorem infoG43 : (Tryd.prog.info? 43).map (fun i => (i.zero, i.size, i.bytes)) = some (some (.int .u16 0), 1, 2) := by kernel_rfl
set_option maxHeartbeats 4000000 in
set_option maxRecDepth 100000 in
theorem readNims_calls (s : ByteArray) (hs : s.size ≤ 1048576) (w : World) (hT : RT w) :
    Calls Tryd.prog 24 #[.string s] w fun e w' => ∃ v0_ : Value, e = .returned (.tuple #[v0_, .int .i64 (rL s.data.toList).2]) ∧ Kd.R (Kd.int .u16) 43 w' w.heap.size (fun _ => True) v0_ (rL s.data.toList).1 ∧ Below w.heap.size w w' := by
  by_cases h0 : s.data.toList = []
  · have es : s = ⟨#[]⟩ := Go.WideShapes.bytes_inj (by rw [h0])
    have e1 : rL s.data.toList = ([], 0) := by unfold rL readL; rw [if_pos h0]; rfl
    rw [e1]
    subst es
    clear h0 e1 hT hs
    go_enter Tryd.func24, Tryd.ntmps24
    go_wp2_with (first | ((with_reducible refine gate_dst (N := 9) rfl ?_); refine Kd.R_lit (w0 := w) (Kd.int .u16) w.heap.size 43 ?hg (N := 9) ?hd (xs := ([] : List Int)) (inner := []) (ok := fun _ => True) (okp := fun _ => True) ?hr ?hp (fun _ hk => hk) trivial (Below.refl _ _) (Nat.le_refl _) (by simp) ?_; (case hd => rfl); (case hg => rfl); (case hr => first | (go_simp; done) | (go_simp; rfl)); (case hp => exact (Reps.none _ _)); intro v1 w1 ho hb hg_ hnew_; clear hg_ hnew_; have HO := Lib.hid ho; have HB := Lib.hid hb; clear ho hb))
    go_ret2
    exact ⟨_, rfl, HO.out, HB.out⟩
  · obtain ⟨R0, hR0⟩ : ∃ R0, readAcc [] (splitC 32 s.data.toList) = R0 := ⟨_, rfl⟩
    have e1 : rL s.data.toList = toRL R0 := by unfold rL readL; rw [if_neg h0, hR0]
    have HR0 := Lib.hid hR0
    obtain ⟨X, hX⟩ : ∃ X, rL s.data.toList = X := ⟨_, rfl⟩
    have HX : Hid (X = toRL R0) := Lib.hid (by rw [← hX]; exact e1)
    rw [hX]
    have HT := Lib.hid hT
    have HSP := fun w hT => Lib.hid (split_calls s hs w hT)
    have hne : s.toList ≠ [] := by rw [ByteArray.toList_eq]; exact h0
    have hne2 : s.toList.isEmpty = false := by
      cases hq : s.toList with
      | nil => exact absurd hq hne
      | cons _ _ => rfl
    have HNE := Lib.hid hne
    clear hR0 hT hX e1 h0 hne
    go_enter Tryd.func24, Tryd.ntmps24
    go_wp2_with (first
      | ((with_reducible refine gate_dst (N := 9) rfl ?_); refine Kd.R_lit (w0 := w) (Kd.int .u16) w.heap.size 43 ?hg (N := 9) ?hd (xs := ([] : List Int)) (inner := []) (ok := fun _ => True) (okp := fun _ => True) ?hr ?hp (fun _ hk => hk) trivial (Below.refl _ _) (Nat.le_refl _) (by simp) ?_; (case hd => rfl); (case hg => rfl); (case hr => first | (go_simp; done) | (go_simp; rfl)); (case hp => exact (Reps.none _ _)); intro v1 w1 ho hb hg_ hnew_; clear hg_ hnew_; have HO := Lib.hid ho; have HB := Lib.hid hb; clear ho hb)
      | (go_at_call 31; refine (HSP _ (HT.out.on HB.out)).out.mono ?_; rintro e w2 ⟨g, c, ws, rfl, hws, hcs, hwl, hwz, hb⟩; have HWS := Lib.hid hws; have HCS := Lib.hid hcs; have HWL := Lib.hid hwl; have HWZ := Lib.hid hwz; have HB2 := Lib.hid (below_step HB.out hb); have HO2 := Lib.hid (Kd.R_below HO.out hb); have HBW := Lib.hid (Below.refl w2.heap.size w2); clear hws hcs hwl hwz hb))
    go_loopg [4, 16] ws.length (fun gg v4 v16 wr => ∃ (n : Nat) (acc : List Int), Hid (n ≤ ws.length) ∧ Hid (ws.length - n ≤ gg) ∧ v16 = .int .i64 (n : Int) ∧ Hid (acc.length = n) ∧ Hid (readAcc acc ((ws.drop n).map (·.data.toList)) = R0) ∧ Hid (Kd.R (Kd.int .u16) 43 wr w.heap.size (fun _ => True) v4 acc) ∧ Hid (Below w.heap.size w wr) ∧ Hid (wr.heap[g]? = some (.cells (ws.map Value.string).toArray 9 (0, 0))))
    case atStart => exact ⟨0, [], Lib.hid (Nat.zero_le _), Lib.hid (Nat.sub_le _ _), rfl, Lib.hid rfl, Lib.hid (by rw [List.drop_zero, HWS.out]; exact HR0.out), HO2, HB2, HCS⟩
    case round =>
      clear HO HB HO2 HB2 HCS HBW
      obtain ⟨n, acc, hn, hg, rfl, HA, HRA, HO, HB, HCS⟩ := hrel
      by_cases hlt : n < ws.length
      · have hx : wr.cell? ⟨g, n, none⟩ = some (.string ws[n]) := by rw [Go.Joins.cell_of_block HCS.out]; simp [List.getElem?_eq_getElem hlt]
        have hm : ws[n] ∈ ws := List.getElem_mem hlt
        obtain ⟨x, ex⟩ : ∃ x, ws[n] = x := ⟨_, rfl⟩
        have TS : Hid ((ws.drop n).map (·.data.toList) = x.data.toList :: (ws.drop (n + 1)).map (·.data.toList)) := Lib.hid (by rw [List.drop_eq_getElem_cons hlt, List.map_cons, ex])
        have HZ : Hid (x.size ≤ 281474976710656) := Lib.hid (by have := HWZ.out _ hm; rw [ex] at this; omega)
        rw [ex] at hx
        have hb0 : decide ((n : Int) < (ws.length : Int)) = true := decide_eq_true (by omega)
        have hb1 : (n : Int) < (ws.length : Int) := by omega
        have hi0 : (0 : Int) ≤ (n : Int) := by omega
        have hnb : n < 9223372036854775807 := by have := HWL.out; omega
        have HN := Lib.hid hlt
        have HC0 := readNim_calls x HZ.out wr (HT.out.on HB.out)
        cases hq : readN x.data.toList with
        | some m =>
          have e2 : rN x.data.toList = ((m : Int), 0) := by unfold rN; rw [hq]
          have TR : Hid (readAcc (acc ++ [(m : Int)]) ((ws.drop (n + 1)).map (·.data.toList)) = R0) := Lib.hid (by have := HRA.out; rw [TS.out, readAcc, hq] at this; exact this)
          rw [e2] at HC0
          have HC := Lib.hid HC0
          obtain ⟨y, ey⟩ : ∃ y : Int, (m : Int) = y := ⟨_, rfl⟩
          simp only [ey] at HC TR
          clear HC0 e2 hq ex hm hlt HRA hn ey
          go_wp2_with (first
            | (go_at_call 32; refine HC.out.mono ?_; rintro e w3 ⟨rfl, hb⟩; have HB3 := Lib.hid (below_step HB.out hb); have HO3 := Lib.hid (Kd.R_below HO.out hb); have HCS3 := Lib.hid ((hb.block _ (lt_of_heap HCS.out)).trans HCS.out); clear hb)
            | ((with_reducible refine gate_builtin (b := .append) (xs := #[.tmp 28, .tmp 30]) rfl ?_); at_builtin; refine Kd.R_append (Kd.int .u16) (w0 := w) w.heap.size rfl (.tmp 28) (.tmp 30) 22 43 (.int .u16 0) 2 rfl Tryd.underlying22 infoG43 rfl (by decide) (by omega) u4 acc y [.int .u16 y] (fun _ => True) (fun _ => False) rfl rfl ?aP (fun _ hk => hk.elim) ?aF ?aO ?aB ?aS ?aL ?_; (case aP => exact rfl); (case aB => exact HB3.out); (case aF => exact (fun _ _ => trivial)); (case aO => exact HO3.out); (case aS => exact (Below.size HB3.out)); (case aL => have := HA.out; have := HN.out; have := HWL.out; omega); intro v4 w4 ho hb hg2 hat; have HO4 := Lib.hid ho; have HB4 := Lib.hid hb; have HCS4 := Lib.hid ((hg2.block _ (lt_of_heap HCS3.out) (Kd.R_ne HO3.out HCS3.out (by decide))).trans HCS3.out); clear ho hb hg2 hat))
          go_roundg (ws.length - (n + 1))
          case measure => have := hg.out; have := HN.out; omega
          case rel => exact ⟨n + 1, acc ++ [y], Lib.hid HN.out, Lib.hid (Nat.le_refl _), rfl, Lib.hid (by rw [List.length_append, HA.out]; rfl), TR, HO4, HB4, HCS4⟩
        | none =>
          have e2 : rN x.data.toList = (0, 5) := by unfold rN; rw [hq]
          have TR : Hid (R0 = none) := Lib.hid (by have := HRA.out; rw [TS.out, readAcc, hq] at this; exact this.symm)
          have HX2 : Hid (X = ([], 5)) := Lib.hid (by have := HX.out; rw [TR.out] at this; exact this)
          rw [e2] at HC0
          have HC := Lib.hid HC0
          clear HC0 e2 hq ex hm hlt HRA hn
          go_wp2_with (first
            | (go_at_call 32; refine HC.out.mono ?_; rintro e w3 ⟨rfl, hb⟩; have HB3 := Lib.hid (below_step HB.out hb); clear hb))
          go_ret2
          exact ⟨.slice none 0 0, by rw [HX2.out]; rfl, by rw [HX2.out]; exact Kd.R_nil _ _ _ _ _, HB3.out⟩
      · have en : n = ws.length := by have := hn.out; omega
        subst en
        have hb0 : decide ((ws.length : Int) < (ws.length : Int)) = false := decide_eq_false (by omega)
        have HX2 : Hid (X = (acc, 0)) := Lib.hid (by
          have h1 := HRA.out
          rw [List.drop_length] at h1
          have h2 := HX.out
          rw [← h1] at h2
          exact h2)
        clear HRA hn hg hlt
        go_wp2
        go_ret2
        exact ⟨_, by rw [HX2.out]; rfl, by rw [HX2.out]; exact HO.out, HB.out⟩

def impl_ReadWord.f (a0 : ByteArray) : Option (List Int × Int) := if a0.size ≤ 1048576 then some (rL a0.data.toList) else none
set_option maxHeartbeats 1000000 in
theorem readWord_calls (s : ByteArray) (hs : s.size ≤ 1048576) (w : World) (hT : RT w) :
    Calls Tryd.prog 8 #[.string s] w fun e w' => ∃ v0_ : Value, e = .returned (.tuple #[v0_, .int .i64 (rL s.data.toList).2]) ∧ Kd.R (Kd.int .u16) 43 w' w.heap.size (fun _ => True) v0_ (rL s.data.toList).1 ∧ Below w.heap.size w w' := by
  have HC := Lib.hid (readNims_calls s hs w hT)
  obtain ⟨X, hX⟩ : ∃ X, rL s.data.toList = X := ⟨_, rfl⟩
  rw [hX] at HC ⊢
  clear hs hT hX
  go_enter Tryd.func8, Tryd.ntmps8
  go_wp2_with (go_at_call 24; refine HC.out.mono ?_; rintro e w1 ⟨v, rfl, ho, hb⟩; have HB := Lib.hid hb; have HO := Lib.hid ho; clear hb ho)
  go_ret2
  exact ⟨_, rfl, HO.out, HB.out⟩
theorem impl_ReadWord.calls (a0 : ByteArray) (r1 : List Int) (r2 : Int) (w : World) (hT : RT w) (h : impl_ReadWord.f a0 = some (r1, r2)) :
    Calls Tryd.prog 8 #[.string a0] w fun e w' => ∃ v0_ : Value, e = .returned (.tuple #[v0_, .int .i64 r2]) ∧ Kd.R (Kd.int .u16) 43 w' w.heap.size (fun _ => True) v0_ r1 ∧ Below w.heap.size w w' := by
  unfold impl_ReadWord.f at h
  by_cases hs : a0.size ≤ 1048576
  · rw [if_pos hs] at h
    have e := Option.some.inj h
    have := readWord_calls a0 hs w hT
    rw [e] at this
    exact this
  · rw [if_neg hs] at h; cases h
/-- what is read: the polynomial and the code -/
def toPL : Option (List Int) → List Int × Int
  | some l => if l.length = 0 then ([], 5) else if vpol l = true then (l, 0) else ([], 5)
  | none => ([], 5)
def pL (t : List UInt8) : List Int × Int := if t = [48] then ([], 0) else toPL (readL t)
set_option maxHeartbeats 2000000 in
set_option maxRecDepth 100000 in
theorem readPoly_calls (s : ByteArray) (hs : s.size ≤ 1048576) (w : World) (hT : RT w) :
    Calls Tryd.prog 13 #[.string s] w fun e w' => ∃ v0_ : Value, e = .returned (.tuple #[v0_, .int .i64 (pL s.data.toList).2]) ∧ Kd.R (Kd.int .u16) 43 w' w.heap.size (fun _ => True) v0_ (pL s.data.toList).1 ∧ Below w.heap.size w w' := by
  by_cases h0 : s.data.toList = [48]
  · have es : s = ⟨#[48]⟩ := Go.WideShapes.bytes_inj (by rw [h0])
    have e1 : pL s.data.toList = ([], 0) := by unfold pL; rw [if_pos h0]
    rw [e1]
    subst es
    clear h0 e1 hT hs
    go_enter Tryd.func13, Tryd.ntmps13
    go_wp2_with (first | ((with_reducible refine gate_dst (N := 8) rfl ?_); refine Kd.R_lit (w0 := w) (Kd.int .u16) w.heap.size 43 ?hg (N := 8) ?hd (xs := ([] : List Int)) (inner := []) (ok := fun _ => True) (okp := fun _ => True) ?hr ?hp (fun _ hk => hk) trivial (Below.refl _ _) (Nat.le_refl _) (by simp) ?_; (case hd => rfl); (case hg => rfl); (case hr => first | (go_simp; done) | (go_simp; rfl)); (case hp => exact (Reps.none _ _)); intro v1 w1 ho hb hg_ hnew_; clear hg_ hnew_; have HO := Lib.hid ho; have HB := Lib.hid hb; clear ho hb))
    go_ret2
    exact ⟨_, rfl, HO.out, HB.out⟩
  · have hne : s.toList ≠ [48] := by rw [ByteArray.toList_eq]; exact h0
    have hne2 : (s.toList == [48]) = false := beq_eq_false_iff_ne.mpr hne
    have HNE := Lib.hid hne
    have hc := readNims_calls s hs w hT
    obtain ⟨R0, hR0⟩ : ∃ R0, readL s.data.toList = R0 := ⟨_, rfl⟩
    have e1 : pL s.data.toList = toPL R0 := by unfold pL; rw [if_neg h0, hR0]
    have e2 : rL s.data.toList = toRL R0 := by unfold rL; rw [hR0]
    rw [e1]
    rw [e2] at hc
    cases R0 with
    | none =>
      have HC := Lib.hid (show Calls Tryd.prog 24 #[.string s] w fun e w' => ∃ v0_ : Value, e = .returned (.tuple #[v0_, .int .i64 5]) ∧ Kd.R (Kd.int .u16) 43 w' w.heap.size (fun _ => True) v0_ [] ∧ Below w.heap.size w w' from hc)
      clear hc e1 e2 hR0 h0 hne hs hT
      show Calls Tryd.prog 13 #[.string s] w fun e w' => ∃ v0_ : Value, e = .returned (.tuple #[v0_, .int .i64 5]) ∧ Kd.R (Kd.int .u16) 43 w' w.heap.size (fun _ => True) v0_ [] ∧ Below w.heap.size w w'
      go_enter Tryd.func13, Tryd.ntmps13
      go_wp2_with (go_at_call 24; refine HC.out.mono ?_; rintro e w1 ⟨v, rfl, ho, hb⟩; obtain ⟨A, c, rfl⟩ := Kd.R_slice ho; have HB := Lib.hid hb; have HO := Lib.hid ho; clear hb ho)
      go_ret2
      exact ⟨.slice none 0 0, rfl, Kd.R_nil _ _ _ _ _, HB.out⟩
    | some l =>
      have HC := Lib.hid (show Calls Tryd.prog 24 #[.string s] w fun e w' => ∃ v0_ : Value, e = .returned (.tuple #[v0_, .int .i64 0]) ∧ Kd.R (Kd.int .u16) 43 w' w.heap.size (fun _ => True) v0_ l ∧ Below w.heap.size w w' from hc)
      clear hc e1 e2 hR0 h0 hne hs hT
      by_cases hl : l.length = 0
      · have e0 : l = [] := List.length_eq_zero_iff.1 hl
        subst e0
        show Calls Tryd.prog 13 #[.string s] w fun e w' => ∃ v0_ : Value, e = .returned (.tuple #[v0_, .int .i64 5]) ∧ Kd.R (Kd.int .u16) 43 w' w.heap.size (fun _ => True) v0_ [] ∧ Below w.heap.size w w'
        clear hl
        go_enter Tryd.func13, Tryd.ntmps13
        go_wp2_with (go_at_call 24; refine HC.out.mono ?_; rintro e w1 ⟨v, rfl, ho, hb⟩; obtain ⟨A, c, rfl⟩ := Kd.R_slice ho; have HB := Lib.hid hb; have HO := Lib.hid ho; clear hb ho)
        go_ret2
        exact ⟨.slice none 0 0, rfl, Kd.R_nil _ _ _ _ _, HB.out⟩
      · have g0 : ((l.length : Int) == 0) = false := beq_eq_false_iff_ne.mpr (by omega)
        have g1 : ¬ ((l.length : Int) = 0) := by omega
        obtain ⟨v, hv⟩ : ∃ v, vpol l = v := ⟨_, rfl⟩
        have HVP := fun A c w (h : Kd.C (Kd.int .u16) w A l.length l) => Lib.hid (vp_calls A c l v w h hv)
        cases v with
        | true =>
          have e3 : toPL (some l) = (l, 0) := by unfold toPL; simp only []; rw [if_neg hl, if_pos hv]
          rw [e3]
          clear hl hv e3
          go_enter Tryd.func13, Tryd.ntmps13
          go_wp2_with (first
            | (go_at_call 24; refine HC.out.mono ?_; rintro e w1 ⟨v, rfl, ho, hb⟩; obtain ⟨A, c, rfl⟩ := Kd.R_slice ho; have HB := Lib.hid hb; have HO := Lib.hid ho; clear hb ho)
            | (go_at_call 27; refine (HVP _ _ _ (Kd.R_reads' HO.out).2.2).out.mono ?_; rintro e w2 ⟨rfl, hw_⟩; have hw2_ := hw_.symm; clear hw_; subst hw2_))
          go_ret2
          exact ⟨_, rfl, HO.out, HB.out⟩
        | false =>
          have e3 : toPL (some l) = ([], 5) := by unfold toPL; simp only []; rw [if_neg hl, if_neg (by rw [hv]; simp)]
          rw [e3]
          clear hl hv e3
          go_enter Tryd.func13, Tryd.ntmps13
          go_wp2_with (first
            | (go_at_call 24; refine HC.out.mono ?_; rintro e w1 ⟨v, rfl, ho, hb⟩; obtain ⟨A, c, rfl⟩ := Kd.R_slice ho; have HB := Lib.hid hb; have HO := Lib.hid ho; clear hb ho)
            | (go_at_call 27; refine (HVP _ _ _ (Kd.R_reads' HO.out).2.2).out.mono ?_; rintro e w2 ⟨rfl, hw_⟩; have hw2_ := hw_.symm; clear hw_; subst hw2_))
          go_ret2
          exact ⟨.slice none 0 0, rfl, Kd.R_nil _ _ _ _ _, HB.out⟩
def impl_ReadPoly.f (a0 : ByteArray) : Option (List Int × Int) := if a0.size ≤ 1048576 then some (pL a0.data.toList) else none
theorem impl_ReadPoly.calls (a0 : ByteArray) (r1 : List Int) (r2 : Int) (w : World) (hT : RT w) (h : impl_ReadPoly.f a0 = some (r1, r2)) :
    Calls Tryd.prog 13 #[.string a0] w fun e w' => ∃ v0_ : Value, e = .returned (.tuple #[v0_, .int .i64 r2]) ∧ Kd.R (Kd.int .u16) 43 w' w.heap.size (fun _ => True) v0_ r1 ∧ Below w.heap.size w w' := by
  unfold impl_ReadPoly.f at h
  by_cases hs : a0.size ≤ 1048576
  · rw [if_pos hs] at h
    have e := Option.some.inj h
    have := readPoly_calls a0 hs w hT
    rw [e] at this
    exact this
  · rw [if_neg hs] at h; cases h

end Go.Proofs.YtcghgceihnfnhaaDoor.Given

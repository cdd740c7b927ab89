/- The turns with a greatest coin, as the program lists, sorts and compacts them: walked. -/
import Derived.Test.YtkgnjfoclhkgkaaDoorProg
import Derived.Below
import Derived.Deep.Draws
import Derived.Deep.AppendLies
import Derived.Maps.AppendAt
import Derived.OwnWalk
import Derived.Laws.BytesArg
import Derived.Laws.MakeOwn
import Derived.Laws.OwnMore
import Derived.Deep.OwnRows
import Derived.Tactics
import Derived.Lib.ConvBytes
import Derived.Laws.Slices
import Derived.WalkKit
import Derived.KernelRfl
import Derived.RowKit3
import Derived.Deep.LoopGhost
import Derived.Deep.QuietTactic
import Derived.BigQuiet
import Derived.WideLaws
import Derived.Deep.DeepCutAuto
import Derived.Deep.CutBlock
import Derived.Deep.RegionHeld3
import Derived.Laws.Rows
import Derived.Lib.AppendStr
import Derived.ArgAppend
import Derived.Laws.IdiomCopy
import Derived.OrdersHeld
import Derived.Laws.BitsLemmas
import Derived.RowKit
import Derived.Lib.Hide
import Derived.WalkSpells
import Derived.Test.YtkgnjfoclhkgkaaDoorWWords
import Derived.Test.YtkgnjfoclhkgkaaDoorWLast
import Derived.Test.YtkgnjfoclhkgkaaDoorWTab
import Derived.Test.YtkgnjfoclhkgkaaDoorWQPut
import Derived.Test.YtkgnjfoclhkgkaaDoorWApart
import Derived.Test.YtkgnjfoclhkgkaaDoorWArr
import Derived.Test.YtkgnjfoclhkgkaaDoorWZeros
import Derived.Test.YtkgnjfoclhkgkaaDoorWFoot
import Derived.Test.YtkgnjfoclhkgkaaDoorWKept
import Derived.Test.YtkgnjfoclhkgkaaDoorWShare
import Derived.Test.YtkgnjfoclhkgkaaDoorWN
import Derived.Test.YtkgnjfoclhkgkaaDoorWNEv
import Derived.Test.YtkgnjfoclhkgkaaDoorWMore
import Derived.Test.YtkgnjfoclhkgkaaDoorN1
import Derived.Test.YtkgnjfoclhkgkaaDoorRSORTx3
import Derived.Test.YtkgnjfoclhkgkaaDoorRMTx1
import Derived.Test.YtkgnjfoclhkgkaaDoorRBLx1
import Derived.Lib.SmallJoins
namespace Go.Proofs.YtkgnjfoclhkgkaaDoor.Given
open Go.RowKit Go.Proofs.YtkgnjfoclhkgkaaDoorW.PrintWords Go.Proofs.YtkgnjfoclhkgkaaDoorW.PrintLast Go.Proofs.YtkgnjfoclhkgkaaDoorW.PrintMore Go.Proofs.YtkgnjfoclhkgkaaDoor.NimF Go.Proofs.YtkgnjfoclhkgkaaDoor.NimGo
set_option linter.unusedVariables false
set_option linter.unusedSimpArgs false
open Go.Proofs.YtkgnjfoclhkgkaaDoor.RSORT
open Go.Proofs.YtkgnjfoclhkgkaaDoor.RMT
open Go.Proofs.YtkgnjfoclhkgkaaDoor.RBL
theorem lt_of_heap {w : World} {g : Nat} {o : Obj} (h : w.heap[g]? = some o) : g < w.heap.size := (Array.getElem?_eq_some_iff.1 h).1
theorem info25 : (Tryd.prog.info? 25).map (fun i => (i.zero, i.size, i.bytes)) = some (some (.int .u32 0), 1, 4) := by kernel_rfl
def addM (rule m : Int) (l : List Int) : Option (List Int) :=
  if l.length < 1000 then (impl_mayTurn.f 8 rule m).bind fun b => some (if b = true then l ++ [m] else l) else none
set_option maxHeartbeats 1000000 in
set_option maxRecDepth 100000 in
theorem add_calls (rule m : Int) (l r : List Int) (Br Bo : Nat) (v : Value) (w0 w : World) (h : addM rule m l = some r) (hT0 : RT w0) (hR : w.heap[Br]? = some (.cells #[.int .i64 rule] 2 (0, 0))) (hO : w.heap[Bo]? = some (.cells #[v] 45 (0, 0)))
    (hV : Kd.R (Kd.int .u32) 25 w w0.heap.size (fun _ => True) v l) (hbo : w0.heap.size ≤ Bo) (hB : Below w0.heap.size w0 w) :
    Calls Tryd.prog 69 #[.int .u32 m, .pointer (some ⟨Br, 0, none⟩), .pointer (some ⟨Bo, 0, none⟩)] w fun e w' => e = .returned (.tuple #[]) ∧ w'.heap[Br]? = some (.cells #[.int .i64 rule] 2 (0, 0)) ∧
      (∃ v', w'.heap[Bo]? = some (.cells #[v'] 45 (0, 0)) ∧ Kd.R (Kd.int .u32) 25 w' w0.heap.size (fun _ => True) v' r) ∧ Below w0.heap.size w0 w' := by
  unfold addM at h
  by_cases hl : l.length < 1000
  case neg => rw [if_neg hl] at h; cases h
  rw [if_pos hl] at h
  obtain ⟨b, hb, h⟩ := Option.bind_eq_some_iff.mp h
  have HMT := Lib.hid hb
  have HT := Lib.hid (hT0.on hB)
  have HR := Lib.hid hR
  have HO := Lib.hid hO
  have HV := Lib.hid hV
  have HB := Lib.hid hB
  have HBO := Lib.hid hbo
  have HL := Lib.hid hl
  have hcr : w.cell? ⟨Br, 0, none⟩ = some (.int .i64 rule) := by rw [Go.Joins.cell_of_block hR]; rfl
  have hco : w.cell? ⟨Bo, 0, none⟩ = some v := by rw [Go.Joins.cell_of_block hO]; rfl
  clear hb hT0 hR hO hV hB hbo hl
  by_cases hb : b = true
  · subst hb
    obtain rfl : l ++ [m] = r := by simpa using h
    clear h
    go_enter Tryd.func69, Tryd.ntmps69
    go_wp2_with (first
      | (go_at_call 47; with_reducible refine (impl_mayTurn.calls 8 rule m true _ ?pT HMT.out).mono ?_; (case pT => exact HT.out); rintro e w' ⟨rfl, ⟨nd, rfl⟩⟩)
      | ((with_reducible refine gate_builtin (b := .append) (xs := #[.tmp 7, .tmp 9]) rfl ?_); refine Hid.out ?_))
    refine Lib.hid ?_
    at_builtin
    refine Kd.R_append (Kd.int .u32) (w0 := w0) w0.heap.size rfl (.tmp 7) (.tmp 9) 45 25 (.int .u32 0) 4 rfl Tryd.underlying45 info25 rfl (by decide) (by omega) v l m [.int .u32 m] (fun _ => True) (fun _ => False) rfl rfl ?aP (fun _ hk => hk.elim) ?aF ?aO ?aB ?aS ?aL ?_
    case aP => exact rfl
    case aB => exact (pw_below_drewN HB.out _)
    case aF => exact (fun _ _ => trivial)
    case aO => exact (Kd.R_drewN HV.out _)
    case aS => exact HB.out.size
    case aL => have := HL.out; omega
    intro v4 w4 ho hb hg hat
    obtain ⟨A4, c4, ev4⟩ := Kd.R_slice ho
    subst ev4
    rw [show (l ++ [m]).length = l.length + 1 by simp] at ho
    have HV4 := Lib.hid ho
    have HB4 := Lib.hid hb
    have HO4 := Lib.hid ((hg.block _ (lt_of_heap HO.out) (Kd.R_ne HV.out HO.out (by decide))).trans HO.out)
    have HR4 := Lib.hid ((hg.block _ (lt_of_heap HR.out) (Kd.R_ne HV.out HR.out (by decide))).trans HR.out)
    clear ho hb hg hat hcr hco
    have hf4 := Go.Joins.unfrozen_of_block HO4.out 0
    have hc4 : w4.cell? ⟨Bo, 0, none⟩ = some v := by rw [Go.Joins.cell_of_block HO4.out]; rfl
    go_wp2
    first | go_end0 | ((try simp only [Exit.inBlock, Exit.then]); refine bodyPost_ret (results_none rfl _ _ _) rfl ?_)
    refine ⟨rfl, ?_, ⟨.slice A4 (l.length + 1) c4, ?_, ?_⟩, ?_⟩
    · rw [← HR4.out]; exact Below.heap_setCell _ _ _ _ (fun e => by have h1 := HR4.out; have h2 := HO4.out; rw [show Bo = Br from e.symm, h1] at h2; injection h2 with h2; injection h2 with _ h2; cases h2)
    · exact Go.Joins.block_setCell HO4.out (i := 0) _
    · exact Kd.R_set HV4.out HO4.out (by decide) 0 _
    · exact HB4.out.setCell (p := ⟨Bo, 0, none⟩) HBO.out _
  · have hb : b = false := Bool.eq_false_iff.mpr hb
    subst hb
    obtain rfl : l = r := by simpa using h
    clear h
    go_enter Tryd.func69, Tryd.ntmps69
    go_wp2_with (first
      | (go_at_call 47; with_reducible refine (impl_mayTurn.calls 8 rule m false _ ?pT HMT.out).mono ?_; (case pT => exact HT.out); rintro e w' ⟨rfl, ⟨nd, rfl⟩⟩))
    first | go_end0 | ((try simp only [Exit.inBlock, Exit.then]); refine bodyPost_ret (results_none rfl _ _ _) rfl ?_)
    exact ⟨rfl, HR.out, ⟨_, HO.out, Kd.R_drewN HV.out _⟩, pw_below_drewN HB.out _⟩
def sortF (l : List Int) : Option (List Int) :=
  if l.length < 1000 then (bits_Len.f 8 (l.length : Int)).bind fun n => slices_pdqsortOrdered_uint32.f 600 l 0 (l.length : Int) n else none
set_option maxHeartbeats 1000000 in
set_option maxRecDepth 100000 in
theorem sort_calls (P0 : Nat → Prop) (u : Value) (l r : List Int) (w0 w : World) (hB : Below w0.heap.size w0 w) (ho : Kd.R (Kd.int .u32) 25 w w0.heap.size P0 u l) (h : sortF l = some r) :
    Calls Tryd.prog 70 #[u] w fun e w' => e = .returned (.tuple #[]) ∧ Kd.R (Kd.int .u32) 25 w' w0.heap.size (fun k => P0 k ∨ w.heap.size ≤ k) u r ∧ Below w0.heap.size w0 w' ∧ Kept w w' P0 := by
  unfold sortF at h
  by_cases hl : l.length < 1000
  case neg => rw [if_neg hl] at h; cases h
  rw [if_pos hl] at h
  obtain ⟨n, hn, h⟩ := Option.bind_eq_some_iff.mp h
  obtain ⟨A, c, eu⟩ := Kd.R_slice ho
  subst eu
  have HN := Lib.hid hn
  have HS := Lib.hid h
  have HO := Lib.hid ho
  have HB := Lib.hid hB
  obtain ⟨q, hq⟩ : ∃ q : Int, (l.length : Int) = q := ⟨_, rfl⟩
  have hq0 : 0 ≤ q := by omega
  have hq1 : q < 1000 := by omega
  rw [hq] at HN HS
  clear hn h ho hB hl
  go_enter Tryd.func70, Tryd.ntmps70
  go_wp2_with (first
    | (go_at_call 79; (try rw [hq]); with_reducible refine (bits_Len.calls 8 q n _ HN.out).mono ?_; rintro e w' ⟨rfl, ⟨nd, rfl⟩⟩; refine Hid.out ?_))
  refine Lib.hid ?_
  (try rw [hq])
  have HO2 := Lib.hid (Kd.R_drewN HO.out nd)
  have HB2 := Lib.hid (pw_below_drewN HB.out nd)
  have HK2 := Lib.hid (show Kept w (w.drewN nd) P0 from Kept.drewN (Kept.refl w P0) nd)
  go_wp2_with (first
    | (go_at_call 78; with_reducible refine (slices_pdqsortOrdered_uint32.calls 600 P0 _ l 0 q n r w0 _ HB2.out HO2.out HS.out).mono ?_; rintro e w3 ⟨rfl, h1, h2, h3⟩; have H1 := Lib.hid h1; have H2 := Lib.hid h2; have H3 := Lib.hid h3; clear h1 h2 h3; refine Hid.out ?_))
  refine Lib.hid ?_
  go_wp2
  first | go_end0 | ((try simp only [Exit.inBlock, Exit.then]); refine bodyPost_ret (results_none rfl _ _ _) rfl ?_)
  exact ⟨rfl, H1.out, H2.out, H3.out⟩
def apartB (l : List Int) : Bool := (List.range (l.length - 1)).all fun i => decide (rd l ((i + 1 : Nat) : Int) ≠ rd l (i : Int))
set_option maxHeartbeats 2000000 in
set_option maxRecDepth 100000 in
theorem compact_calls (A : Option Addr) (c : Nat) (l : List Int) (w : World) (hl : l.length < 1000) (hr : Kd.C (Kd.int .u32) w A l.length l) (h : apartB l = true) :
    Calls Tryd.prog 71 #[.slice A l.length c] w fun e w' => e = .returned (.slice A l.length c) ∧ Drawn0 w w' := by
  obtain ⟨n, hn⟩ : ∃ n : Nat, l.length = n := ⟨_, rfl⟩
  have HR := Lib.hid hr
  have HQ := Lib.hid hn
  rw [hn] at hl ⊢
  have HS := Lib.hid h
  have hq1 : (n : Int) < 1000 := by omega
  have hq0 : 0 ≤ (n : Int) := by omega
  clear hr h
  by_cases h2 : (n : Int) < 2
  · clear hl
    go_enter Tryd.func71, Tryd.ntmps71
    go_wp2
    go_ret
    exact ⟨rfl, by repeat (first | exact Drawn0.refl _ | apply Drawn0.step)⟩
  · have h2' : 2 ≤ (n : Int) := by omega
    clear h2 hl hn
    go_enter Tryd.func71, Tryd.ntmps71
    go_wp2
    go_loopg [3] n (fun gg v3 wr => ∃ x : Int, v3 = .int .i64 x ∧ Hid (1 ≤ x ∧ x ≤ (n : Int) ∧ x + gg = n + 1) ∧ Drawn0 w wr)
    case atStart => exact ⟨_, rfl, Lib.hid (by omega), by repeat (first | exact Drawn0.refl _ | apply Drawn0.step)⟩
    case round =>
    obtain ⟨x, rfl, HX, ⟨m1, rfl⟩⟩ := hrel
    by_cases hlt : x < (n : Int)
    · have HLT := Lib.hid hlt
      have q0 : 0 ≤ x := by have := HX.out; omega
      have q1 : x < (n : Int) := hlt
      have hx9 : x < 1000 := by omega
      obtain ⟨j, hj⟩ : ∃ j : Int, x - 1 = j := ⟨_, rfl⟩
      have hjw : IntKind.i64.wrap (x - 1) = j := by rw [i64_w, ← hj]; exact Go.IntWalk.wrap64_in _ (by have := HX.out; omega)
      have q2 : 0 ≤ j := by have := HX.out; omega
      have q3 : j < (n : Int) := by omega
      have hne : (rd l x == rd l j) = false := by
        have hs := HS.out
        unfold apartB at hs
        have h1 := (List.all_eq_true.1 hs) j.toNat (by rw [List.mem_range]; have := HQ.out; omega)
        have h2 := of_decide_eq_true h1
        rw [show ((j.toNat + 1 : Nat) : Int) = x by omega, show (j.toNat : Int) = j by omega] at h2
        exact beq_false_of_ne h2
      obtain ⟨ad, eA, hx0'⟩ := Kd.at_int HR.out x q0 (by rw [HQ.out]; exact q1)
      obtain ⟨ad', e', hj0'⟩ := Kd.at_int HR.out j q2 (by rw [HQ.out]; exact q3)
      subst eA
      obtain rfl : ad = ad' := by injection e'
      have hx0 : ((w.drewN m1).drew).cell? (ad.add x.toNat) = some (.int .u32 (rd l x)) := hx0'
      have hj0 : ((w.drewN m1).drew).cell? (ad.add j.toNat) = some (.int .u32 (rd l j)) := hj0'
      clear e' hx0' hj0' hj hlt
      go_wp2
      refine start_ (n := 10) (S := fun w' => w'.cell? (ad.add x.toNat) = some (.int .u32 (rd l x)) ∧ w'.cell? (ad.add j.toNat) = some (.int .u32 (rd l j))) (ds := []) #[false, false, false, false, false, false, false, false, false, false] (by kernel_rfl) rfl rfl ⟨hx0, hj0⟩ (fun hHeld => ?_)
      refine pure_ (i := 0) (N := some 16) (v := ?_) (a' := ?_) #[true, false, false, false, false, false, false, false, false, false] rfl rfl (by kernel_rfl) (fun _ _ _ h => h) (Or.inl ⟨by rfl, ?_⟩) ?_ ?_
      rotate_left
      · intro w'
        go_simp
        with_reducible rfl
      rotate_left
      · simp only [pt_]
        rfl
      refine pure_ (i := 1) (N := some 17) (v := ?_) (a' := ?_) #[true, true, false, false, false, false, false, false, false, false] rfl rfl (by kernel_rfl) (fun _ _ _ h => h) (Or.inl ⟨by rfl, ?_⟩) ?_ ?_
      rotate_left
      · intro w'
        go_simp
        with_reducible rfl
      rotate_left
      · simp only [pt_]
        rfl
      refine pure_ (i := 4) (N := some 20) (v := ?_) (a' := ?_) #[true, true, false, false, true, false, false, false, false, false] rfl rfl (by kernel_rfl) (fun _ _ _ h => h) (Or.inl ⟨by rfl, ?_⟩) ?_ ?_
      rotate_left
      · intro w'
        go_simp
        with_reducible rfl
      rotate_left
      · simp only [pt_]
        rfl
      refine pure_ (i := 5) (N := some 21) (v := ?_) (a' := ?_) #[true, true, false, false, true, true, false, false, false, false] rfl rfl (by kernel_rfl) (fun _ _ _ h => h) (Or.inl ⟨by rfl, ?_⟩) ?_ ?_
      rotate_left
      · intro w'
        go_simp
        with_reducible rfl
      rotate_left
      · simp only [pt_]
        rfl
      refine pure_ (i := 6) (N := some 22) (v := ?_) (a' := ?_) #[true, true, false, false, true, true, true, false, false, false] rfl rfl (by kernel_rfl) (fun _ _ _ h => h) (Or.inl ⟨by rfl, ?_⟩) ?_ ?_
      rotate_left
      · intro w'
        go_simp
        with_reducible rfl
      rotate_left
      · simp only [pt_]
        rfl
      refine pure_ (i := 2) (N := some 18) (v := ?_) (a' := ?_) #[true, true, true, false, true, true, true, false, false, false] rfl rfl (by kernel_rfl) (fun _ _ _ h => h) (Or.inl ⟨by rfl, ?_⟩) ?_ ?_
      rotate_left
      · intro w'
        go_simp
        with_reducible rfl
      rotate_left
      · simp only [pt_]
        rfl
      refine pure_ (i := 7) (N := some 23) (v := ?_) (a' := ?_) #[true, true, true, false, true, true, true, true, false, false] rfl rfl (by kernel_rfl) (fun _ _ _ h => h) (Or.inl ⟨by rfl, ?_⟩) ?_ ?_
      rotate_left
      · intro w'
        go_simp
        with_reducible rfl
      rotate_left
      · simp only [pt_]
        rfl
      refine take_ (i := 3) (N := some 19) (v := ?_) (a' := ?_) #[true, true, true, true, true, true, true, true, false, false] rfl rfl (by kernel_rfl) (fun _ _ _ h => h) (Or.inl ⟨by rfl, ?_⟩) hHeld ?_ ?_
      rotate_left
      · rintro w' ⟨s0, s1⟩
        go_simp
        with_reducible rfl
      rotate_left
      · simp only [pt_]
        rfl
      refine take_ (i := 8) (N := some 24) (v := ?_) (a' := ?_) #[true, true, true, true, true, true, true, true, true, false] rfl rfl (by kernel_rfl) (fun _ _ _ h => h) (Or.inl ⟨by rfl, ?_⟩) hHeld ?_ ?_
      rotate_left
      · rintro w' ⟨s0, s1⟩
        go_simp
        with_reducible rfl
      rotate_left
      · simp only [pt_]
        rfl
      refine pure_ (i := 9) (N := some 25) (v := ?_) (a' := ?_) #[true, true, true, true, true, true, true, true, true, true] rfl rfl (by kernel_rfl) (fun _ _ _ h => h) (Or.inl ⟨by rfl, ?_⟩) ?_ ?_
      rotate_left
      · intro w'
        go_simp
        with_reducible rfl
      rotate_left
      · simp only [pt_]
        rfl
      refine done_ (by kernel_rfl) ?_
      go_wp2
      go_roundg (gk - 1)
      case measure => have := HX.out; have := HLT.out; omega
      case rel => exact ⟨x + 1, rfl, Lib.hid (by have := HX.out; have := HLT.out; omega), by repeat (first | exact Drawn0.refl _ | apply Drawn0.step)⟩
    · have hxq : x = (n : Int) := by have := HX.out; omega
      subst hxq
      clear hlt
      go_wp2
      go_ret
      exact ⟨rfl, by repeat (first | exact Drawn0.refl _ | apply Drawn0.step)⟩
def innF (rule top a : Int) : Nat → Int → List Int → Option (List Int)
  | 0, _, l => some l
  | n + 1, b, l => (addM rule (Go.bits .or .u32 (Go.bits .or .u32 top ((2 : Int) ^ a.toNat % 4294967296)) ((2 : Int) ^ b.toNat % 4294967296)) l).bind fun l1 => innF rule top a n (b + 1) l1
def stepF (rule top a : Int) (l : List Int) : Option (List Int) :=
  if rule = 4 then addM rule ((top * 2 - ((2 : Int) ^ a.toNat % 4294967296)) % 4294967296) l else (addM rule (Go.bits .or .u32 top ((2 : Int) ^ a.toNat % 4294967296)) l).bind fun l1 => innF rule top a a.toNat 0 l1
def outF (rule top : Int) : Nat → Int → List Int → Option (List Int)
  | 0, _, l => some l
  | n + 1, a, l => (stepF rule top a l).bind fun l2 => outF rule top n (a + 1) l2
def rawF (rule coin : Int) : Option (List Int) := (addM rule ((2 : Int) ^ coin.toNat % 4294967296) []).bind fun l => outF rule ((2 : Int) ^ coin.toNat % 4294967296) coin.toNat 0 l
def impl_turnsAt.f (rule coin : Int) : Option (List Int) :=
  if 0 ≤ coin ∧ coin ≤ 23 then (rawF rule coin).bind fun l => (sortF l).bind fun s => if apartB s = true ∧ s.length < 1000 then some s else none else none
set_option maxHeartbeats 4000000 in
set_option maxRecDepth 100000 in
theorem impl_turnsAt.calls (rule coin : Int) (r : List Int) (w : World) (hT : RT w) (h : impl_turnsAt.f rule coin = some r) :
    Calls Tryd.prog 49 #[.int .i64 rule, .int .i64 coin] w fun e w' => ∃ v0_ : Value, e = .returned v0_ ∧ Kd.R (Kd.int .u32) 25 w' w.heap.size (fun _ => True) v0_ r ∧ Below w.heap.size w w' := by
  unfold impl_turnsAt.f at h
  by_cases hc : 0 ≤ coin ∧ coin ≤ 23
  case neg => rw [if_neg hc] at h; cases h
  rw [if_pos hc] at h
  obtain ⟨hc0, hc1⟩ := hc
  obtain ⟨raw, hraw, h⟩ := Option.bind_eq_some_iff.mp h
  obtain ⟨s, hs, h⟩ := Option.bind_eq_some_iff.mp h
  by_cases hap : apartB s = true ∧ s.length < 1000
  case neg => rw [if_neg hap] at h; cases h
  rw [if_pos hap] at h
  obtain rfl : s = r := by simpa using h
  unfold rawF at hraw
  obtain ⟨l0, h0, hraw⟩ := Option.bind_eq_some_iff.mp hraw
  have HAP := Lib.hid hap
  have HS := Lib.hid hs
  have HT := Lib.hid hT
  obtain ⟨top, htop⟩ : ∃ j_ : Int, (2 : Int) ^ (coin).toNat % 4294967296 = j_ := ⟨_, rfl⟩
  have htop0 : 0 ≤ top := by rw [← htop]; exact Int.emod_nonneg _ (by decide)
  have htopw : IntKind.u32.wrap ((2 : Int) ^ (coin).toNat) = top := by rw [← htop]; simp [IntKind.wrap, IntKind.bits, IntKind.signed]
  have htop1 : top < 4294967296 := by rw [← htop]; exact Int.emod_lt_of_pos _ (by decide)
  rw [htop] at h0 hraw
  have H0 := Lib.hid h0
  have HRAW := Lib.hid hraw
  have hc9 : coin < 32 := by omega
  clear hraw h0 hs hap h
  go_enter Tryd.func49, Tryd.ntmps49
  go_wp2_with (first
    | ((with_reducible refine gate_dst (N := 12) rfl ?_); refine Hid.out ?_))
  refine Lib.hid ?_
  refine Kd.R_lit (Kd.int .u32) (w0 := w) w.heap.size 25 rfl (N := 12) rfl (xs := ([] : List Int)) (inner := []) (ok := fun _ => True) (okp := fun _ => True) ?hr (Reps.none _ _) (fun _ hk => hk) trivial (by repeat (first | exact Below.refl _ _ | apply below_alloc | apply below_drew1)) (by simp [World.alloc_eq]) (by simp) ?_
  case hr => first | (go_simp; done) | (go_simp; rfl)
  intro v w1 hv hb hg hnew
  obtain ⟨A1, c1, ev⟩ := Kd.R_slice hv
  subst ev
  have HR := Lib.hid ((hg.block w.heap.size (by simp [World.alloc_eq]) (by simp)).trans (box_new w (.int .i64 rule) 2))
  have HV := Lib.hid hv
  have HB := Lib.hid hb
  clear hv hb hg hnew
  go_wp2_with (first
    | (go_at_call 69; refine Hid.out ?_))
  refine Lib.hid ?_
  have HT := Lib.hid hT
  have hO0 : (w1.alloc (.cells #[.slice A1 0 c1] 45)).heap[w1.heap.size]? = some (.cells #[.slice A1 0 c1] 45 (0, 0)) := box_new _ _ _
  have hR0 : (w1.alloc (.cells #[.slice A1 0 c1] 45)).heap[w.heap.size]? = some (.cells #[.int .i64 rule] 2 (0, 0)) := ((below_alloc (Below.refl _ w1) (.cells #[.slice A1 0 c1] 45)).block _ (lt_of_heap HR.out)).trans HR.out
  have hV0 : Kd.R (Kd.int .u32) 25 (w1.alloc (.cells #[.slice A1 0 c1] 45)) w.heap.size (fun _ => True) (.slice A1 0 c1) [] := Kd.R_alloc HV.out _
  have hB0 : Below w.heap.size w (w1.alloc (.cells #[.slice A1 0 c1] 45)) := HB.out.alloc HB.out.size _
  have hbo : w.heap.size ≤ w1.heap.size := HB.out.size
  clear HR HV HB HT
  obtain ⟨Br, hBr⟩ : ∃ b, w.heap.size = b := ⟨_, rfl⟩
  obtain ⟨Bo, hBo⟩ : ∃ b, w1.heap.size = b := ⟨_, rfl⟩
  have HBR := Lib.hid hBr
  rw [hBo] at hO0 hbo ⊢
  rw [hBr] at hR0
  have hp1 : (Value.pointer (some ⟨w.heap.size, 0, none⟩)) = .pointer (some ⟨Br, 0, none⟩) := by rw [hBr]
  rw [hp1]
  have HO := Lib.hid hO0; have HR := Lib.hid hR0; have HV := Lib.hid hV0; have HB := Lib.hid hB0; have HBO := Lib.hid hbo; have HT := Lib.hid hT
  clear hO0 hR0 hV0 hB0 hbo hT hBr hBo hp1
  generalize w1.alloc (.cells #[.slice A1 0 c1] 45) = w2 at HO HR HV HB ⊢
  refine (add_calls rule top [] l0 Br Bo (.slice A1 0 c1) w _ H0.out HT.out HR.out HO.out HV.out HBO.out HB.out).mono ?_
  rintro e w3 ⟨rfl, hr_, ⟨v1, ho_, hv_⟩, hb_⟩
  clear HR HO HV HB
  have HR := Lib.hid hr_; have HO := Lib.hid ho_; have HV := Lib.hid hv_; have HB := Lib.hid hb_
  clear hr_ ho_ hv_ hb_ H0
  go_wp2
  go_loopg [18] (coin.toNat + 1) (fun gg v18 wr => ∃ (a : Int) (l : List Int) (v : Value), v18 = .int .i64 a ∧ Hid (0 ≤ a ∧ a ≤ coin ∧ a + gg = coin + 1) ∧ Hid (outF rule top (coin - a).toNat a l = some raw) ∧ Hid (wr.heap[Br]? = some (.cells #[.int .i64 rule] 2 (0, 0))) ∧ Hid (wr.heap[Bo]? = some (.cells #[v] 45 (0, 0))) ∧ Hid (Kd.R (Kd.int .u32) 25 wr w.heap.size (fun _ => True) v l) ∧ Hid (Below w.heap.size w wr))
  case atStart => exact ⟨0, l0, v1, rfl, Lib.hid (by omega), Lib.hid (by rw [show (coin - 0).toNat = coin.toNat by omega]; exact HRAW.out), HR, HO, HV, HB⟩
  case round =>
  clear HR HO HV HB HRAW
  obtain ⟨a, l, v, rfl, HA, HF, HR, HO, HV, HB⟩ := hrel
  by_cases hlt : a < coin
  · have ha0 : 0 ≤ a := HA.out.1
    obtain ⟨n, hn⟩ : ∃ n : Nat, (coin - a).toNat = n + 1 := ⟨(coin - a).toNat - 1, by omega⟩
    have hF := HF.out
    rw [hn] at hF
    unfold outF at hF
    obtain ⟨l3, hstep, hF⟩ := Option.bind_eq_some_iff.mp hF
    have HF3 : Hid (outF rule top (coin - (a + 1)).toNat (a + 1) l3 = some raw) := Lib.hid (by rw [show (coin - (a + 1)).toNat = n by omega]; exact hF)
    clear hF hn HF
    unfold stepF at hstep
    obtain ⟨pa, hpa⟩ : ∃ j_ : Int, (2 : Int) ^ (a).toNat % 4294967296 = j_ := ⟨_, rfl⟩
    have hpa0 : 0 ≤ pa := by rw [← hpa]; exact Int.emod_nonneg _ (by decide)
    have hpaw : IntKind.u32.wrap ((2 : Int) ^ (a).toNat) = pa := by rw [← hpa]; simp [IntKind.wrap, IntKind.bits, IntKind.signed]
    have hpa1 : pa < 4294967296 := by rw [← hpa]; exact Int.emod_lt_of_pos _ (by decide)
    rw [hpa] at hstep
    have ha9 : a < 32 := by omega
    have HLT := Lib.hid hlt
    have hcr : wr.cell? ⟨Br, 0, none⟩ = some (.int .i64 rule) := by rw [Go.Joins.cell_of_block HR.out]; rfl
    by_cases h4 : rule = 4
    · rw [if_pos h4] at hstep
      have HSTEP := Lib.hid hstep
      have h4b : (rule == 4) = true := beq_iff_eq.mpr h4
      clear hstep h4
      go_wp2_with (first
        | (go_at_call 69; refine Hid.out ?_))
      refine Lib.hid ?_
      refine (add_calls rule _ l l3 Br Bo v w _ HSTEP.out HT.out HR.out HO.out HV.out HBO.out HB.out).mono ?_
      rintro e w4 ⟨rfl, hr_, ⟨v4, ho_, hv_⟩, hb_⟩
      clear HR HO HV HB hcr
      have HR := Lib.hid hr_; have HO := Lib.hid ho_; have HV := Lib.hid hv_; have HB := Lib.hid hb_
      clear hr_ ho_ hv_ hb_
      go_wp2
      go_roundg (gk - 1)
      case measure => have := HA.out; have := HLT.out; omega
      case rel => exact ⟨a + 1, l3, v4, rfl, Lib.hid (by have := HA.out; have := HLT.out; omega), HF3, HR, HO, HV, HB⟩
    · rw [if_neg h4] at hstep
      obtain ⟨l1, h1, hin⟩ := Option.bind_eq_some_iff.mp hstep
      have H1 := Lib.hid h1
      have HIN := Lib.hid hin
      have h4b : (rule == 4) = false := beq_eq_false_iff_ne.mpr h4
      clear hstep h1 hin
      go_wp2_with (first
        | (go_at_call 69; refine Hid.out ?_))
      refine Lib.hid ?_
      refine (add_calls rule _ l l1 Br Bo v w _ H1.out HT.out HR.out HO.out HV.out HBO.out HB.out).mono ?_
      rintro e w4 ⟨rfl, hr_, ⟨v4, ho_, hv_⟩, hb_⟩
      clear HR HO HV HB hcr
      have HR := Lib.hid hr_; have HO := Lib.hid ho_; have HV := Lib.hid hv_; have HB := Lib.hid hb_
      clear hr_ ho_ hv_ hb_
      obtain ⟨l2, hl2⟩ : ∃ l2, l3 = l2 := ⟨_, rfl⟩
      subst hl2
      obtain ⟨g1, hg1⟩ : ∃ g, g = gk := ⟨_, rfl⟩
      subst hg1
      go_wp2
      go_loopg [37] (a.toNat + 1) (fun gg v37 wr => ∃ (b : Int) (l : List Int) (v : Value), v37 = .int .i64 b ∧ Hid (0 ≤ b ∧ b ≤ a ∧ b + gg = a + 1) ∧ Hid (innF rule top a (a - b).toNat b l = some l3) ∧ Hid (wr.heap[Br]? = some (.cells #[.int .i64 rule] 2 (0, 0))) ∧ Hid (wr.heap[Bo]? = some (.cells #[v] 45 (0, 0))) ∧ Hid (Kd.R (Kd.int .u32) 25 wr w.heap.size (fun _ => True) v l) ∧ Hid (Below w.heap.size w wr))
      case atStart => exact ⟨0, l1, v4, rfl, Lib.hid (by omega), Lib.hid (by rw [show (a - 0).toNat = a.toNat by omega]; exact HIN.out), HR, HO, HV, HB⟩
      case round =>
      clear HR HO HV HB HIN
      obtain ⟨b, l5, v5, rfl, HA5, HF5, HR, HO, HV, HB⟩ := hrel
      by_cases hlt5 : b < a
      · have hb0 : 0 ≤ b := HA5.out.1
        obtain ⟨n5, hn5⟩ : ∃ n5 : Nat, (a - b).toNat = n5 + 1 := ⟨(a - b).toNat - 1, by omega⟩
        have hF := HF5.out
        rw [hn5] at hF
        unfold innF at hF
        obtain ⟨l6, hstep, hF⟩ := Option.bind_eq_some_iff.mp hF
        have HF6 : Hid (innF rule top a (a - (b + 1)).toNat (b + 1) l6 = some l3) := Lib.hid (by rw [show (a - (b + 1)).toNat = n5 by omega]; exact hF)
        clear hF hn5 HF5
        obtain ⟨pb, hpb⟩ : ∃ j_ : Int, (2 : Int) ^ (b).toNat % 4294967296 = j_ := ⟨_, rfl⟩
        have hpb0 : 0 ≤ pb := by rw [← hpb]; exact Int.emod_nonneg _ (by decide)
        have hpbw : IntKind.u32.wrap ((2 : Int) ^ (b).toNat) = pb := by rw [← hpb]; simp [IntKind.wrap, IntKind.bits, IntKind.signed]
        have hpb1 : pb < 4294967296 := by rw [← hpb]; exact Int.emod_lt_of_pos _ (by decide)
        rw [hpa, hpb] at hstep
        have HSTEP := Lib.hid hstep
        have HLT5 := Lib.hid hlt5
        have hb9 : b < 32 := by omega
        clear hstep
        go_wp2
        refine start_ (n := 9) (S := fun w_ => True) (ds := [8]) #[false, false, false, false, false, false, false, false, false] (by kernel_rfl) rfl rfl trivial (fun hHeld => ?_)
        refine pure_ (i := 0) (N := some 40) (v := ?_) (a' := ?_) #[true, false, false, false, false, false, false, false, false] rfl rfl (by kernel_rfl) (fun _ _ _ h => h) (Or.inl ⟨by rfl, ?_⟩) ?_ ?_
        rotate_left
        · intro w'
          go_simp
          with_reducible rfl
        rotate_left
        · simp only [pt_]
          rfl
        refine pure_ (i := 1) (N := some 41) (v := ?_) (a' := ?_) #[true, true, false, false, false, false, false, false, false] rfl rfl (by kernel_rfl) (fun _ _ _ h => h) (Or.inl ⟨by rfl, ?_⟩) ?_ ?_
        rotate_left
        · intro w'
          go_simp
          with_reducible rfl
        rotate_left
        · simp only [pt_]
          rfl
        refine pure_ (i := 2) (N := some 42) (v := ?_) (a' := ?_) #[true, true, true, false, false, false, false, false, false] rfl rfl (by kernel_rfl) (fun _ _ _ h => h) (Or.inl ⟨by rfl, ?_⟩) ?_ ?_
        rotate_left
        · intro w'
          go_simp
          with_reducible rfl
        rotate_left
        · simp only [pt_]
          rfl
        refine pure_ (i := 3) (N := some 43) (v := ?_) (a' := ?_) #[true, true, true, true, false, false, false, false, false] rfl rfl (by kernel_rfl) (fun _ _ _ h => h) (Or.inl ⟨by rfl, ?_⟩) ?_ ?_
        rotate_left
        · intro w'
          go_simp
          with_reducible rfl
        rotate_left
        · simp only [pt_]
          rfl
        refine pure_ (i := 4) (N := some 44) (v := ?_) (a' := ?_) #[true, true, true, true, true, false, false, false, false] rfl rfl (by kernel_rfl) (fun _ _ _ h => h) (Or.inl ⟨by rfl, ?_⟩) ?_ ?_
        rotate_left
        · intro w'
          go_simp
          with_reducible rfl
        rotate_left
        · simp only [pt_]
          rfl
        refine pure_ (i := 5) (N := some 45) (v := ?_) (a' := ?_) #[true, true, true, true, true, true, false, false, false] rfl rfl (by kernel_rfl) (fun _ _ _ h => h) (Or.inl ⟨by rfl, ?_⟩) ?_ ?_
        rotate_left
        · intro w'
          go_simp
          with_reducible rfl
        rotate_left
        · simp only [pt_]
          rfl
        refine pure_ (i := 6) (N := some 46) (v := ?_) (a' := ?_) #[true, true, true, true, true, true, true, false, false] rfl rfl (by kernel_rfl) (fun _ _ _ h => h) (Or.inl ⟨by rfl, ?_⟩) ?_ ?_
        rotate_left
        · intro w'
          go_simp
          with_reducible rfl
        rotate_left
        · simp only [pt_]
          rfl
        refine pure_ (i := 7) (N := some 47) (v := ?_) (a' := ?_) #[true, true, true, true, true, true, true, true, false] rfl rfl (by kernel_rfl) (fun _ _ _ h => h) (Or.inl ⟨by rfl, ?_⟩) ?_ ?_
        rotate_left
        · intro w'
          go_simp
          with_reducible rfl
        rotate_left
        · simp only [pt_]
          rfl
        refine last_ (i := 8) (N := some 48) #[true, true, true, true, true, true, true, true, true] rfl rfl (by kernel_rfl) (by decide) (fun K hK => ?_)
        refine call_ 69 #[.int .u32 (Go.bits .or .u32 (Go.bits .or .u32 top pa) pb), .pointer (some ⟨Br, 0, none⟩), .pointer (some ⟨Bo, 0, none⟩)] (by rfl) rfl ?hrun ?_
        case hrun => (go_simp; (try rw [hpaw, hpbw]); done)
        refine (add_calls rule _ l5 l6 Br Bo v5 w _ HSTEP.out HT.out (show wr.drew.heap[Br]? = _ from HR.out) (show wr.drew.heap[Bo]? = _ from HO.out) (Kd.R_drew HV.out) HBO.out (below_drew1 HB.out)).mono ?_
        rintro e w6 ⟨rfl, hr_, ⟨v6, ho_, hv_⟩, hb_⟩
        refine ⟨_, rfl, ?_⟩
        clear HR HO HV HB
        have HR := Lib.hid hr_; have HO := Lib.hid ho_; have HV := Lib.hid hv_; have HB := Lib.hid hb_
        clear hr_ ho_ hv_ hb_
        refine hK.out _ _ ?_
        clear hK K
        refine norm_ (a' := ?_) ?_ ?_
        rotate_left
        · show Act.put _ (some 48) _ = _
          simp only [pt_]
          rfl
        refine done_ (by kernel_rfl) ?_
        go_wp2
        go_roundg (gk - 1)
        case measure => have := HA5.out; have := HLT5.out; omega
        case rel => exact ⟨b + 1, l6, v6, rfl, Lib.hid (by have := HA5.out; have := HLT5.out; omega), HF6, HR, HO, HV, HB⟩
      · have hb5 : b = a := by have := HA5.out; omega
        subst hb5
        have e3 : l5 = l3 := by
          have hF := HF5.out
          rw [show (b - b).toNat = 0 by omega] at hF
          exact Option.some.inj hF
        subst e3
        clear hlt5
        go_wp2
        go_roundg (g1 - 1)
        case measure => have := HA.out; have := HLT.out; omega
        case rel => exact ⟨b + 1, l5, v5, rfl, Lib.hid (by have := HA.out; have := HLT.out; omega), HF3, HR, HO, HV, HB⟩
  · have hac : a = coin := by have := HA.out; omega
    subst hac
    have er : l = raw := by
      have hF := HF.out
      rw [show (a - a).toNat = 0 by omega] at hF
      exact Option.some.inj hF
    subst er
    have hO := HO.out
    obtain ⟨A, c, ev⟩ := Kd.R_slice HV.out
    subst ev
    have hco : wr.cell? ⟨Bo, 0, none⟩ = some (.slice A l.length c) := by rw [Go.Joins.cell_of_block hO]; rfl
    clear hO hlt
    go_wp2_with (first
      | (go_at_call 70; refine Hid.out ?_))
    refine Lib.hid ?_
    refine (sort_calls (fun k => k ≠ Bo) (.slice A l.length c) l s w _ HB.out (Kd.R_mono (Kd.R_types HV.out HO.out (by decide)) (fun k hk => hk.2)) HS.out).mono ?_
    rintro e w7 ⟨rfl, hv7, hb7, hk7⟩
    have hO7 := (hk7.2 Bo (lt_of_heap HO.out) (fun h => h rfl)).trans HO.out
    have hc7 : w7.cell? ⟨Bo, 0, none⟩ = some (.slice A l.length c) := by rw [Go.Joins.cell_of_block hO7]; rfl
    have hls := (Kd.R_reads' hv7).1
    have hrd := (Kd.R_reads' hv7).2.2
    rw [hls] at hc7
    have HV7 := Lib.hid (Kd.R_mono hv7 (fun _ _ => trivial : ∀ k, _ → True))
    rw [hls] at HV7
    have HB7 := Lib.hid hb7
    have HRD := Lib.hid hrd
    clear hv7 hb7 hk7 hO7 hrd HV HO HR HB hco hls
    go_wp2_with (first
      | (go_at_call 71; refine Hid.out ?_))
    refine Lib.hid ?_
    refine (compact_calls A c s w7 HAP.out.2 HRD.out HAP.out.1).mono ?_
    rintro e w8 ⟨rfl, ⟨nd, rfl⟩⟩
    go_wp2
    go_ret
    exact ⟨_, rfl, Kd.R_drewN HV7.out _, pw_below_drewN HB7.out _⟩
end Go.Proofs.YtkgnjfoclhkgkaaDoor.Given

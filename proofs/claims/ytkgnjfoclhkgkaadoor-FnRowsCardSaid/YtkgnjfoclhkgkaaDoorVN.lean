/- IndexFunc and DeleteFunc of lists of turns, and the turns that win: walked. -/
import Derived.Test.YtkgnjfoclhkgkaaDoorProg
import Derived.Below
import Derived.Deep.Draws
import Derived.Deep.AppendLies
import Derived.Maps.AppendAt
import Derived.OwnWalk
import Derived.Laws.BytesArg
import Derived.Laws.MakeOwn
import Derived.Laws.OwnMore
import Derived.Deep.OwnRows
import Derived.Tactics
import Derived.Lib.ConvBytes
import Derived.Laws.Slices
import Derived.WalkKit
import Derived.KernelRfl
import Derived.RowKit3
import Derived.Deep.LoopGhost
import Derived.Deep.QuietTactic
import Derived.BigQuiet
import Derived.WideLaws
import Derived.Deep.DeepCutAuto
import Derived.Deep.CutBlock
import Derived.Deep.RegionHeld3
import Derived.Laws.Rows
import Derived.Lib.AppendStr
import Derived.ArgAppend
import Derived.Laws.IdiomCopy
import Derived.OrdersHeld
import Derived.Laws.BitsLemmas
import Derived.RowKit
import Derived.Lib.Hide
import Derived.WalkSpells
import Derived.Test.YtkgnjfoclhkgkaaDoorWWords
import Derived.Test.YtkgnjfoclhkgkaaDoorWLast
import Derived.Test.YtkgnjfoclhkgkaaDoorWTab
import Derived.Test.YtkgnjfoclhkgkaaDoorWQPut
import Derived.Test.YtkgnjfoclhkgkaaDoorWApart
import Derived.Test.YtkgnjfoclhkgkaaDoorWArr
import Derived.Test.YtkgnjfoclhkgkaaDoorWZeros
import Derived.Test.YtkgnjfoclhkgkaaDoorWFoot
import Derived.Test.YtkgnjfoclhkgkaaDoorWKept
import Derived.Test.YtkgnjfoclhkgkaaDoorWShare
import Derived.Test.YtkgnjfoclhkgkaaDoorWN
import Derived.Test.YtkgnjfoclhkgkaaDoorWNEv
import Derived.Test.YtkgnjfoclhkgkaaDoorWMore
import Derived.Test.YtkgnjfoclhkgkaaDoorN1
import Derived.Test.YtkgnjfoclhkgkaaDoorRROx1
import Derived.Test.YtkgnjfoclhkgkaaDoorTA3
import Derived.Test.YtkgnjfoclhkgkaaDoorRATx1
import Derived.Lib.SmallJoins
import Derived.Lib.SliceRun
namespace Go.Proofs.YtkgnjfoclhkgkaaDoor.Given
open Go.RowKit Go.Proofs.YtkgnjfoclhkgkaaDoorW.PrintWords Go.Proofs.YtkgnjfoclhkgkaaDoorW.PrintLast Go.Proofs.YtkgnjfoclhkgkaaDoorW.PrintMore Go.Proofs.YtkgnjfoclhkgkaaDoor.NimF Go.Proofs.YtkgnjfoclhkgkaaDoor.NimGo
set_option linter.unusedVariables false
set_option linter.unusedSimpArgs false
open Go.Proofs.YtkgnjfoclhkgkaaDoor.RRO
open Go.Proofs.YtkgnjfoclhkgkaaDoor.RAT
abbrev cl (Bv Bs : Nat) : Value := .func (.func 59) #[] #[.pointer (some ⟨Bv, 0, none⟩), .pointer (some ⟨Bs, 0, none⟩)]
structure Stays (base : Nat) (Env : World → Prop) : Prop where
  drawn : ∀ W n, Env W → Env (W.drewN n)
  set : ∀ W g cells i v, base ≤ g → W.heap[g]? = some (.cells cells 25 (0, 0)) → Env W → Env (W.setCell ⟨g, i, none⟩ v)
def Says (Env : World → Prop) (p : Int → Bool) (Bv Bs : Nat) (l : List Int) : Prop :=
  ∀ W m, Env W → m ∈ l → Calls Tryd.prog 59 #[.int .u32 m, .pointer (some ⟨Bv, 0, none⟩), .pointer (some ⟨Bs, 0, none⟩)] W fun e w' => e = .returned (.bool (p m)) ∧ Drawn0 W w'
theorem any_snoc (p : Int → Bool) {l : List Int} {j : Nat} (h : j < l.length) : (l.take (j + 1)).any p = ((l.take j).any p || p (l.getD j 0)) := by
  rw [List.take_add_one, List.getElem?_eq_getElem h, List.any_append]; simp [List.getD, h]
theorem getD_memI {l : List Int} {j : Nat} (h : j < l.length) : l.getD j 0 ∈ l := by simp [List.getD, h]
set_option maxHeartbeats 1000000 in
set_option maxRecDepth 100000 in
theorem indexU_calls {base : Nat} (Env : World → Prop) (hE : Stays base Env) (p : Int → Bool) (Bv Bs : Nat) (l : List Int) (A : Option Addr) (c : Nat) (w : World) (hW : Env w) (hcl : Says Env p Bv Bs l) (hr : Kd.C (Kd.int .u32) w A l.length l) (h8 : l.length < 10000) :
    Calls Tryd.prog 73 #[.slice A l.length c, cl Bv Bs] w fun e w' => ∃ r : Int, e = .returned (.int .i64 r) ∧ ((r = -1 ∧ l.any p = false) ∨ ∃ k0 : Nat, r = (k0 : Int) ∧ k0 < l.length ∧ p (l.getD k0 0) = true ∧ (l.take k0).any p = false) ∧ Drawn0 w w' := by
  obtain ⟨n, hn⟩ : ∃ n : Nat, l.length = n := ⟨_, rfl⟩
  have HQ := Lib.hid hn
  have HR := Lib.hid hr
  have HE := Lib.hid hE
  have HW := Lib.hid hW
  have HCL := Lib.hid hcl
  rw [hn] at h8 ⊢
  have hq1 : (n : Int) < 10000 := by omega
  clear hn hr hE hW hcl h8
  go_enter Tryd.func73, Tryd.ntmps73
  go_wp2
  go_loopg [8] (n + 1) (fun gg v8 wr => ∃ x : Int, v8 = .int .i64 x ∧ Hid (0 ≤ x ∧ x ≤ (n : Int) ∧ x + gg = n + 1) ∧ Hid ((l.take x.toNat).any p = false) ∧ Drawn0 w wr)
  case atStart => exact ⟨0, rfl, Lib.hid (by omega), Lib.hid (by simp), by repeat (first | exact Drawn0.refl _ | apply Drawn0.step)⟩
  case round =>
  obtain ⟨x, rfl, HX, HA, ⟨m1, rfl⟩⟩ := hrel
  by_cases hlt : x < (n : Int)
  · have HLT := Lib.hid hlt
    have q0 : 0 ≤ x := HX.out.1
    have hx9 : x < 10000 := by omega
    have hjl : x.toNat < l.length := by have := HQ.out; omega
    obtain ⟨ad, eA, hx0'⟩ := Kd.at_int HR.out x q0 (by rw [HQ.out]; exact hlt)
    subst eA
    have hrd : rd l x = l.getD x.toNat 0 := by rw [← rd_nat, show ((x.toNat : Nat) : Int) = x by omega]
    rw [hrd] at hx0'
    have HK := Lib.hid (HCL.out (w.drewN m1) (l.getD x.toNat 0) (HE.out.drawn _ _ HW.out) (getD_memI hjl))
    have HS := Lib.hid (any_snoc p hjl)
    have HJ := Lib.hid hjl
    obtain ⟨m, hm⟩ : ∃ m, l.getD x.toNat 0 = m := ⟨_, rfl⟩
    have HM := Lib.hid hm
    rw [hm] at HK HS hx0'
    have hx0 : (w.drewN m1).cell? (ad.add x.toNat) = some (.int .u32 m) := hx0'
    clear hx0' hm hrd hjl
    cases hq : p m with
    | true =>
      rw [hq] at HK
      have HQM := Lib.hid hq
      clear hq
      go_wp2_with (go_at_call 59; (with_reducible refine HK.out.mono ?_); rintro e w2 ⟨rfl, ⟨nd, rfl⟩⟩)
      go_ret
      exact ⟨_, rfl, Or.inr ⟨x.toNat, by omega, by have := HJ.out; have := HQ.out; omega, by rw [HM.out]; exact HQM.out, HA.out⟩, by repeat (first | exact Drawn0.refl _ | apply Drawn0.step)⟩
    | false =>
      rw [hq] at HK
      have HQM := Lib.hid hq
      clear hq
      go_wp2_with (go_at_call 59; (with_reducible refine HK.out.mono ?_); rintro e w2 ⟨rfl, ⟨nd, rfl⟩⟩)
      go_roundg (gk - 1)
      case measure => have := HX.out; have := HLT.out; omega
      case rel => exact ⟨x + 1, rfl, Lib.hid (by have := HX.out; have := HLT.out; omega), Lib.hid (by rw [show (x + 1).toNat = x.toNat + 1 by have := HX.out; omega, HS.out, HA.out, HQM.out]; rfl), by repeat (first | exact Drawn0.refl _ | apply Drawn0.step)⟩
  · have hxn : x = (n : Int) := by have := HX.out; omega
    subst hxn
    have HA2 : Hid (l.any p = false) := Lib.hid (by have h := HA.out; rw [Int.toNat_natCast, ← HQ.out, List.take_length] at h; exact h)
    clear hlt HA
    go_wp2
    go_ret
    exact ⟨_, rfl, Or.inl ⟨rfl, HA2.out⟩, by repeat (first | exact Drawn0.refl _ | apply Drawn0.step)⟩
theorem filter_allI {p : Int → Bool} {l : List Int} (h : l.any p = false) : l.filter (fun x => !p x) = l := by
  rw [List.filter_eq_self]
  intro x hx
  have := List.any_eq_false.1 h x hx
  simpa using this
theorem filter_snocI (f : Int → Bool) {l : List Int} {j : Nat} (h : j < l.length) : (l.take (j + 1)).filter f = (l.take j).filter f ++ (if f (l.getD j 0) = true then [l.getD j 0] else []) := by
  have e : l.take (j + 1) = l.take j ++ [l.getD j 0] := by rw [List.take_add_one, List.getElem?_eq_getElem h]; simp [List.getD, h]
  rw [e, List.filter_append]
  congr 1
  by_cases hf : f (l.getD j 0) = true
  · rw [if_pos hf, List.filter_cons_of_pos hf, List.filter_nil]
  · rw [if_neg hf, List.filter_cons_of_neg hf, List.filter_nil]
theorem take_put {xs F : List Int} {i : Nat} {y : Int} (hF : F.length = i) (hx : i < xs.length) (ht : xs.take i = F) : (xs.set i y).take (i + 1) = F ++ [y] := by
  have h := take_set_succ (x := xs) (a := F ++ [y]) (i := i) (v := y) hx (by rw [List.take_append_of_le_length (by omega), ht, List.take_of_length_le (by omega)]) (by rw [List.getElem?_append_right (by omega), hF]; simp)
  rw [h, List.take_of_length_le (by simp; omega)]
theorem R_cleared {g n cap base : Nat} {ok : Nat → Prop} : ∀ (k i : Nat) (xs : List Int) (W : World), Kd.R (Kd.int .u32) 25 W base ok (.slice (some ⟨g, 0, none⟩) n cap) xs →
    ∃ xs', Kd.R (Kd.int .u32) 25 (W.setCells g i (List.replicate k (.int .u32 0))) base ok (.slice (some ⟨g, 0, none⟩) n cap) xs' ∧ xs'.take i = xs.take i ∧ xs'.length = xs.length
  | 0, i, xs, W, h => ⟨xs, h, rfl, rfl⟩
  | k + 1, i, xs, W, h => by
    have h1 := Kd.R_putn h (i : Int) 0
    rw [Int.toNat_natCast] at h1
    obtain ⟨xs', h2, h3, h4⟩ := R_cleared k (i + 1) (xs.set i 0) (W.setCell ⟨g, i, none⟩ (.int .u32 0)) h1
    refine ⟨xs', h2, ?_, by rw [h4, List.length_set]⟩
    have h5 := congrArg (List.take i) h3
    rw [List.take_take, List.take_take, Nat.min_eq_left (by omega)] at h5
    rw [h5, List.take_set_of_le (by omega)]
theorem i25 : (Tryd.prog.info? 25).map (fun i => (i.zero, i.size, i.bytes)) = some (some (.int .u32 0), 1, 4) := by kernel_rfl
theorem zero25 (w : World) : (zeroValue 25).run Tryd.prog w = .ok (.int .u32 0) w := by
  obtain ⟨i, hi, hz⟩ := Option.map_eq_some_iff.1 i25
  simp only [Prod.mk.injEq] at hz
  simp [zeroValue, typeInfo, hi, hz.1]
theorem below_setCellsI {w W : World} {B g : Nat} (h : Below B w W) (hg : B ≤ g) (o : Nat) (vs : List Value) : Below B w (W.setCells g o vs) := by
  have hs := setCells_same g vs o W
  exact ⟨by rw [hs.1]; exact h.os, by rw [hs.2.1]; exact h.tape, by rw [hs.2.2.1]; exact h.output, by rw [hs.2.2.2]; exact h.size, fun k hk => by rw [setCells_far vs o k (by omega)]; exact h.block k hk⟩
abbrev RU (W : World) (base : Nat) (v : Value) (l : List Int) : Prop := Kd.R (Kd.int .u32) 25 W base (fun _ => True) v l
set_option maxHeartbeats 4000000 in
set_option maxRecDepth 100000 in
theorem deleteU_calls (w0 : World) (Env : World → Prop) (hE : Stays w0.heap.size Env) (p : Int → Bool) (Bv Bs : Nat) (l : List Int) (v : Value) (w : World) (hW : Env w) (hcl : Says Env p Bv Bs l) (hr : RU w w0.heap.size v l) (hB : Below w0.heap.size w0 w) (h8 : l.length < 10000) :
    Calls Tryd.prog 58 #[v, cl Bv Bs] w fun e w' => ∃ v', e = .returned v' ∧ RU w' w0.heap.size v' (l.filter fun x => !p x) ∧ Below w0.heap.size w0 w' := by
  obtain ⟨A, c, ev⟩ := Kd.R_slice hr
  subst ev
  have HI := Lib.hid (indexU_calls Env hE p Bv Bs l A c w hW hcl (Kd.R_reads' hr).2.2 h8)
  obtain ⟨n, hn⟩ : ∃ n : Nat, l.length = n := ⟨_, rfl⟩
  have HQ := Lib.hid hn
  have HR := Lib.hid hr
  have HE := Lib.hid hE
  have HW := Lib.hid hW
  have HCL := Lib.hid hcl
  have HB := Lib.hid hB
  have HCAP := Lib.hid (Kd.R_reads' hr).2.1
  rw [hn] at h8 HI HR HCAP ⊢
  have hq1 : (n : Int) < 10000 := by omega
  obtain ⟨F, hF⟩ : ∃ F, (l.filter fun x => !p x) = F := ⟨_, rfl⟩
  rw [hF]
  have HFF := Lib.hid hF
  clear hn hr hE hW hcl h8 hB hF
  go_enter Tryd.func58, Tryd.ntmps58
  go_wp2_with (go_at_call 73; (with_reducible refine HI.out.mono ?_); rintro e w1 ⟨r, rfl, hrr, ⟨nd, rfl⟩⟩; have HRR := Lib.hid hrr; clear hrr HI; refine Hid.out ?_)
  refine Lib.hid ?_
  rcases HRR.out with ⟨rfl, hall⟩ | ⟨k0, rfl, hk0, hfr, hall⟩
  · have HF : Hid (F = l) := Lib.hid (by rw [← HFF.out]; exact filter_allI hall)
    clear HRR hall
    go_wp2
    go_ret
    exact ⟨_, rfl, by rw [HF.out]; exact Kd.R_drewN HR.out _, pw_below_drewN HB.out _⟩
  · have hne : ((k0 : Int) == -1) = false := beq_eq_false_iff_ne.2 (by omega)
    have hk1 : (k0 : Int) < (n : Int) := by have := HQ.out; omega
    have HK0 := Lib.hid hk0
    have hkl : k0 < l.length := by have := HQ.out; omega
    have hke : (l.take k0).filter (fun x => !p x) = l.take k0 := filter_allI hall
    have HS : Hid ((l.take (k0 + 1)).filter (fun x => !p x) = l.take k0) := Lib.hid (by rw [filter_snocI _ hkl, hke, hfr]; simp)
    have HTL : Hid ((l.take k0).length = k0) := Lib.hid (by rw [List.length_take]; omega)
    have hr1 := HR.out
    rw [← HQ.out] at hr1
    obtain ⟨g, cap, hf, hg0, _, cells, hcells⟩ := Kd.R_form hr1 (by omega)
    have hf9 := hkl
    clear hf9 hkl
    injection hf with f1 f2 f3
    subst f1
    subst f3
    have HG0 := Lib.hid hg0
    clear f2 hcells hg0 HRR hke hfr hall hk0 hr1
    have hnb : k0 < 9223372036854775807 := by have := HK0.out; omega
    go_wp2
    go_loopg [5, 6] n (fun gg v5 v6 wr => ∃ (i j : Nat) (cs : List Int), v5 = .int .i64 (i : Int) ∧ v6 = .int .i64 (j : Int) ∧ Hid (j ≤ n) ∧ Hid (n - j ≤ gg) ∧ Hid (i < j) ∧ Hid (((l.take j).filter (fun x => !p x)).length = i) ∧ Hid (cs.take i = (l.take j).filter (fun x => !p x)) ∧ Hid (∀ t, j ≤ t → cs[t]? = l[t]?) ∧ Hid (cs.length = n) ∧ Hid (RU wr w0.heap.size (.slice (some ⟨g, 0, none⟩) n c) cs) ∧ Hid (Env wr) ∧ Hid (Below w0.heap.size w0 wr))
    case atStart => exact ⟨k0, k0 + 1, l, rfl, by first | rfl | go_num, Lib.hid (by have := HK0.out; have := HQ.out; omega), Lib.hid (Nat.sub_le _ _), Lib.hid (Nat.lt_succ_self _), Lib.hid (by rw [HS.out, HTL.out]), Lib.hid HS.out.symm, Lib.hid (fun _ _ => rfl), HQ, Lib.hid (Kd.R_drewN HR.out _), Lib.hid (HE.out.drawn _ _ HW.out), Lib.hid (pw_below_drewN HB.out _)⟩
    case round =>
      clear hnb HK0 hk1 HS HTL hne HR HW HB
      obtain ⟨i, j, cs, rfl, rfl, hj, hgg, hij, hlen, HT, HTA, HLE, HR, HW, HB⟩ := hrel
      by_cases hlt : j < n
      · have hb0 : decide ((j : Int) < (n : Int)) = true := decide_eq_true (by omega)
        have hi0 : (0 : Int) ≤ (j : Int) := by omega
        have hjn : (j : Int) < (n : Int) := by omega
        have hnb : j < 9223372036854775807 := by omega
        have hnb2 : i < 9223372036854775807 := by have := hij.out; omega
        have hi1 : (i : Int) < (n : Int) := by have := hij.out; omega
        have hi2 : (0 : Int) ≤ (i : Int) := by omega
        have hjl : j < l.length := by have := HQ.out; omega
        have hcj := (Kd.R_celln 0 HR.out (j : Int) hi0 hjn).1
        have hci := (Kd.R_celln 0 HR.out (i : Int) hi2 hi1).1
        have hfi := (Kd.R_celln 0 HR.out (i : Int) hi2 hi1).2
        rw [Int.toNat_natCast] at hcj hci hfi
        have hy : rdOf 0 cs (j : Int) = l.getD j 0 := by
          have h1 := HTA.out j (Nat.le_refl _)
          show rd cs (j : Int) = _
          rw [rd_nat, List.getD_eq_getElem?_getD, h1, ← List.getD_eq_getElem?_getD]
        rw [hy] at hcj
        have HK := Lib.hid (HCL.out wr (l.getD j 0) HW.out (getD_memI hjl))
        have HFS := Lib.hid (filter_snocI (fun x => !p x) hjl)
        generalize l.getD j 0 = y at hcj HK HFS
        have HLT := Lib.hid hlt
        clear hy hlt hjl
        cases hq : p y with
        | false =>
          have HFT : Hid ((l.take (j + 1)).filter (fun x => !p x) = (l.take j).filter (fun x => !p x) ++ [y]) := Lib.hid (by rw [HFS.out, hq]; simp)
          rw [hq] at HK
          clear hq HFS
          go_wp2_with (go_at_call 59; (with_reducible refine HK.out.mono ?_); rintro e w2 ⟨rfl, ⟨nd2, rfl⟩⟩)
          go_roundg (n - (j + 1))
          case measure => have := hgg.out; have := HLT.out; omega
          case rel =>
            have hr2 := Kd.R_putn (Kd.R_drewN HR.out nd2) (i : Int) y
            rw [Int.toNat_natCast] at hr2
            obtain ⟨_, _, hf, _, _, cells, hcells⟩ := Kd.R_form (xs := cs) (show Kd.R (Kd.int .u32) 25 (wr.drewN nd2) w0.heap.size (fun _ => True) (.slice (some ⟨g, 0, none⟩) cs.length c) cs from by rw [HLE.out]; exact Kd.R_drewN HR.out nd2) (by have := HLE.out; have := HLT.out; omega)
            injection hf with f1 f2 f3
            injection f1 with f1
            injection f1 with f1 f4
            subst f1
            refine ⟨i + 1, j + 1, cs.set i y, by first | rfl | go_num, by first | rfl | go_num, Lib.hid HLT.out, Lib.hid (Nat.le_refl _), Lib.hid (by have := hij.out; omega), Lib.hid (by rw [HFT.out, List.length_append, hlen.out]; rfl), Lib.hid ?_, Lib.hid (fun t ht => by rw [List.getElem?_set_ne (by have := hij.out; omega)]; exact HTA.out t (by omega)), Lib.hid (by rw [List.length_set]; exact HLE.out), Lib.hid hr2, Lib.hid (HE.out.set _ _ _ _ _ HG0.out hcells (HE.out.drawn _ _ HW.out)), Lib.hid ((pw_below_drewN HB.out nd2).setCell (p := ⟨g, i, none⟩) HG0.out _)⟩
            rw [HFT.out]
            exact take_put hlen.out (by rw [HLE.out]; have := HLT.out; have := hij.out; omega) HT.out
        | true =>
          have HFT : Hid ((l.take (j + 1)).filter (fun x => !p x) = (l.take j).filter (fun x => !p x)) := Lib.hid (by rw [HFS.out, hq]; simp)
          rw [hq] at HK
          clear hq HFS
          go_wp2_with (go_at_call 59; (with_reducible refine HK.out.mono ?_); rintro e w2 ⟨rfl, ⟨nd2, rfl⟩⟩)
          go_roundg (n - (j + 1))
          case measure => have := hgg.out; have := HLT.out; omega
          case rel =>
            exact ⟨i, j + 1, cs, rfl, by first | rfl | go_num, Lib.hid HLT.out, Lib.hid (Nat.le_refl _), Lib.hid (by have := hij.out; omega), Lib.hid (by rw [HFT.out]; exact hlen.out), Lib.hid (by rw [HFT.out]; exact HT.out), Lib.hid (fun t ht => HTA.out t (by omega)), HLE, Lib.hid (Kd.R_drewN HR.out _), Lib.hid (HE.out.drawn _ _ HW.out), Lib.hid (pw_below_drewN HB.out _)⟩
      · have en : j = n := by have := hj.out; omega
        subst en
        have HTF : Hid (cs.take i = F) := Lib.hid (by have h := HT.out; rw [← HQ.out, List.take_length, HFF.out] at h; exact h)
        have HLF : Hid (F.length = i) := Lib.hid (by have h := hlen.out; rw [← HQ.out, List.take_length, HFF.out] at h; exact h)
        have hb0 : decide ((j : Int) < (j : Int)) = false := decide_eq_false (by omega)
        obtain ⟨i25', hi25, hz25⟩ := Option.map_eq_some_iff.1 i25
        simp only [Prod.mk.injEq] at hz25
        have hsz25 := hz25.2.1
        have hs1 : ∀ W, (Instr.slice 45 (.slice (some ⟨g, 0, none⟩) j c) none (some (.int .i64 (i : Int))) none).run Tryd.prog W = .ok (.slice (some ⟨g, 0, none⟩) i c) W := fun W => by
          have := cut_to (P := Tryd.prog) 45 25 .i64 Tryd.underlying45 hi25 (some ⟨g, 0, none⟩) j c (i : Int) (by omega) (by have := hij.out; omega) HCAP.out W
          rw [Int.toNat_natCast] at this
          exact this
        have hs2 : ∀ W, (Instr.slice 45 (.slice (some ⟨g, 0, none⟩) j c) (some (.int .i64 (i : Int))) none none).run Tryd.prog W = .ok (.slice (some ⟨g, i, none⟩) (j - i) (c - i)) W := fun W => by
          have h1 := cut_from (P := Tryd.prog) 45 25 .i64 Tryd.underlying45 hi25 1 hsz25 (some ⟨g, 0, none⟩) j c (i : Int) (by omega) (by have := hij.out; omega) W
          rw [Int.toNat_natCast, if_neg (by have := HCAP.out; have := hij.out; omega)] at h1
          rw [h1]
          have e : (⟨g, 0, none⟩ : Addr).add (i * 1) = ⟨g, i, none⟩ := by simp only [Addr.add, Nat.zero_add, Nat.mul_one]; split <;> simp_all
          simp only [Option.map_some, e]
        have hclr : ∀ ty, (Builtin.clear_ #[45] ty #[.slice (some ⟨g, i, none⟩) (j - i) (c - i)]).run Tryd.prog wr = .ok (.tuple #[]) (wr.setCells g i (List.replicate (j - i) (.int .u32 0))) := fun ty =>
          Lib.run_clear_slice wr 45 25 ty (.int .u32 0) Tryd.underlying45 zero25 rfl rfl g i _ _ (by have := hij.out; omega) (fun t ht => by
            have h1 := (Kd.R_celln 0 HR.out ((i + t : Nat) : Int) (by omega) (by omega)).1
            rw [Int.toNat_natCast] at h1
            rw [h1]; rfl) (fun t ht => by
            have h1 := (Kd.R_celln 0 HR.out ((i + t : Nat) : Int) (by omega) (by omega)).2
            rw [Int.toNat_natCast] at h1
            exact h1)
        have HFIN : Hid (Below w0.heap.size w0 (wr.setCells g i (List.replicate (j - i) (.int .u32 0))) ∧ RU (wr.setCells g i (List.replicate (j - i) (.int .u32 0))) w0.heap.size (.slice (some ⟨g, 0, none⟩) i c) F) := Lib.hid ⟨below_setCellsI HB.out HG0.out _ _, by
          obtain ⟨xs', h1, h2, h3⟩ := R_cleared (j - i) i cs wr HR.out
          have h4 := Kd.R_take (m := i) h1 (by rw [h3, HLE.out]; have := hij.out; omega)
          rw [h2, HTF.out] at h4
          exact h4⟩
        clear hi25 hz25 hsz25 HT HTA hlt hgg hj
        go_wp2
        go_ret
        exact ⟨_, rfl, HFIN.out.2, HFIN.out.1⟩
theorem shl_ge {k : IntKind} (hk : k.signed = false) (x y : Int) : 0 ≤ shl k x y := by
  unfold shl IntKind.wrap
  simp only [hk]
  exact Int.emod_nonneg _ (by have := Int.pow_pos (n := (2 : Int)) (m := k.bits) (by omega); omega)
set_option maxHeartbeats 1000000 in
set_option maxRecDepth 100000 in
theorem other_calls (k : Nat) (m x s : Int) (Bv Bs : Nat) (A2 : Option Addr) (c2 : Nat) (vals : List Int) (w : World) (hT : RT w) (hv : w.heap[Bv]? = some (.cells #[.slice A2 vals.length c2] 38 (0, 0))) (hs : w.heap[Bs]? = some (.cells #[.int .u16 s] 28 (0, 0)))
    (hr : Kd.C (Kd.int .u16) w A2 vals.length vals) (hc : vals.length ≤ c2) (h : impl_rowOf.f k vals m = some x) :
    Calls Tryd.prog 59 #[.int .u32 m, .pointer (some ⟨Bv, 0, none⟩), .pointer (some ⟨Bs, 0, none⟩)] w fun e w' => e = .returned (.bool (x != s)) ∧ Drawn0 w w' := by
  have hcv0 : w.cell? ⟨Bv, 0, none⟩ = some (.slice A2 vals.length c2) := by rw [Go.Joins.cell_of_block hv]; rfl
  have hcs0 : w.cell? ⟨Bs, 0, none⟩ = some (.int .u16 s) := by rw [Go.Joins.cell_of_block hs]; rfl
  have hcv : w.drew.cell? ⟨Bv, 0, none⟩ = some (.slice A2 vals.length c2) := hcv0
  have hcs : w.drew.cell? ⟨Bs, 0, none⟩ = some (.int .u16 s) := hcs0
  have HT := Lib.hid hT
  have HR := Lib.hid hr
  have HC := Lib.hid hc
  have H := Lib.hid h
  clear hT hv hs hr hc h hcv0 hcs0
  go_enter Tryd.func59, Tryd.ntmps59
  go_wp2
  refine start_ (n := 6) (S := fun W => W.cell? ⟨Bv, 0, none⟩ = some (.slice A2 vals.length c2) ∧ W.cell? ⟨Bs, 0, none⟩ = some (.int .u16 s)) (ds := []) #[false, false, false, false, false, false] (by kernel_rfl) rfl rfl ⟨hcv, hcs⟩ (fun hHeld => ?_)
  refine take_ (i := 0) (N := some 5) (v := ?_) (a' := ?_) #[true, false, false, false, false, false] rfl rfl (by kernel_rfl) (fun _ _ _ h => h) (Or.inl ⟨by rfl, ?_⟩) hHeld ?_ ?_
  rotate_left
  · rintro w' ⟨s0, s1⟩
    go_simp
    with_reducible rfl
  rotate_left
  · simp only [Act.put, List.setIfInBounds_toArray, List.set_cons_zero, List.set_cons_succ, i64_w, i32_w]
    rfl
  refine pure_ (i := 1) (N := some 6) (v := ?_) (a' := ?_) #[true, true, false, false, false, false] rfl rfl (by kernel_rfl) (fun _ _ _ h => h) (Or.inl ⟨by rfl, ?_⟩) ?_ ?_
  rotate_left
  · intro w'
    go_simp
    with_reducible rfl
  rotate_left
  · simp only [Act.put, List.setIfInBounds_toArray, List.set_cons_zero, List.set_cons_succ, i64_w, i32_w]
    rfl
  refine take_ (i := 3) (N := some 8) (v := ?_) (a' := ?_) #[true, true, false, true, false, false] rfl rfl (by kernel_rfl) (fun _ _ _ h => h) (Or.inl ⟨by rfl, ?_⟩) hHeld ?_ ?_
  rotate_left
  · rintro w' ⟨s0, s1⟩
    go_simp
    with_reducible rfl
  rotate_left
  · simp only [Act.put, List.setIfInBounds_toArray, List.set_cons_zero, List.set_cons_succ, i64_w, i32_w]
    rfl
  refine one_ (i := 2) (N := some 7) #[true, true, true, true, false, false] rfl rfl (by kernel_rfl) (by decide) (fun K hK => ?_)
  refine goes_ Tryd.func35 (by kernel_rfl) rfl #[.slice A2 vals.length c2, .int .u32 m] (by rfl) rfl rfl (by (try simp only [List.map_toArray, List.map_cons, List.map_nil]); first | done | rfl) ?_
  refine (impl_rowOf.calls k A2 c2 vals m x _ (Kd.C_drew HR.out) HC.out (RT.drew HT.out) H.out).mono ?_
  rintro e w' ⟨rfl, ⟨nd, rfl⟩⟩
  refine ⟨_, rfl, ?_⟩
  refine hK.out _ _ ⟨hHeld.1, hHeld.2⟩ (fun hHeld => ?_)
  clear hK K
  refine norm_ (a' := ?_) ?_ ?_
  rotate_left
  · show Act.put _ (some 7) _ = _
    simp only [Act.put, List.setIfInBounds_toArray, List.set_cons_zero, List.set_cons_succ, i64_w, i32_w]
    rfl
  refine pure_ (i := 4) (N := some 9) (v := ?_) (a' := ?_) #[true, true, true, true, true, false] rfl rfl (by kernel_rfl) (fun _ _ _ h => h) (Or.inl ⟨by rfl, ?_⟩) ?_ ?_
  rotate_left
  · intro w'
    go_simp
    with_reducible rfl
  rotate_left
  · simp only [Act.put, List.setIfInBounds_toArray, List.set_cons_zero, List.set_cons_succ, i64_w, i32_w]
    rfl
  refine pure_ (i := 5) (N := some 4) (v := ?_) (a' := ?_) #[true, true, true, true, true, true] rfl rfl (by kernel_rfl) (fun _ _ _ h => h) (Or.inl ⟨by rfl, ?_⟩) ?_ ?_
  rotate_left
  · intro w'
    go_simp
    with_reducible rfl
  rotate_left
  · simp only [Act.put, List.setIfInBounds_toArray, List.set_cons_zero, List.set_cons_succ, i64_w, i32_w]
    rfl
  refine done_ (by kernel_rfl) ?_
  go_wp2
  go_ret
  exact ⟨rfl, by repeat (first | exact Drawn0.refl _ | apply Drawn0.step)⟩
def impl_winning.f (rule row : Int) (vals : List Int) : Option (List Int) :=
  (impl_rowOf.f 40 vals row).bind fun s => (impl_allTurns.f 40 rule row).bind fun l =>
    if l.length < 10000 ∧ (l.all fun m => (impl_rowOf.f 40 vals m).isSome) = true then some (l.filter fun m => !((impl_rowOf.f 40 vals m).getD 0 != s)) else none
def WEnv (w0 : World) (Bv Bs : Nat) (sv : Value) (s : Int) (W : World) : Prop := W.heap[Bv]? = some (.cells #[sv] 38 (0, 0)) ∧ W.heap[Bs]? = some (.cells #[.int .u16 s] 28 (0, 0)) ∧ Below w0.heap.size w0 W
theorem wenv_stays (w0 : World) (Bv Bs : Nat) (sv : Value) (s : Int) : Stays w0.heap.size (WEnv w0 Bv Bs sv s) := by
  refine ⟨fun W n h => ⟨h.1, h.2.1, pw_below_drewN h.2.2 n⟩, fun W g cells i v hg hc h => ⟨?_, ?_, h.2.2.setCell (p := ⟨g, i, none⟩) hg v⟩⟩
  · rw [← h.1]
    exact Below.heap_setCell _ _ _ _ (fun e => by have h1 := h.1; rw [show Bv = g from e, hc] at h1; injection h1 with h1; injection h1 with _ h1; cases h1)
  · rw [← h.2.1]
    exact Below.heap_setCell _ _ _ _ (fun e => by have h1 := h.2.1; rw [show Bs = g from e, hc] at h1; injection h1 with h1; injection h1 with _ h1; cases h1)
set_option maxHeartbeats 2000000 in
set_option maxRecDepth 100000 in
theorem impl_winning.calls (rule row : Int) (A2 : Option Addr) (c2 : Nat) (vals r : List Int) (w : World) (hr : Kd.C (Kd.int .u16) w A2 vals.length vals) (hc : vals.length ≤ c2) (hT : RT w) (h : impl_winning.f rule row vals = some r) :
    Calls Tryd.prog 40 #[.int .i64 rule, .int .u32 row, .slice A2 vals.length c2] w fun e w' => ∃ v0_ : Value, e = .returned v0_ ∧ Kd.R (Kd.int .u32) 25 w' w.heap.size (fun _ => True) v0_ r ∧ Below w.heap.size w w' := by
  unfold impl_winning.f at h
  obtain ⟨s, hs, h⟩ := Option.bind_eq_some_iff.mp h
  obtain ⟨l, hl, h⟩ := Option.bind_eq_some_iff.mp h
  by_cases hall : l.length < 10000 ∧ (l.all fun m => (impl_rowOf.f 40 vals m).isSome) = true
  case neg => rw [if_neg hall] at h; cases h
  rw [if_pos hall] at h
  obtain rfl := Option.some.inj h
  have HALL := Lib.hid hall
  have HS := Lib.hid hs
  have HL := Lib.hid hl
  have HR := Lib.hid hr
  have HC := Lib.hid hc
  have HT := Lib.hid hT
  clear hall hs hl hr hc hT h
  go_enter Tryd.func40, Tryd.ntmps40
  go_wp2_with (first
    | (go_at_call 35; refine Hid.out ?_))
  refine Lib.hid ?_
  have hbA : Below w.heap.size w (w.alloc (.cells #[.slice A2 vals.length c2] 38)) := below_alloc (Below.refl _ w) _
  have HRA := Lib.hid (Kd.C_below HR.out hbA)
  have HTA := Lib.hid (HT.out.on hbA)
  have HBA := Lib.hid hbA
  have HVA := Lib.hid (box_new w (.slice A2 vals.length c2) 38)
  clear hbA
  obtain ⟨Bv, hBv⟩ : ∃ b, w.heap.size = b := ⟨_, rfl⟩
  have HBV := Lib.hid hBv
  have hp1 : (Value.pointer (some ⟨w.heap.size, 0, none⟩)) = .pointer (some ⟨Bv, 0, none⟩) := by rw [hBv]
  rw [hp1]
  rw [hBv] at HVA
  clear hp1 hBv
  generalize w.alloc (.cells #[.slice A2 vals.length c2] 38) = wA at HRA HTA HBA HVA ⊢
  refine (impl_rowOf.calls 40 A2 c2 vals row s wA HRA.out HC.out HTA.out HS.out).mono ?_
  rintro e w1 ⟨rfl, ⟨nd, rfl⟩⟩
  have HRB := Lib.hid (show Kd.C (Kd.int .u16) (wA.drewN nd) A2 vals.length vals from Kd.C_drewN HRA.out nd)
  have HTB := Lib.hid (show RT (wA.drewN nd) from HTA.out)
  have HBB := Lib.hid (pw_below_drewN HBA.out nd)
  have HVB := Lib.hid (show (wA.drewN nd).heap[Bv]? = _ from HVA.out)
  clear HRA HTA HBA HVA HS
  generalize wA.drewN nd = wB at HRB HTB HBB HVB ⊢
  go_wp2_with (first
    | (go_at_call 54; refine Hid.out ?_))
  refine Lib.hid ?_
  have hB0 := below_alloc (Below.refl _ wB) (.cells #[.int .u16 s] 28)
  have HRC := Lib.hid (Kd.C_below HRB.out hB0)
  have HTC := Lib.hid (HTB.out.on hB0)
  have HBC := Lib.hid (HBB.out.alloc HBB.out.size (.cells #[.int .u16 s] 28))
  have HVC := Lib.hid ((hB0.block _ (lt_of_heap HVB.out)).trans HVB.out)
  have HSC := Lib.hid (box_new wB (.int .u16 s) 28)
  clear hB0 HRB HTB HVB
  obtain ⟨Bs, hBs⟩ : ∃ b, wB.heap.size = b := ⟨_, rfl⟩
  have hp1 : (Value.pointer (some ⟨wB.heap.size, 0, none⟩)) = .pointer (some ⟨Bs, 0, none⟩) := by rw [hBs]
  rw [hp1]
  rw [hBs] at HSC
  clear hp1 hBs HBB
  generalize wB.alloc (.cells #[.int .u16 s] 28) = wC at HRC HTC HBC HVC HSC ⊢
  refine (impl_allTurns.calls 40 rule row l wC HTC.out HL.out).mono ?_
  rintro e wD ⟨v, rfl, hv, hb⟩
  have HVD := Lib.hid (Kd.R_lower hv HBC.out.size)
  have HBD := Lib.hid (below_step HBC.out hb)
  have HTD := Lib.hid (HTC.out.on hb)
  have HRD := Lib.hid (Kd.C_below HRC.out hb)
  have hE : WEnv w Bv Bs (.slice A2 vals.length c2) s wD := ⟨(hb.block _ (lt_of_heap HVC.out)).trans HVC.out, (hb.block _ (lt_of_heap HSC.out)).trans HSC.out, HBD.out⟩
  have HE := Lib.hid hE
  obtain ⟨A, c, ev⟩ := Kd.R_slice hv
  subst ev
  clear HRC HTC HBC HVC HSC hv hb hE
  go_wp2_with (first
    | (go_at_call 58; refine Hid.out ?_))
  refine Lib.hid ?_
  refine (deleteU_calls w (WEnv w Bv Bs (.slice A2 vals.length c2) s) (wenv_stays w Bv Bs _ s) (fun m => (impl_rowOf.f 40 vals m).getD 0 != s) Bv Bs l _ wD HE.out ?hcl HVD.out HBD.out HALL.out.1).mono ?_
  case hcl =>
    intro W m hE hm
    have h1 := List.all_eq_true.1 HALL.out.2 m hm
    obtain ⟨x, hx⟩ := Option.isSome_iff_exists.1 h1
    show Calls _ _ _ _ fun e w' => e = .returned (.bool ((impl_rowOf.f 40 vals m).getD 0 != s)) ∧ _
    rw [hx]
    exact other_calls 40 m x s Bv Bs A2 c2 vals W (HT.out.on hE.2.2) hE.1 hE.2.1 (Kd.C_below HR.out hE.2.2) HC.out hx
  rintro e w9 ⟨v9, rfl, h1, h2⟩
  obtain ⟨A9, c9, ev⟩ := Kd.R_slice h1
  subst ev
  have H1 := Lib.hid h1
  have H2 := Lib.hid h2
  clear h1 h2 HE HVD HBD HTD HRD
  go_wp2
  go_ret
  exact ⟨_, rfl, H1.out, H2.out⟩
end Go.Proofs.YtkgnjfoclhkgkaaDoor.Given

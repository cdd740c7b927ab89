/- DeleteFunc over a list of words: walked. -/
import Derived.Test.YtabdpdnofljkcaaProg
import Derived.Below
import Derived.Deep.Draws
import Derived.Deep.AppendLies
import Derived.Maps.AppendAt
import Derived.OwnWalk
import Derived.Laws.BytesArg
import Derived.Laws.MakeOwn
import Derived.Laws.OwnMore
import Derived.Deep.OwnRows
import Derived.Tactics
import Derived.Lib.ConvBytes
import Derived.Laws.Slices
import Derived.WalkKit
import Derived.KernelRfl
import Derived.RowKit3
import Derived.Deep.LoopGhost
import Derived.Deep.QuietTactic
import Derived.BigQuiet
import Derived.WideLaws
import Derived.Deep.DeepCutAuto
import Derived.Deep.CutBlock
import Derived.Deep.RegionHeld3
import Derived.Laws.Rows
import Derived.Lib.AppendStr
import Derived.ArgAppend
import Derived.Laws.IdiomCopy
import Derived.OrdersHeld
import Derived.Laws.BitsLemmas
import Derived.RowKit
import Derived.Lib.Hide
import Derived.WalkSpells
import Derived.Test.YtabdpdnofljkcaaWWords
import Derived.Test.YtabdpdnofljkcaaWLast
import Derived.Test.YtabdpdnofljkcaaWTab
import Derived.Test.YtabdpdnofljkcaaWFour
import Derived.Test.YtabdpdnofljkcaaWQPut
import Derived.Test.YtabdpdnofljkcaaWApart
import Derived.Test.YtabdpdnofljkcaaWArr
import Derived.Test.YtabdpdnofljkcaaWZeros
import Derived.Test.YtabdpdnofljkcaaWFoot
import Derived.Test.YtabdpdnofljkcaaWKept
import Derived.Test.YtabdpdnofljkcaaWShare
import Derived.Test.YtabdpdnofljkcaaWN
import Derived.Test.YtabdpdnofljkcaaWFootNe
import Derived.Test.YtabdpdnofljkcaaWAt
import Derived.Test.YtabdpdnofljkcaaWEqStruct
import Derived.Test.YtabdpdnofljkcaaWRepsOne
import Derived.Test.YtabdpdnofljkcaaWInv
import Derived.Test.YtabdpdnofljkcaaWInvWords
import Derived.Test.YtabdpdnofljkcaaWGuard
import Derived.Test.YtabdpdnofljkcaaWNEv
import Derived.Test.YtabdpdnofljkcaaWMore
import Derived.Test.YtabdpdnofljkcaaN1
import Derived.Test.YtabdpdnofljkcaaRB
import Derived.Lib.SmallJoins
import Derived.Lib.SliceRun
namespace Go.Proofs.Ytabdpdnofljkcaa.Given
open Go.RowKit Go.Proofs.YtabdpdnofljkcaaW.PrintWords Go.Proofs.YtabdpdnofljkcaaW.PrintLast Go.Proofs.YtabdpdnofljkcaaW.PrintMore Go.Proofs.Ytabdpdnofljkcaa.NimF Go.Proofs.Ytabdpdnofljkcaa.NimGo
set_option linter.unusedVariables false
set_option linter.unusedSimpArgs false
open Go.Proofs.Ytabdpdnofljkcaa.NimF
open Go.Proofs.Ytabdpdnofljkcaa.NimGo
theorem cell_belowJ {W W1 : World} {g j : Nat} {v : Value} (h : W.cell? ⟨g, j, none⟩ = some v) (hb : Below W.heap.size W W1) : W1.cell? ⟨g, j, none⟩ = some v := by
  have hlt : g < W.heap.size := by
    rcases Nat.lt_or_ge g W.heap.size with h' | h'
    · exact h'
    · simp [World.cell?, Array.getElem?_eq_none h'] at h
  simpa [World.cell?, hb.block g hlt] using h
theorem filter_all {fr : List Int → Bool} {l : List (List Int)} (h : l.any fr = false) : l.filter (fun x => !fr x) = l := by
  rw [List.filter_eq_self]
  intro x hx
  have := List.any_eq_false.1 h x hx
  simpa using this
theorem filter_snoc (f : List Int → Bool) {l : List (List Int)} {j : Nat} (h : j < l.length) : (l.take (j + 1)).filter f = (l.take j).filter f ++ (if f (l.getD j []) = true then [l.getD j []] else []) := by
  have e : l.take (j + 1) = l.take j ++ [l.getD j []] := by rw [List.take_add_one, List.getElem?_eq_getElem h]; simp [List.getD, h]
  rw [e, List.filter_append]
  congr 1
  by_cases hf : f (l.getD j []) = true
  · rw [if_pos hf, List.filter_cons_of_pos hf, List.filter_nil]
  · rw [if_neg hf, List.filter_cons_of_neg hf, List.filter_nil]
theorem filter_le (f : List Int → Bool) (l : List (List Int)) (j : Nat) : ((l.take j).filter f).length ≤ j := by
  have h1 := List.length_filter_le f (l.take j)
  rw [List.length_take] at h1
  omega
theorem rdL_snoc {wb : World} {es : List Value} {l : List (List Int)} (h : RdL wb es l) {v : Value} {x : List Int} (hv : Rd wb v x) (hl : l.length < es.length) : RdL wb (es.set l.length v) (l ++ [x]) := by
  intro j hj
  rw [List.length_append, List.length_singleton] at hj
  by_cases he : j = l.length
  · subst he
    refine ⟨v, by rw [List.getElem?_set_self hl], ?_⟩
    simpa [List.getD] using hv
  · obtain ⟨u, h1, h2⟩ := h j (by omega)
    refine ⟨u, by rw [List.getElem?_set_ne (by omega)]; exact h1, ?_⟩
    have : (l ++ [x]).getD j [] = l.getD j [] := by simp [List.getD, List.getElem?_append, show j < l.length by omega]
    rw [this]; exact h2
theorem i42 : (Try.prog.info? 42).map (fun i => (i.zero, i.size, i.bytes)) = some (some (.slice none 0 0), 1, 24) := by kernel_rfl
theorem zero42 (w : World) : (zeroValue 42).run Try.prog w = .ok (.slice none 0 0) w := by
  obtain ⟨i, hi, hz⟩ := Option.map_eq_some_iff.1 i42
  simp only [Prod.mk.injEq] at hz
  simp [zeroValue, typeInfo, hi, hz.1]
set_option maxHeartbeats 2000000 in
set_option maxRecDepth 100000 in
theorem delete_calls (fr : List Int → Bool) (Bw Ba : Nat) (wb : World) (g cap : Nat) (es : List Value) (l : List (List Int)) (w : World)
    (hcl : ∀ (W : World) (A' : Option Addr) (c' : Nat) (x : List Int), Below wb.heap.size wb W → x ∈ l → x.length ≤ c' → Kd.C (Kd.int .u16) wb A' x.length x → Calls Try.prog 57 #[.slice A' x.length c', .pointer (some ⟨Bw, 0, none⟩), .pointer (some ⟨Ba, 0, none⟩)] W fun e w' => e = .returned (.bool (fr x)) ∧ Below W.heap.size W w')
    (hg : wb.heap.size ≤ g) (hb : Below wb.heap.size wb w) (hB : Bk w g es) (hr : RdL wb es l) (h8 : l.length ≤ 1048576) (hcap : l.length ≤ cap) (hes : l.length ≤ es.length) :
    Calls Try.prog 55 #[.slice (some ⟨g, 0, none⟩) l.length cap, cl Bw Ba] w fun e w' => e = .returned (.slice (some ⟨g, 0, none⟩) (l.filter (fun x => !fr x)).length cap) ∧ Below wb.heap.size wb w' ∧ ∀ j, j < (l.filter (fun x => !fr x)).length → ∃ v, w'.cell? ⟨g, j, none⟩ = some v ∧ Rd wb v ((l.filter (fun x => !fr x)).getD j []) := by
  have HI := Lib.hid (indexD_calls fr Bw Ba wb g cap es l w hcl hb hB hr h8)
  have HCL := Lib.hid hcl
  have HWB := Lib.hid hb
  have HBK := Lib.hid hB
  have HR := Lib.hid hr
  have H8 := Lib.hid (And.intro h8 (And.intro hcap (And.intro hes hg)))
  have hmax : l.length ≤ 9223372036854775807 := by omega
  obtain ⟨F, hF⟩ : ∃ F, l.filter (fun x => !fr x) = F := ⟨_, rfl⟩
  rw [hF]
  have HFF := Lib.hid hF
  clear hcl hb hB hr h8 hcap hes hg hF
  go_enter Try.func55, Try.ntmps55
  go_wp2_with (go_at_call 61; (with_reducible refine HI.out.mono ?_); rintro e w1 ⟨r, rfl, hrr, hb⟩; have HRR := Lib.hid hrr; have HB1 := Lib.hid hb; clear hrr hb HI; refine Hid.out ?_)
  refine Lib.hid ?_
  rcases HRR.out with ⟨rfl, hall⟩ | ⟨k0, rfl, hk0, hfr, hall⟩
  · have HF : Hid (F = l) := Lib.hid (by rw [← HFF.out]; exact filter_all hall)
    clear HRR hall
    go_wp2
    go_ret
    rw [HF.out]
    exact ⟨rfl, HWB.out.trans (HB1.out.mono (below_size HWB.out)), fun j hj => by obtain ⟨v, h1, h2⟩ := HR.out j hj; exact ⟨v, bk_cell (bk_below HBK.out HB1.out) h1, h2⟩⟩
  · have hne : ((k0 : Int) == -1) = false := beq_eq_false_iff_ne.2 (by omega)
    have HK0 := Lib.hid hk0
    have hke : (l.take k0).filter (fun x => !fr x) = l.take k0 := filter_all hall
    have HS : Hid ((l.take (k0 + 1)).filter (fun x => !fr x) = l.take k0) := Lib.hid (by rw [filter_snoc _ hk0, hke, hfr]; simp)
    have HRS : Hid (RdL wb es (l.take k0)) := Lib.hid (fun j hj => by
      have hj2 : j < k0 := by rw [List.length_take] at hj; omega
      obtain ⟨v, h1, h2⟩ := HR.out j (by omega)
      refine ⟨v, h1, ?_⟩
      have : (l.take k0).getD j [] = l.getD j [] := by simp [List.getD, List.getElem?_take, hj2]
      rw [this]; exact h2)
    have HTL : Hid ((l.take k0).length = k0) := Lib.hid (by rw [List.length_take]; omega)
    clear HRR hke hfr hall hk0
    have hnb : k0 < 9223372036854775807 := by have := HK0.out; omega
    have hk1 : (k0 : Int) < (l.length : Int) := by have := HK0.out; omega
    go_wp2
    go_loopg [5, 6, 7] l.length (fun gg v5 v6 v7 wr => ∃ (i j : Nat) (cs : List Value), v5 = .int .i64 (i : Int) ∧ v6 = .int .i64 (j : Int) ∧ Hid (j ≤ l.length) ∧ Hid (l.length - j ≤ gg) ∧ Hid (i < j) ∧ Hid (((l.take j).filter (fun x => !fr x)).length = i) ∧ Hid (RdL wb cs ((l.take j).filter (fun x => !fr x))) ∧ Hid (∀ t, j ≤ t → cs[t]? = es[t]?) ∧ Hid (cs.length = es.length) ∧ Hid (Bk wr g cs) ∧ Hid (Below wb.heap.size wb wr))
    case atStart => exact ⟨k0, k0 + 1, es, rfl, by first | rfl | go_num, Lib.hid HK0.out, Lib.hid (Nat.sub_le _ _), Lib.hid (Nat.lt_succ_self _), Lib.hid (by rw [HS.out, HTL.out]), Lib.hid (by rw [HS.out]; exact HRS.out), Lib.hid (fun _ _ => rfl), Lib.hid rfl, Lib.hid (bk_below HBK.out HB1.out), Lib.hid (HWB.out.trans (HB1.out.mono (below_size HWB.out)))⟩
    case round =>
      clear HB1 hnb HK0 hk1 HS HRS HTL hne HBK
      obtain ⟨i, j, cs, rfl, rfl, hj, hgg, hij, hlen, HRF, HTA, HLE, HBK, HB⟩ := hrel
      by_cases hlt : j < l.length
      · have hb0 : decide ((j : Int) < (l.length : Int)) = true := decide_eq_true (by omega)
        have hi0 : (0 : Int) ≤ (j : Int) := by omega
        have hjn : (j : Int) < (l.length : Int) := by omega
        have hnb : j < 9223372036854775807 := by omega
        have hnb2 : i < 9223372036854775807 := by have := hij.out; omega
        have hi1 : (i : Int) < (l.length : Int) := by have := hij.out; omega
        have hi2 : (0 : Int) ≤ (i : Int) := by omega
        obtain ⟨v, hv, hrd⟩ := HR.out j hlt
        have HRD := Lib.hid hrd
        have hvc : cs[j]? = some v := by rw [HTA.out j (Nat.le_refl _)]; exact hv
        have hcj := bk_cell HBK.out hvc
        obtain ⟨A', c', rfl, hcx, hi⟩ := hrd
        obtain ⟨u, hu⟩ : ∃ u, cs[i]? = some u := ⟨_, List.getElem?_eq_getElem (by have := HLE.out; have := H8.out; have := hij.out; omega)⟩
        have hci := bk_cell HBK.out hu
        have hfi := bk_free HBK.out i
        have HK := Lib.hid (HCL.out wr A' c' (l.getD j []) HB.out (getD_mem hlt) hcx hi)
        have HFS := Lib.hid (filter_snoc (fun x => !fr x) hlt)
        generalize l.getD j [] = y at hcj HK HFS HRD
        have HLT := Lib.hid hlt
        clear hv hvc hcx hi hu hlt
        cases hq : fr y with
        | false =>
          have HFT : Hid ((l.take (j + 1)).filter (fun x => !fr x) = (l.take j).filter (fun x => !fr x) ++ [y]) := Lib.hid (by rw [HFS.out, hq]; simp)
          rw [hq] at HK
          clear hq HFS
          go_wp2_with (go_at_call 57; (with_reducible refine HK.out.mono ?_); rintro e w2 ⟨rfl, hb⟩; have HB2 := Lib.hid hb; have hci2 := cell_belowJ hci hb; have hfi2 := bk_free (bk_below HBK.out hb) i; clear hb hci hfi hcj)
          go_roundg (l.length - (j + 1))
          case measure => have := hgg.out; have := HLT.out; omega
          case rel =>
            refine ⟨i + 1, j + 1, cs.set i (.slice A' y.length c'), by first | rfl | go_num, by first | rfl | go_num, Lib.hid HLT.out, Lib.hid (Nat.le_refl _), Lib.hid (by have := hij.out; omega), Lib.hid (by rw [HFT.out, List.length_append, hlen.out]; rfl), Lib.hid ?_, Lib.hid (fun t ht => by rw [List.getElem?_set_ne (by have := hij.out; omega)]; exact HTA.out t (by omega)), Lib.hid (by rw [List.length_set]; exact HLE.out), Lib.hid (bk_set (bk_below HBK.out HB2.out) i _), Lib.hid ((HB.out.trans (HB2.out.mono (below_size HB.out))).setCell (p := ⟨g, i, none⟩) H8.out.2.2.2 _)⟩
            rw [HFT.out, ← hlen.out]
            exact rdL_snoc HRF.out HRD.out (by rw [hlen.out, HLE.out]; have := HLT.out; have := H8.out; have := hij.out; omega)
        | true =>
          have HFT : Hid ((l.take (j + 1)).filter (fun x => !fr x) = (l.take j).filter (fun x => !fr x)) := Lib.hid (by rw [HFS.out, hq]; simp)
          rw [hq] at HK
          clear hq HFS
          go_wp2_with (go_at_call 57; (with_reducible refine HK.out.mono ?_); rintro e w2 ⟨rfl, hb⟩; have HB2 := Lib.hid hb; clear hb)
          go_roundg (l.length - (j + 1))
          case measure => have := hgg.out; have := HLT.out; omega
          case rel =>
            exact ⟨i, j + 1, cs, rfl, by first | rfl | go_num, Lib.hid HLT.out, Lib.hid (Nat.le_refl _), Lib.hid (by have := hij.out; omega), Lib.hid (by rw [HFT.out]; exact hlen.out), Lib.hid (by rw [HFT.out]; exact HRF.out), Lib.hid (fun t ht => HTA.out t (by omega)), HLE, Lib.hid (bk_below HBK.out HB2.out), Lib.hid (HB.out.trans (HB2.out.mono (below_size HB.out)))⟩
      · have en : j = l.length := by have := hj.out; omega
        subst en
        rw [List.take_length, HFF.out] at hlen HRF
        have hb0 : decide ((l.length : Int) < (l.length : Int)) = false := decide_eq_false (by omega)
        obtain ⟨i42', hi42, hz42⟩ := Option.map_eq_some_iff.1 i42
        simp only [Prod.mk.injEq] at hz42
        have hsz42 := hz42.2.1
        have hs1 : ∀ W, (Instr.slice 27 (.slice (some ⟨g, 0, none⟩) l.length cap) none (some (.int .i64 (i : Int))) none).run Try.prog W = .ok (.slice (some ⟨g, 0, none⟩) i cap) W := fun W => by
          have := cut_to (P := Try.prog) 27 42 .i64 Try.underlying27 hi42 (some ⟨g, 0, none⟩) l.length cap (i : Int) (by omega) (by have := hij.out; omega) H8.out.2.1 W
          rw [Int.toNat_natCast] at this
          exact this
        have hs2 : ∀ W, (Instr.slice 27 (.slice (some ⟨g, 0, none⟩) l.length cap) (some (.int .i64 (i : Int))) none none).run Try.prog W = .ok (.slice (some ⟨g, i, none⟩) (l.length - i) (cap - i)) W := fun W => by
          have h1 := cut_from (P := Try.prog) 27 42 .i64 Try.underlying27 hi42 1 hsz42 (some ⟨g, 0, none⟩) l.length cap (i : Int) (by omega) (by have := hij.out; omega) W
          rw [Int.toNat_natCast, if_neg (by have := H8.out; have := hij.out; omega)] at h1
          rw [h1]
          have e : (⟨g, 0, none⟩ : Addr).add (i * 1) = ⟨g, i, none⟩ := by simp only [Addr.add, Nat.zero_add, Nat.mul_one]; split <;> simp_all
          simp only [Option.map_some, e]
        have hclr : ∀ ty, (Builtin.clear_ #[27] ty #[.slice (some ⟨g, i, none⟩) (l.length - i) (cap - i)]).run Try.prog wr = .ok (.tuple #[]) (wr.setCells g i (List.replicate (l.length - i) (.slice none 0 0))) := fun ty =>
          Lib.run_clear_slice wr 27 42 ty (.slice none 0 0) Try.underlying27 zero42 rfl rfl g i _ _ (by have := hij.out; omega) (fun t ht => by
            obtain ⟨u, hu⟩ : ∃ u, cs[i + t]? = some u := ⟨_, List.getElem?_eq_getElem (by have := HLE.out; have := H8.out; omega)⟩
            rw [bk_cell HBK.out hu]; rfl) (fun t ht => bk_free HBK.out _)
        have HFIN : Hid (Below wb.heap.size wb (wr.setCells g i (List.replicate (l.length - i) (.slice none 0 0))) ∧ ∀ j, j < i → ∃ v, (wr.setCells g i (List.replicate (l.length - i) (.slice none 0 0))).cell? ⟨g, j, none⟩ = some v ∧ Rd wb v (F.getD j [])) := Lib.hid ⟨below_setCells' HB.out H8.out.2.2.2 _ _, fun j hj => by
          obtain ⟨v, h1, h2⟩ := HRF.out j (by rw [hlen.out]; exact hj)
          exact ⟨v, by rw [World.cell?_setCells_out g _ _ _ _ (fun _ _ => Or.inl hj)]; exact bk_cell HBK.out h1, h2⟩⟩
        clear hi42 hz42 hsz42 HRF HTA HLE hlt hgg hj
        go_wp2
        go_ret
        rw [hlen.out]
        exact ⟨rfl, HFIN.out.1, HFIN.out.2⟩

end Go.Proofs.Ytabdpdnofljkcaa.Given

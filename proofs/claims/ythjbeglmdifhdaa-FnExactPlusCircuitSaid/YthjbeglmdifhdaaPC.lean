/- The circuit of a sum, as the program and as the reference make it: walked. -/
import Derived.Test.YthjbeglmdifhdaaProg
import Derived.Below
import Derived.Deep.Draws
import Derived.Deep.AppendLies
import Derived.Maps.AppendAt
import Derived.OwnWalk
import Derived.Laws.BytesArg
import Derived.Laws.MakeOwn
import Derived.Laws.OwnMore
import Derived.Deep.OwnRows
import Derived.Tactics
import Derived.Lib.ConvBytes
import Derived.Laws.Slices
import Derived.WalkKit
import Derived.KernelRfl
import Derived.RowKit3
import Derived.Deep.LoopGhost
import Derived.Deep.QuietTactic
import Derived.BigQuiet
import Derived.WideLaws
import Derived.Deep.DeepCutAuto
import Derived.Deep.CutBlock
import Derived.Deep.RegionHeld3
import Derived.Laws.Rows
import Derived.Lib.AppendStr
import Derived.ArgAppend
import Derived.Laws.IdiomCopy
import Derived.OrdersHeld
import Derived.Laws.BitsLemmas
import Derived.RowKit
import Derived.Lib.Hide
import Derived.WalkSpells
import Derived.Test.YthjbeglmdifhdaaWWords
import Derived.Test.YthjbeglmdifhdaaWLast
import Derived.Test.YthjbeglmdifhdaaWTab
import Derived.Test.YthjbeglmdifhdaaWFour
import Derived.Test.YthjbeglmdifhdaaWQPut
import Derived.Test.YthjbeglmdifhdaaWApart
import Derived.Test.YthjbeglmdifhdaaWArr
import Derived.Test.YthjbeglmdifhdaaWZeros
import Derived.Test.YthjbeglmdifhdaaWFoot
import Derived.Test.YthjbeglmdifhdaaWKept
import Derived.Test.YthjbeglmdifhdaaWShare
import Derived.Test.YthjbeglmdifhdaaWN
import Derived.Test.YthjbeglmdifhdaaWFootNe
import Derived.Test.YthjbeglmdifhdaaWAt
import Derived.Test.YthjbeglmdifhdaaWEqStruct
import Derived.Test.YthjbeglmdifhdaaWRepsOne
import Derived.Test.YthjbeglmdifhdaaWInv
import Derived.Test.YthjbeglmdifhdaaWInvWords
import Derived.Test.YthjbeglmdifhdaaWGuard
import Derived.Test.YthjbeglmdifhdaaWNEv
import Derived.Test.YthjbeglmdifhdaaWMore
import Derived.Test.YthjbeglmdifhdaaN1
import Derived.Test.YthjbeglmdifhdaaRFnExactPlusCircuitx0
import Derived.Lib.SmallJoins
import Derived.StillTailTactics
namespace Go.Proofs.Ythjbeglmdifhdaa.Given
open Go.RowKit Go.Proofs.YthjbeglmdifhdaaW.PrintWords Go.Proofs.YthjbeglmdifhdaaW.PrintLast Go.Proofs.YthjbeglmdifhdaaW.PrintMore Go.Proofs.Ythjbeglmdifhdaa.NimF Go.Proofs.Ythjbeglmdifhdaa.NimGo
set_option linter.unusedVariables false
set_option linter.unusedSimpArgs false
open Go.Proofs.Ythjbeglmdifhdaa.RFnExactPlusCircuit
theorem infoS96 : (Try.prog.info? 96).map (fun i => (i.zero, i.size, i.bytes)) = some (some (.agg #[.int .i8 0, .int .i16 0, .int .i16 0]), 3, 6) := by kernel_rfl
theorem infoS94 : (Try.prog.info? 94).map (fun i => (i.zero, i.size, i.bytes)) = some (some (.int .i16 0), 1, 2) := by kernel_rfl
theorem lt_of_heap {w : World} {g : Nat} {o : Obj} (h : w.heap[g]? = some o) : g < w.heap.size := by
  rcases Nat.lt_or_ge g w.heap.size with h' | h'
  · exact h'
  · rw [Array.getElem?_eq_none h'] at h; cases h
set_option maxHeartbeats 4000000 in
set_option maxRecDepth 100000 in
/-- a gate is added -/
theorem gate_calls (kind a b n2 : Int) (ov : Value) (M : Nat) (gv : Value) (G : List S96) (base : Nat) (w0 w : World) (hM : w.heap[M]? = some (.cells #[.int .i8 n2, gv, ov] 127 (0, 0))) (hbM : base ≤ M)
    (hR : Kd.R k96 96 w base (fun _ => True) gv G) (hB : Below base w0 w) (hl : G.length ≤ 1000) :
    Calls Try.prog 86 #[.pointer (some ⟨M, 0, none⟩), .int .i8 kind, .int .i16 a, .int .i16 b] w fun e w' => ∃ gv' : Value, e = .returned (.int .i16 (G.length : Int)) ∧ w'.heap[M]? = some (.cells #[.int .i8 n2, gv', ov] 127 (0, 0)) ∧ Kd.R k96 96 w' base (fun _ => True) gv' (G ++ [⟨kind, a, b⟩]) ∧ Below base w0 w' ∧ w.heap.size ≤ w'.heap.size ∧ ∀ k, k < w.heap.size → k ≠ M → some k ≠ gv.ownBlock → w'.heap[k]? = w.heap[k]? := by
  have hlt := lt_of_heap hM
  have hne := Kd.R_ne hR hM (by decide)
  have hc0 := Go.Joins.cell_of_block hM 1
  have hf0 := Go.Joins.unfrozen_of_block hM 1
  simp only [List.getElem?_toArray, List.getElem?_cons_zero, List.getElem?_cons_succ] at hc0
  have HM := Lib.hid hM
  have HR := Lib.hid hR
  have HB := Lib.hid hB
  have HNE := Lib.hid hne
  have HLT := Lib.hid hlt
  have HBM := Lib.hid hbM
  have HLEN : Hid ((G ++ [(⟨kind, a, b⟩ : S96)]).length = G.length + 1) := Lib.hid (by rw [List.length_append]; rfl)
  have g1 : (G.length : Int) ≤ 32767 := by omega
  have g0 : (0 : Int) ≤ (G.length : Int) := by omega
  have gn : G.length ≤ 32767 := by omega
  obtain ⟨A0, c0, rfl⟩ := Kd.R_slice hR
  clear hM hR hB hne hlt hbM
  go_enter Try.func86, Try.ntmps86
  go_wp2_with (first
    | ((with_reducible refine gate_builtin (b := .append) (xs := #[.tmp 14, .tmp 19]) rfl ?_); at_builtin; refine Kd.R_append k96 (w0 := w0) base rfl (.tmp 14) (.tmp 19) 61 96 (.agg #[.int .i8 0, .int .i16 0, .int .i16 0]) 6 rfl Try.underlying61 infoS96 rfl (by decide) (by omega) (.slice A0 G.length c0) G ⟨kind, a, b⟩ [.int .i8 kind, .int .i16 a, .int .i16 b] (fun _ => True) (fun _ => False) rfl rfl ?aP (fun _ hk => hk.elim) ?aF ?aO ?aB ?aS ?aL ?_; (case aP => exact k96_mkM _ _ _ _); (case aB => exact HB.out); (case aF => exact (fun _ _ => trivial)); (case aO => exact HR.out); (case aS => exact (Nat.le_of_lt (Nat.lt_of_le_of_lt HBM.out HLT.out))); (case aL => omega); intro v1 w1 ho hb hg hat; obtain ⟨A1, c1, ev⟩ := Kd.R_slice ho; rw [HLEN.out] at ev; subst ev; have HM1 := Lib.hid ((hg.block _ HLT.out HNE.out).trans HM.out); have HO := Lib.hid ho; have HB1 := Lib.hid hb; have HG := Lib.hid hg; have hc1 := Go.Joins.cell_of_block HM1.out 1; have hf1 := Go.Joins.unfrozen_of_block HM1.out 1; simp only [List.getElem?_toArray, List.getElem?_cons_zero, List.getElem?_cons_succ] at hc1; clear ho hb hg hat))
  go_ret
  refine ⟨.slice A1 (G.length + 1) c1, by rfl, ?_, ?_, ?_, ?_, ?_⟩
  · rw [Go.Joins.block_setCell HM1.out]; rfl
  · exact Kd.R_set HO.out HM1.out (by decide) _ _
  · exact HB1.out.setCell (p := ⟨M, 1, none⟩) HBM.out _
  · simp; exact (HG.out).size
  · intro k hk h1 h2
    rw [Below.heap_setCell w1 _ _ k h1]
    exact HG.out.block k hk h2
set_option maxHeartbeats 4000000 in
set_option maxRecDepth 100000 in
/-- a gate is added -/
theorem add_calls (kind a b n2 : Int) (ov : Value) (M : Nat) (gv : Value) (G : List S96) (base : Nat) (w0 w : World) (hM : w.heap[M]? = some (.cells #[gv] 105 (0, 0))) (hbM : base ≤ M)
    (hR : Kd.R k96 96 w base (fun _ => True) gv G) (hB : Below base w0 w) (hl : G.length ≤ 1000) :
    Calls Try.prog 84 #[.pointer (some ⟨M, 0, none⟩), .int .i8 kind, .int .i16 a, .int .i16 b] w fun e w' => ∃ gv' : Value, e = .returned (.int .i16 (G.length : Int)) ∧ w'.heap[M]? = some (.cells #[gv'] 105 (0, 0)) ∧ Kd.R k96 96 w' base (fun _ => True) gv' (G ++ [⟨kind, a, b⟩]) ∧ Below base w0 w' ∧ w.heap.size ≤ w'.heap.size ∧ ∀ k, k < w.heap.size → k ≠ M → some k ≠ gv.ownBlock → w'.heap[k]? = w.heap[k]? := by
  have hlt := lt_of_heap hM
  have hne := Kd.R_ne hR hM (by decide)
  have hc0 := Go.Joins.cell_of_block hM 0
  have hf0 := Go.Joins.unfrozen_of_block hM 0
  simp only [List.getElem?_toArray, List.getElem?_cons_zero, List.getElem?_cons_succ] at hc0
  have HM := Lib.hid hM
  have HR := Lib.hid hR
  have HB := Lib.hid hB
  have HNE := Lib.hid hne
  have HLT := Lib.hid hlt
  have HBM := Lib.hid hbM
  have HLEN : Hid ((G ++ [(⟨kind, a, b⟩ : S96)]).length = G.length + 1) := Lib.hid (by rw [List.length_append]; rfl)
  have g1 : (G.length : Int) ≤ 32767 := by omega
  have g0 : (0 : Int) ≤ (G.length : Int) := by omega
  have gn : G.length ≤ 32767 := by omega
  obtain ⟨A0, c0, rfl⟩ := Kd.R_slice hR
  clear hM hR hB hne hlt hbM
  go_enter Try.func84, Try.ntmps84
  go_wp2_with (first
    | ((with_reducible refine gate_builtin (b := .append) (xs := #[.tmp 13, .tmp 18]) rfl ?_); at_builtin; refine Kd.R_append k96 (w0 := w0) base rfl (.tmp 13) (.tmp 18) 61 96 (.agg #[.int .i8 0, .int .i16 0, .int .i16 0]) 6 rfl Try.underlying61 infoS96 rfl (by decide) (by omega) (.slice A0 G.length c0) G ⟨kind, a, b⟩ [.int .i8 kind, .int .i16 a, .int .i16 b] (fun _ => True) (fun _ => False) rfl rfl ?aP (fun _ hk => hk.elim) ?aF ?aO ?aB ?aS ?aL ?_; (case aP => exact k96_mkM _ _ _ _); (case aB => exact HB.out); (case aF => exact (fun _ _ => trivial)); (case aO => exact HR.out); (case aS => exact (Nat.le_of_lt (Nat.lt_of_le_of_lt HBM.out HLT.out))); (case aL => omega); intro v1 w1 ho hb hg hat; obtain ⟨A1, c1, ev⟩ := Kd.R_slice ho; rw [HLEN.out] at ev; subst ev; have HM1 := Lib.hid ((hg.block _ HLT.out HNE.out).trans HM.out); have HO := Lib.hid ho; have HB1 := Lib.hid hb; have HG := Lib.hid hg; have hc1 := Go.Joins.cell_of_block HM1.out 0; have hf1 := Go.Joins.unfrozen_of_block HM1.out 0; simp only [List.getElem?_toArray, List.getElem?_cons_zero, List.getElem?_cons_succ] at hc1; clear ho hb hg hat))
  go_ret
  refine ⟨.slice A1 (G.length + 1) c1, by rfl, ?_, ?_, ?_, ?_, ?_⟩
  · rw [Go.Joins.block_setCell HM1.out]; rfl
  · exact Kd.R_set HO.out HM1.out (by decide) _ _
  · exact HB1.out.setCell (p := ⟨M, 0, none⟩) HBM.out _
  · simp; exact (HG.out).size
  · intro k hk h1 h2
    rw [Below.heap_setCell w1 _ _ k h1]
    exact HG.out.block k hk h2

def ins (n : Nat) : List S96 := (List.range n).map fun (i : Nat) => ⟨0, (i : Int), 0⟩
def idx (n : Nat) : List Int := (List.range n).map fun (i : Nat) => (i : Int)
theorem ins_succ (n : Nat) : ins (n + 1) = ins n ++ [⟨0, (n : Int), 0⟩] := by simp [ins, List.range_succ]
theorem idx_succ (n : Nat) : idx (n + 1) = idx n ++ [(n : Int)] := by simp [idx, List.range_succ]
theorem ins_len (n : Nat) : (ins n).length = n := by simp [ins]
theorem idx_len (n : Nat) : (idx n).length = n := by simp [idx]
/-- a row of small numbers stays where a gate is added -/
theorem R_kept {W w1 : World} {base : Nat} {ok : Nat → Prop} {u gv : Value} {xs : List Int} {G : List S96} {M TY : Nat} {cells : Array Value} (h : (Kd.int .i16).R 94 W base ok u xs) (hg : Kd.R k96 96 W base (fun _ => True) gv G)
    (hM : W.heap[M]? = some (.cells cells TY (0, 0))) (hT : 94 ≠ TY) (hk : ∀ k, k < W.heap.size → k ≠ M → some k ≠ gv.ownBlock → w1.heap[k]? = W.heap[k]?) : (Kd.int .i16).R 94 w1 base ok u xs := by
  refine Kd.R_mono (Kd.R_move (Kd.R_bound h) (fun k hb => ?_)) (fun _ hb => hb.1)
  obtain ⟨_, _, hlt, q, hq, cs, hc⟩ := hb
  have hq2 : q = 94 := by simpa [Kd.int, Kd.scalar] using hq
  subst hq2
  refine hk k hlt ?_ ?_
  · rintro rfl
    rw [hM] at hc
    injection hc with hc
    injection hc with _ hc
    exact hT hc.symm
  · intro e
    obtain ⟨inner, ho⟩ := Kd.R_own hg
    obtain ⟨cs2, hc2⟩ := own_typed ho k e.symm
    rw [hc] at hc2
    injection hc2 with hc2
    injection hc2 with _ hc2
    exact absurd hc2 (by decide)
set_option maxHeartbeats 4000000 in
set_option maxRecDepth 100000 in
/-- the inputs, as the first gates -/
theorem newMaker_calls (n : Nat) (hn : n ≤ 16) (w : World) : Calls Try.prog 85 #[.int .i64 (n : Int)] w fun e w' => ∃ (M : Nat) (gv v : Value), e = .returned (.tuple #[.pointer (some ⟨M, 0, none⟩), v]) ∧ w.heap.size ≤ M ∧ w'.heap[M]? = some (.cells #[.int .i8 (n : Int), gv, .slice none 0 0] 127 (0, 0)) ∧ Kd.R k96 96 w' w.heap.size (fun _ => True) gv (ins n) ∧ (Kd.int .i16).R 94 w' w.heap.size (fun _ => True) v (idx n) ∧ Below w.heap.size w w' := by
  have HN := Lib.hid hn
  have g8 : (n : Int) ≤ 127 := by omega
  have g0 : (0 : Int) ≤ (n : Int) := by omega
  have HM0 : Hid (w.heap.size ≤ w.heap.size) := Lib.hid (Nat.le_refl _)
  clear hn
  go_enter Try.func85, Try.ntmps85
  go_wp2_with (first
    | ((with_reducible refine gate_dst (N := 11) rfl ?_); refine box_event ?hg (N := 11) ?hd (cs := #[.int .i8 (n : Int), .slice none 0 0, .slice none 0 0]) (t := 127) ?hr ?_; (case hd => rfl); (case hg => rfl); (case hr => first | (go_simp; done) | (go_simp; rfl)); intro M hM0 w2 hbox hb; have HBX := Lib.hid hbox; have HB0 := Lib.hid hb; have HMM := Lib.hid (Nat.le_of_eq hM0.symm); clear hM0 hbox hb)
    | ((with_reducible refine gate_dst (N := 12) rfl ?_); refine Kd.R_lit (w0 := w) (Kd.int .i16) w.heap.size 94 ?hg (N := 12) ?hd (xs := ([] : List Int)) (inner := []) (ok := fun _ => True) (okp := fun _ => True) ?hr ?hp (fun _ hk => hk) trivial HB0.out (Below.size HB0.out) (by simp) ?_; (case hd => rfl); (case hg => rfl); (case hr => first | (go_simp; done) | (go_simp; rfl)); (case hp => exact (Reps.none _ _)); intro v1 w1 ho hb hg_ hnew_; have HO := Lib.hid ho; have HB := Lib.hid hb; have HM := Lib.hid ((hg_.block _ (lt_of_heap HBX.out) (by simp)).trans HBX.out); have HR := Lib.hid (Kd.R_nil k96 96 w1 w.heap.size (fun _ => True)); clear hg_ hnew_; clear ho hb))
  go_loopg [5, 14] n (fun gg v5 v14 wr => ∃ (k : Nat) (gv : Value), Hid (k ≤ n) ∧ Hid (n - k ≤ gg) ∧ v14 = .int .i64 (k : Int) ∧ Hid (wr.heap[M]? = some (.cells #[.int .i8 (n : Int), gv, .slice none 0 0] 127 (0, 0))) ∧ Hid (Kd.R k96 96 wr w.heap.size (fun _ => True) gv (ins k)) ∧ Hid ((Kd.int .i16).R 94 wr w.heap.size (fun _ => True) v5 (idx k)) ∧ Hid (Below w.heap.size w wr))
  case atStart => exact ⟨0, .slice none 0 0, Lib.hid (Nat.zero_le _), Lib.hid (Nat.sub_le _ _), rfl, HM, HR, HO, HB⟩
  case round =>
    clear HO HB HM HR
    obtain ⟨k, gv, hk, hg, rfl, HM, HR, HO, HB⟩ := hrel
    by_cases hlt : k < n
    · have HC := Lib.hid (gate_calls 0 (k : Int) 0 (n : Int) (.slice none 0 0) M gv (ins k) w.heap.size w wr HM.out HMM.out HR.out HB.out (by rw [ins_len]; have := HN.out; omega))
      rw [ins_len] at HC
      have HKO := fun w1 h => Lib.hid (R_kept (w1 := w1) HO.out HR.out HM.out (by decide) h)
      have TI : Hid (idx (k + 1) = idx k ++ [(k : Int)]) := Lib.hid (idx_succ k)
      have TG : Hid (ins (k + 1) = ins k ++ [⟨0, (k : Int), 0⟩]) := Lib.hid (ins_succ k)
      have hb0 : decide ((k : Int) < (n : Int)) = true := decide_eq_true (by omega)
      have hi0 : (0 : Int) ≤ (k : Int) := by omega
      have hn2 : (k : Int) ≤ 32767 := by have := HN.out; omega
      have hnb : k < 9223372036854775807 := by have := HN.out; omega
      have HLT := Lib.hid hlt
      have HLK : Hid ((idx k).length = k) := Lib.hid (idx_len k)
      clear hlt
      go_wp2_with (first
        | (go_at_call 86; refine HC.out.mono ?_; rintro e w1 ⟨gv2, rfl, hm, hr, hb, hs, hkp⟩; have HO2 := HKO w1 hkp; have HM2 := Lib.hid hm; have HR2 := Lib.hid hr; have HB2 := Lib.hid hb; clear hm hr hb hs hkp)
        | ((with_reducible refine gate_builtin (b := .append) (xs := #[.tmp 17, .tmp 22]) rfl ?_); at_builtin; refine Kd.R_append (Kd.int .i16) (w0 := w) w.heap.size rfl (.tmp 17) (.tmp 22) 56 94 (.int .i16 0) 2 rfl Try.underlying56 infoS94 rfl (by decide) (by omega) u5 (idx k) (k : Int) [.int .i16 (k : Int)] (fun _ => True) (fun _ => False) rfl rfl ?aP (fun _ hk => hk.elim) ?aF ?aO ?aB ?aS ?aL ?_; (case aP => exact rfl); (case aB => exact HB2.out); (case aF => exact (fun _ _ => trivial)); (case aO => exact HO2.out); (case aS => exact (Nat.le_of_lt (Nat.lt_of_le_of_lt HMM.out (lt_of_heap HM2.out)))); (case aL => have := HLK.out; have := HN.out; have := HLT.out; omega); intro v4 w4 ho hb hg2 hat; have HO4 := Lib.hid ho; have HB4 := Lib.hid hb; have HM4 := Lib.hid ((hg2.block _ (lt_of_heap HM2.out) (Kd.R_ne HO2.out HM2.out (by decide))).trans HM2.out); have HR4 := Lib.hid (Kd.R_over HR2.out HO2.out (by decide) hg2); clear ho hb hg2 hat))
      go_roundg (n - (k + 1))
      case measure => have := hg.out; have := HLT.out; omega
      case rel => exact ⟨k + 1, _, Lib.hid HLT.out, Lib.hid (Nat.le_refl _), rfl, HM4, Lib.hid (by rw [TG.out]; exact HR4.out), Lib.hid (by rw [TI.out]; exact HO4.out), HB4⟩
    · have en : k = n := by have := hk.out; omega
      subst en
      have hb0 : decide ((k : Int) < (k : Int)) = false := decide_eq_false (by omega)
      clear hk hg hlt
      go_wp2
      go_ret2
      exact ⟨M, gv, _, rfl, HMM.out, HM.out, HR.out, HO.out, HB.out⟩
set_option maxHeartbeats 4000000 in
set_option maxRecDepth 100000 in
/-- the inputs, as the first gates -/
theorem inputs_calls (n : Nat) (hn : n ≤ 16) (M : Nat) (base : Nat) (w0 w : World) (hM : w.heap[M]? = some (.cells #[.slice none 0 0] 105 (0, 0))) (hbM : base ≤ M) (hB : Below base w0 w) : Calls Try.prog 68 #[.pointer (some ⟨M, 0, none⟩), .int .i64 (n : Int)] w fun e w' => ∃ (gv v : Value), e = .returned v ∧ w'.heap[M]? = some (.cells #[gv] 105 (0, 0)) ∧ Kd.R k96 96 w' base (fun _ => True) gv (ins n) ∧ (Kd.int .i16).R 94 w' base (fun _ => True) v (idx n) ∧ Below base w0 w' := by
  have HN := Lib.hid hn
  have g0 : (0 : Int) ≤ (n : Int) := by omega
  have HBX := Lib.hid hM
  have HMM := Lib.hid hbM
  have HB0 := Lib.hid hB
  clear hn hM hbM hB
  go_enter Try.func68, Try.ntmps68
  go_wp2_with (first
    | ((with_reducible refine gate_dst (N := 7) rfl ?_); refine Kd.R_lit (w0 := w0) (Kd.int .i16) base 94 ?hg (N := 7) ?hd (xs := ([] : List Int)) (inner := []) (ok := fun _ => True) (okp := fun _ => True) ?hr ?hp (fun _ hk => hk) trivial HB0.out (Nat.le_of_lt (Nat.lt_of_le_of_lt HMM.out (lt_of_heap HBX.out))) (by simp) ?_; (case hd => rfl); (case hg => rfl); (case hr => first | (go_simp; done) | (go_simp; rfl)); (case hp => exact (Reps.none _ _)); intro v1 w1 ho hb hg_ hnew_; have HO := Lib.hid ho; have HB := Lib.hid hb; have HM := Lib.hid ((hg_.block _ (lt_of_heap HBX.out) (by simp)).trans HBX.out); have HR := Lib.hid (Kd.R_nil k96 96 w1 base (fun _ => True)); clear hg_ hnew_; clear ho hb))
  go_loopg [5, 6] n (fun gg v5 v6 wr => ∃ (k : Nat) (gv : Value), Hid (k ≤ n) ∧ Hid (n - k ≤ gg) ∧ v6 = .int .i64 (k : Int) ∧ Hid (wr.heap[M]? = some (.cells #[gv] 105 (0, 0))) ∧ Hid (Kd.R k96 96 wr base (fun _ => True) gv (ins k)) ∧ Hid ((Kd.int .i16).R 94 wr base (fun _ => True) v5 (idx k)) ∧ Hid (Below base w0 wr))
  case atStart => exact ⟨0, .slice none 0 0, Lib.hid (Nat.zero_le _), Lib.hid (Nat.sub_le _ _), rfl, HM, HR, HO, HB⟩
  case round =>
    clear HO HB HM HR
    obtain ⟨k, gv, hk, hg, rfl, HM, HR, HO, HB⟩ := hrel
    by_cases hlt : k < n
    · have HC := Lib.hid (add_calls 0 (k : Int) 0 0 (.slice none 0 0) M gv (ins k) base w0 wr HM.out HMM.out HR.out HB.out (by rw [ins_len]; have := HN.out; omega))
      rw [ins_len] at HC
      have HKO := fun w1 h => Lib.hid (R_kept (w1 := w1) HO.out HR.out HM.out (by decide) h)
      have TI : Hid (idx (k + 1) = idx k ++ [(k : Int)]) := Lib.hid (idx_succ k)
      have TG : Hid (ins (k + 1) = ins k ++ [⟨0, (k : Int), 0⟩]) := Lib.hid (ins_succ k)
      have hb0 : decide ((k : Int) < (n : Int)) = true := decide_eq_true (by omega)
      have hi0 : (0 : Int) ≤ (k : Int) := by omega
      have hn2 : (k : Int) ≤ 32767 := by have := HN.out; omega
      have hnb : k < 9223372036854775807 := by have := HN.out; omega
      have HLT := Lib.hid hlt
      have HLK : Hid ((idx k).length = k) := Lib.hid (idx_len k)
      clear hlt
      go_wp2_with (first
        | (go_at_call 84; refine HC.out.mono ?_; rintro e w1 ⟨gv2, rfl, hm, hr, hb, hs, hkp⟩; have HO2 := HKO w1 hkp; have HM2 := Lib.hid hm; have HR2 := Lib.hid hr; have HB2 := Lib.hid hb; clear hm hr hb hs hkp)
        | ((with_reducible refine gate_builtin (b := .append) (xs := #[.tmp 13, .tmp 18]) rfl ?_); at_builtin; refine Kd.R_append (Kd.int .i16) (w0 := w0) base rfl (.tmp 13) (.tmp 18) 56 94 (.int .i16 0) 2 rfl Try.underlying56 infoS94 rfl (by decide) (by omega) u5 (idx k) (k : Int) [.int .i16 (k : Int)] (fun _ => True) (fun _ => False) rfl rfl ?aP (fun _ hk => hk.elim) ?aF ?aO ?aB ?aS ?aL ?_; (case aP => exact rfl); (case aB => exact HB2.out); (case aF => exact (fun _ _ => trivial)); (case aO => exact HO2.out); (case aS => exact (Nat.le_of_lt (Nat.lt_of_le_of_lt HMM.out (lt_of_heap HM2.out)))); (case aL => have := HLK.out; have := HN.out; have := HLT.out; omega); intro v4 w4 ho hb hg2 hat; have HO4 := Lib.hid ho; have HB4 := Lib.hid hb; have HM4 := Lib.hid ((hg2.block _ (lt_of_heap HM2.out) (Kd.R_ne HO2.out HM2.out (by decide))).trans HM2.out); have HR4 := Lib.hid (Kd.R_over HR2.out HO2.out (by decide) hg2); clear ho hb hg2 hat))
      go_roundg (n - (k + 1))
      case measure => have := hg.out; have := HLT.out; omega
      case rel => exact ⟨k + 1, _, Lib.hid HLT.out, Lib.hid (Nat.le_refl _), rfl, HM4, Lib.hid (by rw [TG.out]; exact HR4.out), Lib.hid (by rw [TI.out]; exact HO4.out), HB4⟩
    · have en : k = n := by have := hk.out; omega
      subst en
      have hb0 : decide ((k : Int) < (k : Int)) = false := decide_eq_false (by omega)
      clear hk hg hlt
      go_wp2
      go_ret
      exact ⟨gv, _, rfl, HM.out, HR.out, HO.out, HB.out⟩

/-- the gates of the sums of pairs, and where they stand -/
def xgs (xs : List Int) (n k : Nat) : List S96 := (List.range k).map fun (i : Nat) => ⟨2, xs.getD i 0, xs.getD (n + i) 0⟩
def xos (b k : Nat) : List Int := (List.range k).map fun (i : Nat) => ((b + i : Nat) : Int)
theorem xgs_succ (xs : List Int) (n k : Nat) : xgs xs n (k + 1) = xgs xs n k ++ [⟨2, xs.getD k 0, xs.getD (n + k) 0⟩] := by simp [xgs, List.range_succ]
theorem xos_succ (b k : Nat) : xos b (k + 1) = xos b k ++ [((b + k : Nat) : Int)] := by simp [xos, List.range_succ]
theorem xgs_len (xs : List Int) (n k : Nat) : (xgs xs n k).length = k := by simp [xgs]
theorem xos_len (b k : Nat) : (xos b k).length = k := by simp [xos]
theorem apart_new {W w1 : World} {base : Nat} {u v : Value} {xs : List Int} {b : Nat} (h : (Kd.int .i16).R 94 W base (fun _ => True) u xs) (hv : v.ownBlock = some b) (hb : W.heap.size ≤ b) (hg : W.grownBy w1 none) : (Kd.int .i16).R 94 w1 base (fun k => True ∧ some k ≠ v.ownBlock) u xs := by
  refine Kd.R_mono (Kd.R_move (Kd.R_bound h) (fun k hk => hg.block k hk.2.2.1 (by simp))) (fun k hk => ⟨trivial, ?_⟩)
  rw [hv]
  intro e
  injection e with e
  have := hk.2.2.1
  omega
set_option maxHeartbeats 4000000 in
set_option maxRecDepth 100000 in
/-- the gates of a sum -/
theorem xorI_calls (ov : Value) (n cx cy cv : Nat) (hn : n ≤ 8) (xs : List Int) (hxs : xs.length = 2 * n) (g M : Nat) (gv : Value) (G : List S96) (hG : G.length ≤ 100) (n2 : Int) (base : Nat) (w0 w : World)
    (hM : w.heap[M]? = some (.cells #[.int .i8 n2, gv, ov] 127 (0, 0))) (hbM : base ≤ M) (hR : Kd.R k96 96 w base (fun _ => True) gv G) (hV : (Kd.int .i16).R 94 w base (fun _ => True) (.slice (some ⟨g, 0, none⟩) xs.length cv) xs) (hB : Below base w0 w) :
    Calls Try.prog 71 #[.pointer (some ⟨M, 0, none⟩), .slice (some ⟨g, 0, none⟩) n cx, .slice (some ⟨g, n, none⟩) n cy] w fun e w' => ∃ (gv' v : Value), e = .returned v ∧ w'.heap[M]? = some (.cells #[.int .i8 n2, gv', ov] 127 (0, 0)) ∧ Kd.R k96 96 w' base (fun _ => True) gv' (G ++ xgs xs n n) ∧ (Kd.int .i16).R 94 w' base (fun _ => True) v (xos G.length n) ∧ Below base w0 w' := by
  have HN := Lib.hid hn
  have HG := Lib.hid hG
  have HXS := Lib.hid hxs
  have HM0 := Lib.hid hM
  have HMM := Lib.hid hbM
  have HR0 := Lib.hid hR
  have HV0 := Lib.hid hV
  have HB0 := Lib.hid hB
  have gn : (n : Int) ≤ 8 := by omega
  have g0 : (0 : Int) ≤ (n : Int) := by omega
  clear hn hM hbM hB hR hV hG hxs
  go_enter Try.func71, Try.ntmps71
  go_wp2_with (first
    | ((with_reducible refine gate_dst (N := 9) rfl ?_); refine Kd.R_lit (w0 := w0) (Kd.int .i16) base 94 ?hg (N := 9) ?hd (xs := ([] : List Int)) (inner := []) (ok := fun _ => True) (okp := fun _ => True) ?hr ?hp (fun _ hk => hk) trivial HB0.out (Nat.le_of_lt (Nat.lt_of_le_of_lt HMM.out (lt_of_heap HM0.out))) (by simp) ?_; (case hd => rfl); (case hg => rfl); (case hr => first | (go_simp; done) | (go_simp; rfl)); (case hp => exact (Reps.none _ _)); intro v1 w1 ho hb hg_ hnew_; obtain ⟨bn, hv1, hbn⟩ := hnew_; have HO := Lib.hid ho; have HB := Lib.hid hb; have HM := Lib.hid ((hg_.block _ (lt_of_heap HM0.out) (by simp)).trans HM0.out); have HR := Lib.hid (Kd.R_grown HR0.out hg_ (fun _ _ => by simp)); have HV := Lib.hid (apart_new HV0.out hv1 hbn hg_); clear hg_ hv1 hbn; clear ho hb))
  go_loopg [7, 12] n (fun gg v7 v12 wr => ∃ (k : Nat) (gv : Value), Hid (k ≤ n) ∧ Hid (n - k ≤ gg) ∧ v12 = .int .i64 (k : Int) ∧ Hid (wr.heap[M]? = some (.cells #[.int .i8 n2, gv, ov] 127 (0, 0))) ∧ Hid (Kd.R k96 96 wr base (fun _ => True) gv (G ++ xgs xs n k)) ∧ Hid ((Kd.int .i16).R 94 wr base (fun _ => True) v7 (xos G.length k)) ∧ Hid ((Kd.int .i16).R 94 wr base (fun k => True ∧ some k ≠ v7.ownBlock) (.slice (some ⟨g, 0, none⟩) xs.length cv) xs) ∧ Hid (Below base w0 wr))
  case atStart => exact ⟨0, gv, Lib.hid (Nat.zero_le _), Lib.hid (Nat.sub_le _ _), rfl, HM, Lib.hid (by show Kd.R k96 96 w1 base (fun _ => True) gv (G ++ []); rw [List.append_nil]; exact HR.out), HO, HV, HB⟩
  case round =>
    clear HO HB HM HR HV
    obtain ⟨k, gv, hk, hg, rfl, HM, HR, HO, HV, HB⟩ := hrel
    by_cases hlt : k < n
    · have hx0 := (Kd.R_cell 0 HV.out (k : Int) (by omega) (by have := HXS.out; omega)).1
      have hy0 := (Kd.R_cell 0 HV.out ((n + k : Nat) : Int) (by omega) (by have := HXS.out; omega)).1
      rw [Int.toNat_natCast] at hx0 hy0
      have ex0 : rdOf (0 : Int) xs (k : Int) = xs.getD k 0 := by unfold rdOf; rw [Int.toNat_natCast]
      have ey0 : rdOf (0 : Int) xs ((n + k : Nat) : Int) = xs.getD (n + k) 0 := by unfold rdOf; rw [Int.toNat_natCast]
      rw [ex0] at hx0
      rw [ey0] at hy0
      obtain ⟨x, ex⟩ : ∃ x, xs.getD k 0 = x := ⟨_, rfl⟩
      obtain ⟨y, ey⟩ : ∃ y, xs.getD (n + k) 0 = y := ⟨_, rfl⟩
      have hx : wr.cell? ⟨g, k, none⟩ = some (.int .i16 x) := by rw [← ex]; exact hx0
      have hy : wr.cell? ⟨g, n + k, none⟩ = some (.int .i16 y) := by rw [← ey]; exact hy0
      have TI : Hid (xos G.length (k + 1) = xos G.length k ++ [((G.length + k : Nat) : Int)]) := Lib.hid (xos_succ _ _)
      have TG : Hid (G ++ xgs xs n (k + 1) = G ++ xgs xs n k ++ [⟨2, x, y⟩]) := Lib.hid (by rw [xgs_succ, ex, ey, List.append_assoc])
      have LG : Hid ((G ++ xgs xs n k).length = G.length + k) := Lib.hid (by rw [List.length_append, xgs_len])
      have hb0 : decide ((k : Int) < (n : Int)) = true := decide_eq_true (by omega)
      have hb1 : (k : Int) < (n : Int) := by omega
      have hi0 : (0 : Int) ≤ (k : Int) := by omega
      have hnb : k < 9223372036854775807 := by have := HN.out; omega
      have HLT := Lib.hid hlt
      have HLK : Hid ((xos G.length k).length = k) := Lib.hid (xos_len _ _)
      obtain ⟨q, eq⟩ : ∃ q : Int, ((G.length + k : Nat) : Int) = q := ⟨_, rfl⟩
      rw [eq] at TI
      have EQ := Lib.hid eq
      clear hlt hx0 hy0 ex0 ey0 ex ey eq
      go_wp2
      have hx1 : wr.drew.cell? ⟨g, k, none⟩ = some (.int .i16 x) := hx
      have hy1 : wr.drew.cell? ⟨g, n + k, none⟩ = some (.int .i16 y) := hy
      refine start_ (n := 14) (S := fun w' => w'.cell? ⟨g, k, none⟩ = some (.int .i16 x) ∧ w'.cell? ⟨g, n + k, none⟩ = some (.int .i16 y)) (ds := [10, 11, 12]) #[false, false, false, false, false, false, false, false, false, false, false, false, false, false] (by kernel_rfl) rfl rfl ⟨hx1, hy1⟩ (fun hHeld => ?_)
      clear hx hy hx1 hy1
      have HM' := Lib.hid (show wr.drew.heap[M]? = _ from HM.out)
      have HR' := Lib.hid (Kd.R_drew HR.out)
      have HO' := Lib.hid (Kd.R_drew HO.out)
      have HV' := Lib.hid (Kd.R_drew HV.out)
      have HB' := Lib.hid (below_drew HB.out)
      clear HM HR HO HV HB
      generalize wr.drew = wd at HM' HR' HO' HV' HB' hHeld ⊢
      have HM := HM'; have HR := HR'; have HO := HO'; have HV := HV'; have HB := HB'
      clear HM' HR' HO' HV' HB'
      refine pure_ (i := 0) (N := some 15) (v := ?_) (a' := ?_) #[true, false, false, false, false, false, false, false, false, false, false, false, false, false] rfl rfl (by kernel_rfl) (fun _ _ _ h => h) (Or.inl ⟨by rfl, ?_⟩) ?_ ?_
      rotate_left
      · intro w'
        go_simp
        with_reducible rfl
      rotate_left
      · simp only [Act.put, List.setIfInBounds_toArray, List.set_cons_zero, List.set_cons_succ, i64_w, i32_w]
        rfl
      refine pure_ (i := 1) (N := some 16) (v := ?_) (a' := ?_) #[true, true, false, false, false, false, false, false, false, false, false, false, false, false] rfl rfl (by kernel_rfl) (fun _ _ _ h => h) (Or.inl ⟨by rfl, ?_⟩) ?_ ?_
      rotate_left
      · intro w'
        go_simp
        with_reducible rfl
      rotate_left
      · simp only [Act.put, List.setIfInBounds_toArray, List.set_cons_zero, List.set_cons_succ, i64_w, i32_w]
        rfl
      refine pure_ (i := 2) (N := some 17) (v := ?_) (a' := ?_) #[true, true, true, false, false, false, false, false, false, false, false, false, false, false] rfl rfl (by kernel_rfl) (fun _ _ _ h => h) (Or.inl ⟨by rfl, ?_⟩) ?_ ?_
      rotate_left
      · intro w'
        go_simp
        with_reducible rfl
      rotate_left
      · simp only [Act.put, List.setIfInBounds_toArray, List.set_cons_zero, List.set_cons_succ, i64_w, i32_w]
        rfl
      refine pure_ (i := 3) (N := some 18) (v := ?_) (a' := ?_) #[true, true, true, true, false, false, false, false, false, false, false, false, false, false] rfl rfl (by kernel_rfl) (fun _ _ _ h => h) (Or.inl ⟨by rfl, ?_⟩) ?_ ?_
      rotate_left
      · intro w'
        go_simp
        with_reducible rfl
      rotate_left
      · simp only [Act.put, List.setIfInBounds_toArray, List.set_cons_zero, List.set_cons_succ, i64_w, i32_w]
        rfl
      refine pure_ (i := 6) (N := some 21) (v := ?_) (a' := ?_) #[true, true, true, true, false, false, true, false, false, false, false, false, false, false] rfl rfl (by kernel_rfl) (fun _ _ _ h => h) (Or.inl ⟨by rfl, ?_⟩) ?_ ?_
      rotate_left
      · intro w'
        go_simp
        with_reducible rfl
      rotate_left
      · simp only [Act.put, List.setIfInBounds_toArray, List.set_cons_zero, List.set_cons_succ, i64_w, i32_w]
        rfl
      refine pure_ (i := 7) (N := some 22) (v := ?_) (a' := ?_) #[true, true, true, true, false, false, true, true, false, false, false, false, false, false] rfl rfl (by kernel_rfl) (fun _ _ _ h => h) (Or.inl ⟨by rfl, ?_⟩) ?_ ?_
      rotate_left
      · intro w'
        go_simp
        with_reducible rfl
      rotate_left
      · simp only [Act.put, List.setIfInBounds_toArray, List.set_cons_zero, List.set_cons_succ, i64_w, i32_w]
        rfl
      refine pure_ (i := 4) (N := some 19) (v := ?_) (a' := ?_) #[true, true, true, true, true, false, true, true, false, false, false, false, false, false] rfl rfl (by kernel_rfl) (fun _ _ _ h => h) (Or.inl ⟨by rfl, ?_⟩) ?_ ?_
      rotate_left
      · intro w'
        go_simp
        with_reducible rfl
      rotate_left
      · simp only [Act.put, List.setIfInBounds_toArray, List.set_cons_zero, List.set_cons_succ, i64_w, i32_w]
        rfl
      refine pure_ (i := 8) (N := some 23) (v := ?_) (a' := ?_) #[true, true, true, true, true, false, true, true, true, false, false, false, false, false] rfl rfl (by kernel_rfl) (fun _ _ _ h => h) (Or.inl ⟨by rfl, ?_⟩) ?_ ?_
      rotate_left
      · intro w'
        go_simp
        with_reducible rfl
      rotate_left
      · simp only [Act.put, List.setIfInBounds_toArray, List.set_cons_zero, List.set_cons_succ, i64_w, i32_w]
        rfl
      refine take_ (i := 5) (N := some 20) (v := ?_) (a' := ?_) #[true, true, true, true, true, true, true, true, true, false, false, false, false, false] rfl rfl (by kernel_rfl) (fun _ _ _ h => h) (Or.inl ⟨by rfl, ?_⟩) hHeld ?_ ?_
      rotate_left
      · rintro w' ⟨s0, s1⟩
        go_simp
        with_reducible rfl
      rotate_left
      · simp only [Act.put, List.setIfInBounds_toArray, List.set_cons_zero, List.set_cons_succ, i64_w, i32_w]
        rfl
      refine take_ (i := 9) (N := some 24) (v := ?_) (a' := ?_) #[true, true, true, true, true, true, true, true, true, true, false, false, false, false] rfl rfl (by kernel_rfl) (fun _ _ _ h => h) (Or.inl ⟨by rfl, ?_⟩) hHeld ?_ ?_
      rotate_left
      · rintro w' ⟨s0, s1⟩
        go_simp
        with_reducible rfl
      rotate_left
      · simp only [Act.put, List.setIfInBounds_toArray, List.set_cons_zero, List.set_cons_succ, i64_w, i32_w]
        rfl
      refine last_ (i := 10) (N := some 25) #[true, true, true, true, true, true, true, true, true, true, true, false, false, false] rfl rfl (by kernel_rfl) (by decide) (fun K hK => ?_)
      refine goes_ Try.func86 (by kernel_rfl) rfl #[.pointer (some ⟨M, 0, none⟩), .int .i8 2, .int .i16 x, .int .i16 y] (by rfl) rfl rfl (by (try simp only [List.map_toArray, List.map_cons, List.map_nil]); first | done | rfl) ?_
      have HC := gate_calls 2 x y n2 ov M gv (G ++ xgs xs n k) base w0 wd HM.out HMM.out HR.out HB.out (by rw [LG.out]; have := HG.out; have := HN.out; have := HLT.out; omega)
      rw [LG.out, EQ.out] at HC
      with_reducible refine HC.mono ?_
      rintro e W1 ⟨gv2, rfl, hm, hr, hb, hs, hkp⟩
      refine ⟨_, rfl, ?_⟩
      have HO' := Lib.hid (R_kept (w1 := W1) HO.out HR.out HM.out (by decide) hkp)
      have HV' := Lib.hid (R_kept (w1 := W1) HV.out HR.out HM.out (by decide) hkp)
      clear HO HV HM HR HB HC hkp hs
      have HO := HO'; have HV := HV'; have HM := Lib.hid hm; have HR := Lib.hid hr; have HB := Lib.hid hb
      clear HO' HV' hm hr hb
      refine hK.out _ _ ?_
      clear hK K
      refine norm_ (a' := ?_) ?_ ?_
      rotate_left
      · show Act.put _ (some 25) _ = _
        simp only [Act.put, List.setIfInBounds_toArray, List.set_cons_zero, List.set_cons_succ, i64_w, i32_w]
        rfl
      refine last_ (i := 11) (N := some 26) #[true, true, true, true, true, true, true, true, true, true, true, true, false, false] rfl rfl (by kernel_rfl) (by decide) (fun K hK => ?_)
      refine value_ (w1 := ?_) (v := ?_) (by rfl) rfl ?_ ?_
      rotate_left 2
      · go_simp
        constructor
        · rfl
        · rfl
      refine hK.out _ _ ?_
      clear hK K
      refine norm_ (a' := ?_) ?_ ?_
      rotate_left
      · show Act.put _ (some 26) _ = _
        simp only [Act.put, List.setIfInBounds_toArray, List.set_cons_zero, List.set_cons_succ, i64_w, i32_w]
        rfl
      refine last_ (i := 12) (N := some 27) #[true, true, true, true, true, true, true, true, true, true, true, true, true, false] rfl rfl (by kernel_rfl) (by decide) (fun K hK => ?_)
      refine Kd.R_append_step (Kd.int .i16) (w0 := w0) base (by rfl) (.tmp 15) (.tmp 26) 56 94 (.int .i16 0) 2 rfl Try.underlying56 infoS94 rfl (by decide) (by omega) u7 (xos G.length k) q [.int .i16 q] (fun _ => True) (fun _ => False) rfl rfl ?aP (fun _ hk => hk.elim) ?aF ?aO ?aB ?aS ?aL ?_
      (case aP => exact rfl)
      (case aB => exact HB.out)
      (case aF => exact (fun _ _ => trivial))
      (case aO => exact HO.out)
      (case aS => exact (Nat.le_of_lt (Nat.lt_of_le_of_lt HMM.out (lt_of_heap HM.out))))
      (case aL => have := HLK.out; have := HN.out; have := HLT.out; omega)
      intro v4 w4 ho hb hg2 hat
      have HO4 := Lib.hid ho; have HB4 := Lib.hid hb; have HM4 := Lib.hid ((hg2.block _ (lt_of_heap HM.out) (Kd.R_ne HO.out HM.out (by decide))).trans HM.out); have HR4 := Lib.hid (Kd.R_over HR.out HO.out (by decide) hg2); have HV4 := Lib.hid (Kd.R_after HV.out hg2 hat)
      clear ho hb hg2 hat HO HB HM HR HV
      have HO := HO4; have HB := HB4; have HM := HM4; have HR := HR4; have HV := HV4
      clear HO4 HB4 HM4 HR4 HV4
      refine hK.out _ _ ?_
      clear hK K
      refine norm_ (a' := ?_) ?_ ?_
      rotate_left
      · show Act.put _ (some 27) _ = _
        simp only [Act.put, List.setIfInBounds_toArray, List.set_cons_zero, List.set_cons_succ, i64_w, i32_w]
        rfl
      refine pure_ (i := 13) (N := some 7) (v := ?_) (a' := ?_) #[true, true, true, true, true, true, true, true, true, true, true, true, true, true] rfl rfl (by kernel_rfl) (fun _ _ _ h => h) (Or.inl ⟨by rfl, ?_⟩) ?_ ?_
      rotate_left
      · intro w'
        go_simp
        with_reducible rfl
      rotate_left
      · simp only [Act.put, List.setIfInBounds_toArray, List.set_cons_zero, List.set_cons_succ, i64_w, i32_w]
        rfl
      refine done_ (by kernel_rfl) ?_
      try go_wp2
      go_roundg (n - (k + 1))
      case measure => have := hg.out; have := HLT.out; omega
      case rel => exact ⟨k + 1, _, Lib.hid HLT.out, Lib.hid (Nat.le_refl _), rfl, HM, Lib.hid (by rw [TG.out]; exact HR.out), Lib.hid (by rw [TI.out]; exact HO.out), HV, HB⟩
    · have en : k = n := by have := hk.out; omega
      subst en
      have hb0 : decide ((k : Int) < (k : Int)) = false := decide_eq_false (by omega)
      clear hk hg hlt
      go_wp2
      go_ret
      exact ⟨gv, _, rfl, HM.out, HR.out, HO.out, HB.out⟩
set_option maxHeartbeats 4000000 in
set_option maxRecDepth 100000 in
/-- the gates of a sum -/
theorem xorS_calls (n cx cy cv : Nat) (hn : n ≤ 8) (xs : List Int) (hxs : xs.length = 2 * n) (g M : Nat) (gv : Value) (G : List S96) (hG : G.length ≤ 100) (n2 : Int) (base : Nat) (w0 w : World)
    (hM : w.heap[M]? = some (.cells #[gv] 105 (0, 0))) (hbM : base ≤ M) (hR : Kd.R k96 96 w base (fun _ => True) gv G) (hV : (Kd.int .i16).R 94 w base (fun _ => True) (.slice (some ⟨g, 0, none⟩) xs.length cv) xs) (hB : Below base w0 w) :
    Calls Try.prog 69 #[.pointer (some ⟨M, 0, none⟩), .slice (some ⟨g, 0, none⟩) n cx, .slice (some ⟨g, n, none⟩) n cy] w fun e w' => ∃ (gv' v : Value), e = .returned v ∧ w'.heap[M]? = some (.cells #[gv'] 105 (0, 0)) ∧ Kd.R k96 96 w' base (fun _ => True) gv' (G ++ xgs xs n n) ∧ (Kd.int .i16).R 94 w' base (fun _ => True) v (xos G.length n) ∧ Below base w0 w' := by
  have HN := Lib.hid hn
  have HG := Lib.hid hG
  have HXS := Lib.hid hxs
  have HM0 := Lib.hid hM
  have HMM := Lib.hid hbM
  have HR0 := Lib.hid hR
  have HV0 := Lib.hid hV
  have HB0 := Lib.hid hB
  have gn : (n : Int) ≤ 8 := by omega
  have g0 : (0 : Int) ≤ (n : Int) := by omega
  clear hn hM hbM hB hR hV hG hxs
  go_enter Try.func69, Try.ntmps69
  go_wp2_with (first
    | ((with_reducible refine gate_dst (N := 9) rfl ?_); refine Kd.R_lit (w0 := w0) (Kd.int .i16) base 94 ?hg (N := 9) ?hd (xs := ([] : List Int)) (inner := []) (ok := fun _ => True) (okp := fun _ => True) ?hr ?hp (fun _ hk => hk) trivial HB0.out (Nat.le_of_lt (Nat.lt_of_le_of_lt HMM.out (lt_of_heap HM0.out))) (by simp) ?_; (case hd => rfl); (case hg => rfl); (case hr => first | (go_simp; done) | (go_simp; rfl)); (case hp => exact (Reps.none _ _)); intro v1 w1 ho hb hg_ hnew_; obtain ⟨bn, hv1, hbn⟩ := hnew_; have HO := Lib.hid ho; have HB := Lib.hid hb; have HM := Lib.hid ((hg_.block _ (lt_of_heap HM0.out) (by simp)).trans HM0.out); have HR := Lib.hid (Kd.R_grown HR0.out hg_ (fun _ _ => by simp)); have HV := Lib.hid (apart_new HV0.out hv1 hbn hg_); clear hg_ hv1 hbn; clear ho hb))
  go_loopg [7, 8] n (fun gg v7 v8 wr => ∃ (k : Nat) (gv : Value), Hid (k ≤ n) ∧ Hid (n - k ≤ gg) ∧ v8 = .int .i64 (k : Int) ∧ Hid (wr.heap[M]? = some (.cells #[gv] 105 (0, 0))) ∧ Hid (Kd.R k96 96 wr base (fun _ => True) gv (G ++ xgs xs n k)) ∧ Hid ((Kd.int .i16).R 94 wr base (fun _ => True) v7 (xos G.length k)) ∧ Hid ((Kd.int .i16).R 94 wr base (fun k => True ∧ some k ≠ v7.ownBlock) (.slice (some ⟨g, 0, none⟩) xs.length cv) xs) ∧ Hid (Below base w0 wr))
  case atStart => exact ⟨0, gv, Lib.hid (Nat.zero_le _), Lib.hid (Nat.sub_le _ _), rfl, HM, Lib.hid (by show Kd.R k96 96 w1 base (fun _ => True) gv (G ++ []); rw [List.append_nil]; exact HR.out), HO, HV, HB⟩
  case round =>
    clear HO HB HM HR HV
    obtain ⟨k, gv, hk, hg, rfl, HM, HR, HO, HV, HB⟩ := hrel
    by_cases hlt : k < n
    · have hx0 := (Kd.R_cell 0 HV.out (k : Int) (by omega) (by have := HXS.out; omega)).1
      have hy0 := (Kd.R_cell 0 HV.out ((n + k : Nat) : Int) (by omega) (by have := HXS.out; omega)).1
      rw [Int.toNat_natCast] at hx0 hy0
      have ex0 : rdOf (0 : Int) xs (k : Int) = xs.getD k 0 := by unfold rdOf; rw [Int.toNat_natCast]
      have ey0 : rdOf (0 : Int) xs ((n + k : Nat) : Int) = xs.getD (n + k) 0 := by unfold rdOf; rw [Int.toNat_natCast]
      rw [ex0] at hx0
      rw [ey0] at hy0
      obtain ⟨x, ex⟩ : ∃ x, xs.getD k 0 = x := ⟨_, rfl⟩
      obtain ⟨y, ey⟩ : ∃ y, xs.getD (n + k) 0 = y := ⟨_, rfl⟩
      have hx : wr.cell? ⟨g, k, none⟩ = some (.int .i16 x) := by rw [← ex]; exact hx0
      have hy : wr.cell? ⟨g, n + k, none⟩ = some (.int .i16 y) := by rw [← ey]; exact hy0
      have TI : Hid (xos G.length (k + 1) = xos G.length k ++ [((G.length + k : Nat) : Int)]) := Lib.hid (xos_succ _ _)
      have TG : Hid (G ++ xgs xs n (k + 1) = G ++ xgs xs n k ++ [⟨2, x, y⟩]) := Lib.hid (by rw [xgs_succ, ex, ey, List.append_assoc])
      have LG : Hid ((G ++ xgs xs n k).length = G.length + k) := Lib.hid (by rw [List.length_append, xgs_len])
      have hb0 : decide ((k : Int) < (n : Int)) = true := decide_eq_true (by omega)
      have hb1 : (k : Int) < (n : Int) := by omega
      have hi0 : (0 : Int) ≤ (k : Int) := by omega
      have hnb : k < 9223372036854775807 := by have := HN.out; omega
      have HLT := Lib.hid hlt
      have HLK : Hid ((xos G.length k).length = k) := Lib.hid (xos_len _ _)
      obtain ⟨q, eq⟩ : ∃ q : Int, ((G.length + k : Nat) : Int) = q := ⟨_, rfl⟩
      rw [eq] at TI
      have EQ := Lib.hid eq
      clear hlt hx0 hy0 ex0 ey0 ex ey eq
      go_wp2
      have hx1 : wr.drew.cell? ⟨g, k, none⟩ = some (.int .i16 x) := hx
      have hy1 : wr.drew.cell? ⟨g, n + k, none⟩ = some (.int .i16 y) := hy
      refine start_ (n := 14) (S := fun w' => w'.cell? ⟨g, k, none⟩ = some (.int .i16 x) ∧ w'.cell? ⟨g, n + k, none⟩ = some (.int .i16 y)) (ds := [10, 11, 12]) #[false, false, false, false, false, false, false, false, false, false, false, false, false, false] (by kernel_rfl) rfl rfl ⟨hx1, hy1⟩ (fun hHeld => ?_)
      clear hx hy hx1 hy1
      have HM' := Lib.hid (show wr.drew.heap[M]? = _ from HM.out)
      have HR' := Lib.hid (Kd.R_drew HR.out)
      have HO' := Lib.hid (Kd.R_drew HO.out)
      have HV' := Lib.hid (Kd.R_drew HV.out)
      have HB' := Lib.hid (below_drew HB.out)
      clear HM HR HO HV HB
      generalize wr.drew = wd at HM' HR' HO' HV' HB' hHeld ⊢
      have HM := HM'; have HR := HR'; have HO := HO'; have HV := HV'; have HB := HB'
      clear HM' HR' HO' HV' HB'
      refine pure_ (i := 0) (N := some 16) (v := ?_) (a' := ?_) #[true, false, false, false, false, false, false, false, false, false, false, false, false, false] rfl rfl (by kernel_rfl) (fun _ _ _ h => h) (Or.inl ⟨by rfl, ?_⟩) ?_ ?_
      rotate_left
      · intro w'
        go_simp
        with_reducible rfl
      rotate_left
      · simp only [Act.put, List.setIfInBounds_toArray, List.set_cons_zero, List.set_cons_succ, i64_w, i32_w]
        rfl
      refine pure_ (i := 1) (N := some 17) (v := ?_) (a' := ?_) #[true, true, false, false, false, false, false, false, false, false, false, false, false, false] rfl rfl (by kernel_rfl) (fun _ _ _ h => h) (Or.inl ⟨by rfl, ?_⟩) ?_ ?_
      rotate_left
      · intro w'
        go_simp
        with_reducible rfl
      rotate_left
      · simp only [Act.put, List.setIfInBounds_toArray, List.set_cons_zero, List.set_cons_succ, i64_w, i32_w]
        rfl
      refine pure_ (i := 2) (N := some 18) (v := ?_) (a' := ?_) #[true, true, true, false, false, false, false, false, false, false, false, false, false, false] rfl rfl (by kernel_rfl) (fun _ _ _ h => h) (Or.inl ⟨by rfl, ?_⟩) ?_ ?_
      rotate_left
      · intro w'
        go_simp
        with_reducible rfl
      rotate_left
      · simp only [Act.put, List.setIfInBounds_toArray, List.set_cons_zero, List.set_cons_succ, i64_w, i32_w]
        rfl
      refine pure_ (i := 3) (N := some 19) (v := ?_) (a' := ?_) #[true, true, true, true, false, false, false, false, false, false, false, false, false, false] rfl rfl (by kernel_rfl) (fun _ _ _ h => h) (Or.inl ⟨by rfl, ?_⟩) ?_ ?_
      rotate_left
      · intro w'
        go_simp
        with_reducible rfl
      rotate_left
      · simp only [Act.put, List.setIfInBounds_toArray, List.set_cons_zero, List.set_cons_succ, i64_w, i32_w]
        rfl
      refine pure_ (i := 6) (N := some 22) (v := ?_) (a' := ?_) #[true, true, true, true, false, false, true, false, false, false, false, false, false, false] rfl rfl (by kernel_rfl) (fun _ _ _ h => h) (Or.inl ⟨by rfl, ?_⟩) ?_ ?_
      rotate_left
      · intro w'
        go_simp
        with_reducible rfl
      rotate_left
      · simp only [Act.put, List.setIfInBounds_toArray, List.set_cons_zero, List.set_cons_succ, i64_w, i32_w]
        rfl
      refine pure_ (i := 7) (N := some 23) (v := ?_) (a' := ?_) #[true, true, true, true, false, false, true, true, false, false, false, false, false, false] rfl rfl (by kernel_rfl) (fun _ _ _ h => h) (Or.inl ⟨by rfl, ?_⟩) ?_ ?_
      rotate_left
      · intro w'
        go_simp
        with_reducible rfl
      rotate_left
      · simp only [Act.put, List.setIfInBounds_toArray, List.set_cons_zero, List.set_cons_succ, i64_w, i32_w]
        rfl
      refine pure_ (i := 4) (N := some 20) (v := ?_) (a' := ?_) #[true, true, true, true, true, false, true, true, false, false, false, false, false, false] rfl rfl (by kernel_rfl) (fun _ _ _ h => h) (Or.inl ⟨by rfl, ?_⟩) ?_ ?_
      rotate_left
      · intro w'
        go_simp
        with_reducible rfl
      rotate_left
      · simp only [Act.put, List.setIfInBounds_toArray, List.set_cons_zero, List.set_cons_succ, i64_w, i32_w]
        rfl
      refine pure_ (i := 8) (N := some 24) (v := ?_) (a' := ?_) #[true, true, true, true, true, false, true, true, true, false, false, false, false, false] rfl rfl (by kernel_rfl) (fun _ _ _ h => h) (Or.inl ⟨by rfl, ?_⟩) ?_ ?_
      rotate_left
      · intro w'
        go_simp
        with_reducible rfl
      rotate_left
      · simp only [Act.put, List.setIfInBounds_toArray, List.set_cons_zero, List.set_cons_succ, i64_w, i32_w]
        rfl
      refine take_ (i := 5) (N := some 21) (v := ?_) (a' := ?_) #[true, true, true, true, true, true, true, true, true, false, false, false, false, false] rfl rfl (by kernel_rfl) (fun _ _ _ h => h) (Or.inl ⟨by rfl, ?_⟩) hHeld ?_ ?_
      rotate_left
      · rintro w' ⟨s0, s1⟩
        go_simp
        with_reducible rfl
      rotate_left
      · simp only [Act.put, List.setIfInBounds_toArray, List.set_cons_zero, List.set_cons_succ, i64_w, i32_w]
        rfl
      refine take_ (i := 9) (N := some 25) (v := ?_) (a' := ?_) #[true, true, true, true, true, true, true, true, true, true, false, false, false, false] rfl rfl (by kernel_rfl) (fun _ _ _ h => h) (Or.inl ⟨by rfl, ?_⟩) hHeld ?_ ?_
      rotate_left
      · rintro w' ⟨s0, s1⟩
        go_simp
        with_reducible rfl
      rotate_left
      · simp only [Act.put, List.setIfInBounds_toArray, List.set_cons_zero, List.set_cons_succ, i64_w, i32_w]
        rfl
      refine last_ (i := 10) (N := some 26) #[true, true, true, true, true, true, true, true, true, true, true, false, false, false] rfl rfl (by kernel_rfl) (by decide) (fun K hK => ?_)
      refine goes_ Try.func84 (by kernel_rfl) rfl #[.pointer (some ⟨M, 0, none⟩), .int .i8 2, .int .i16 x, .int .i16 y] (by rfl) rfl rfl (by (try simp only [List.map_toArray, List.map_cons, List.map_nil]); first | done | rfl) ?_
      have HC := add_calls 2 x y 0 (.slice none 0 0) M gv (G ++ xgs xs n k) base w0 wd HM.out HMM.out HR.out HB.out (by rw [LG.out]; have := HG.out; have := HN.out; have := HLT.out; omega)
      rw [LG.out, EQ.out] at HC
      with_reducible refine HC.mono ?_
      rintro e W1 ⟨gv2, rfl, hm, hr, hb, hs, hkp⟩
      refine ⟨_, rfl, ?_⟩
      have HO' := Lib.hid (R_kept (w1 := W1) HO.out HR.out HM.out (by decide) hkp)
      have HV' := Lib.hid (R_kept (w1 := W1) HV.out HR.out HM.out (by decide) hkp)
      clear HO HV HM HR HB HC hkp hs
      have HO := HO'; have HV := HV'; have HM := Lib.hid hm; have HR := Lib.hid hr; have HB := Lib.hid hb
      clear HO' HV' hm hr hb
      refine hK.out _ _ ?_
      clear hK K
      refine norm_ (a' := ?_) ?_ ?_
      rotate_left
      · show Act.put _ (some 26) _ = _
        simp only [Act.put, List.setIfInBounds_toArray, List.set_cons_zero, List.set_cons_succ, i64_w, i32_w]
        rfl
      refine last_ (i := 11) (N := some 27) #[true, true, true, true, true, true, true, true, true, true, true, true, false, false] rfl rfl (by kernel_rfl) (by decide) (fun K hK => ?_)
      refine value_ (w1 := ?_) (v := ?_) (by rfl) rfl ?_ ?_
      rotate_left 2
      · go_simp
        constructor
        · rfl
        · rfl
      refine hK.out _ _ ?_
      clear hK K
      refine norm_ (a' := ?_) ?_ ?_
      rotate_left
      · show Act.put _ (some 27) _ = _
        simp only [Act.put, List.setIfInBounds_toArray, List.set_cons_zero, List.set_cons_succ, i64_w, i32_w]
        rfl
      refine last_ (i := 12) (N := some 28) #[true, true, true, true, true, true, true, true, true, true, true, true, true, false] rfl rfl (by kernel_rfl) (by decide) (fun K hK => ?_)
      refine Kd.R_append_step (Kd.int .i16) (w0 := w0) base (by rfl) (.tmp 16) (.tmp 27) 56 94 (.int .i16 0) 2 rfl Try.underlying56 infoS94 rfl (by decide) (by omega) u7 (xos G.length k) q [.int .i16 q] (fun _ => True) (fun _ => False) rfl rfl ?aP (fun _ hk => hk.elim) ?aF ?aO ?aB ?aS ?aL ?_
      (case aP => exact rfl)
      (case aB => exact HB.out)
      (case aF => exact (fun _ _ => trivial))
      (case aO => exact HO.out)
      (case aS => exact (Nat.le_of_lt (Nat.lt_of_le_of_lt HMM.out (lt_of_heap HM.out))))
      (case aL => have := HLK.out; have := HN.out; have := HLT.out; omega)
      intro v4 w4 ho hb hg2 hat
      have HO4 := Lib.hid ho; have HB4 := Lib.hid hb; have HM4 := Lib.hid ((hg2.block _ (lt_of_heap HM.out) (Kd.R_ne HO.out HM.out (by decide))).trans HM.out); have HR4 := Lib.hid (Kd.R_over HR.out HO.out (by decide) hg2); have HV4 := Lib.hid (Kd.R_after HV.out hg2 hat)
      clear ho hb hg2 hat HO HB HM HR HV
      have HO := HO4; have HB := HB4; have HM := HM4; have HR := HR4; have HV := HV4
      clear HO4 HB4 HM4 HR4 HV4
      refine hK.out _ _ ?_
      clear hK K
      refine norm_ (a' := ?_) ?_ ?_
      rotate_left
      · show Act.put _ (some 28) _ = _
        simp only [Act.put, List.setIfInBounds_toArray, List.set_cons_zero, List.set_cons_succ, i64_w, i32_w]
        rfl
      refine pure_ (i := 13) (N := some 7) (v := ?_) (a' := ?_) #[true, true, true, true, true, true, true, true, true, true, true, true, true, true] rfl rfl (by kernel_rfl) (fun _ _ _ h => h) (Or.inl ⟨by rfl, ?_⟩) ?_ ?_
      rotate_left
      · intro w'
        go_simp
        with_reducible rfl
      rotate_left
      · simp only [Act.put, List.setIfInBounds_toArray, List.set_cons_zero, List.set_cons_succ, i64_w, i32_w]
        rfl
      refine done_ (by kernel_rfl) ?_
      try go_wp2
      go_roundg (n - (k + 1))
      case measure => have := hg.out; have := HLT.out; omega
      case rel => exact ⟨k + 1, _, Lib.hid HLT.out, Lib.hid (Nat.le_refl _), rfl, HM, Lib.hid (by rw [TG.out]; exact HR.out), Lib.hid (by rw [TI.out]; exact HO.out), HV, HB⟩
    · have en : k = n := by have := hk.out; omega
      subst en
      have hb0 : decide ((k : Int) < (k : Int)) = false := decide_eq_false (by omega)
      clear hk hg hlt
      go_wp2
      go_ret
      exact ⟨gv, _, rfl, HM.out, HR.out, HO.out, HB.out⟩

end Go.Proofs.Ythjbeglmdifhdaa.Given

/- Walks of functions that the print does not take. -/
import Derived.Test.YthjbeglmdifhdaaProg
import Derived.Below
import Derived.Deep.Draws
import Derived.Deep.AppendLies
import Derived.Maps.AppendAt
import Derived.OwnWalk
import Derived.Laws.BytesArg
import Derived.Laws.MakeOwn
import Derived.Laws.OwnMore
import Derived.Deep.OwnRows
import Derived.Tactics
import Derived.Lib.ConvBytes
import Derived.Laws.Slices
import Derived.WalkKit
import Derived.KernelRfl
import Derived.RowKit3
import Derived.Deep.LoopGhost
import Derived.Deep.QuietTactic
import Derived.BigQuiet
import Derived.WideLaws
import Derived.Deep.DeepCutAuto
import Derived.Deep.CutBlock
import Derived.Deep.RegionHeld3
import Derived.Laws.Rows
import Derived.Lib.AppendStr
import Derived.ArgAppend
import Derived.Laws.IdiomCopy
import Derived.OrdersHeld
import Derived.Laws.BitsLemmas
import Derived.RowKit
import Derived.Lib.Hide
import Derived.WalkSpells
import Derived.Test.YthjbeglmdifhdaaWWords
import Derived.Test.YthjbeglmdifhdaaWLast
import Derived.Test.YthjbeglmdifhdaaWTab
import Derived.Test.YthjbeglmdifhdaaWFour
import Derived.Test.YthjbeglmdifhdaaWQPut
import Derived.Test.YthjbeglmdifhdaaWApart
import Derived.Test.YthjbeglmdifhdaaWArr
import Derived.Test.YthjbeglmdifhdaaWZeros
import Derived.Test.YthjbeglmdifhdaaWFoot
import Derived.Test.YthjbeglmdifhdaaWKept
import Derived.Test.YthjbeglmdifhdaaWShare
import Derived.Test.YthjbeglmdifhdaaWN
import Derived.Test.YthjbeglmdifhdaaWFootNe
import Derived.Test.YthjbeglmdifhdaaWAt
import Derived.Test.YthjbeglmdifhdaaWEqStruct
import Derived.Test.YthjbeglmdifhdaaWRepsOne
import Derived.Test.YthjbeglmdifhdaaWInv
import Derived.Test.YthjbeglmdifhdaaWInvWords
import Derived.Test.YthjbeglmdifhdaaWGuard
import Derived.Test.YthjbeglmdifhdaaWNEv
import Derived.Test.YthjbeglmdifhdaaWMore
import Derived.Test.YthjbeglmdifhdaaN1
import Derived.Test.YthjbeglmdifhdaaMI
import Derived.Test.YthjbeglmdifhdaaWLast
namespace Go.Proofs.Ythjbeglmdifhdaa.Given
open Go.RowKit Go.Proofs.YthjbeglmdifhdaaW.PrintWords Go.Proofs.YthjbeglmdifhdaaW.PrintLast Go.Proofs.YthjbeglmdifhdaaW.PrintMore Go.Proofs.Ythjbeglmdifhdaa.NimF Go.Proofs.Ythjbeglmdifhdaa.NimGo
set_option linter.unusedVariables false
set_option linter.unusedSimpArgs false
section
variable {P : Program} {ops : Array Oper} {o : Oper} {a : Act} {Q : Exit → Act → World → Prop} {K : Act → World → Prop}
theorem yl_ (ty : TypeId) (x : Operand) (ho : o.op = .load ty x) (g : Nat) (hx : a.eval x = .pointer (some ⟨g, 0, none⟩)) {w : World} (t : TypeId) (L : List Value) (d : TypeDesc) (hg : Blk w g t L)
    (hu : P.underlying ty = some d) (hd : (match d with | .struct _ | .array _ _ => true | _ => false) = true) (hi : (P.info? ty).map (·.size) = some L.length) : (execOp a.eval o).run P w = .ok (.value (.agg L.toArray)) w := by
  have hr := run_loadVar_row (P := P) w g t ty L.toArray (0, 0) d hg hu hd (by simpa using hi)
  unfold execOp
  simp only [ho, hx, Instr.loadAt, Instr.sureAddr, Sem.run_bind, Sem.run_pure, Result.andThen_ok, hr]
theorem alloc_ {N : Option Tmp} {w : World} (hw : Region.wanted o (yielded ops a.tmps) = true) (hN : o.dst = N) (Z : List Value) (t : TypeId)
    (hrun : (execOp a.eval o).run P w = .ok (.value (.pointer (some ⟨w.heap.size, 0, none⟩))) (w.alloc (.cells Z.toArray t (0, 0))))
    (h : ∀ g, g = w.heap.size → ∀ w1, Blk w1 g t Z → Below w.heap.size w w1 → K (a.put N (.pointer (some ⟨g, 0, none⟩))) w1) : if Region.wanted o (yielded ops a.tmps) = true then Oper.wp P o a w K Q else K (a.put N undef) w := by
  rw [if_pos hw]
  unfold Oper.wp
  rw [hrun]
  show K (a.put o.dst _) _
  rw [hN]
  exact h _ rfl _ (Blk.new w t Z) (below_alloc (Below.refl _ _) _)
theorem ststore_ {w : World} (hw : Region.wanted o (yielded ops a.tmps) = true) (ty : TypeId) (p : Tmp) (x : Operand) (ho : o.op = .store ty (.tmp p) x) (hN : o.dst = none) (g : Nat) (hx : a.eval (.tmp p) = .pointer (some ⟨g, 0, none⟩)) (seg : List Value) (hy : a.eval x = .agg seg.toArray) (t : TypeId) (L : List Value) (hg : Blk w g t L)
    (hi : (P.info? ty).map (·.size) = some seg.length) (hfit : seg.length = L.length) (h1 : ∀ q ∈ seg, q.oneCell' = true)
    (h : ∀ w', Blk w' g t seg → (∀ k, k ≠ g → w'.heap[k]? = w.heap[k]?) → (∀ B w0, Below B w0 w → B ≤ g → Below B w0 w') → K a w') : if Region.wanted o (yielded ops a.tmps) = true then Oper.wp P o a w K Q else K (a.put none undef) w := by
  rw [if_pos hw]
  have hrun := run_store_run (P := P) (w := w) (g := g) (o := 0) (e := t) (cur := L.toArray) ty (.agg seg.toArray) seg hg (by simp [Value.cells]) hi (by simp; omega) h1
  obtain ⟨cur', b1, b2, b3⟩ := setCells_row seg 0 w L.toArray hg (by simp; omega)
  obtain ⟨s1, s2, s3, s4⟩ := setCells_same g seg 0 w
  unfold Oper.wp execOp
  simp only [ho, hx, hy, Sem.run_bind, hrun, Result.andThen_ok, Sem.run_pure]
  show K (a.put o.dst undef) (w.setCells g 0 seg)
  rw [hN]
  refine h _ ?_ (fun k hk => setCells_far seg 0 k hk) (fun B w0 hb hB => ⟨s1.trans hb.os, s2.trans hb.tape, s3.trans hb.output, by rw [s4]; exact hb.size, fun i hi => (setCells_far seg 0 i (by omega)).trans (hb.block i hi)⟩)
  have e : cur' = seg.toArray := by
    apply Array.toList_inj.1
    rw [b3]
    show List.take 0 L ++ seg ++ List.drop (0 + seg.length) L = seg
    rw [List.take_zero, List.nil_append, Nat.zero_add, List.drop_eq_nil_of_le (by omega), List.append_nil]
  rw [Blk, b1, e]
end
theorem apRes (r c : Int) (l v : List Int) : ∃ (V : List Int) (e : Int), V.length = 6 ∧ apR r c l v = .tuple #[.agg (U V).toArray, .int .i64 e] := by
  unfold apR
  split
  · exact ⟨_, _, mv_length _ _ _ _, rfl⟩
  · exact ⟨_, _, List.length_replicate, rfl⟩

set_option maxHeartbeats 16000000 in
set_option maxRecDepth 100000 in
theorem lawApply_calls (r c : Int) (l v : List Int) (hl : l.length = 36) (hv : v.length = 6) (h1 : -128 ≤ r) (h2 : r ≤ 127) (h3 : -128 ≤ c) (h4 : c ≤ 127) (hw : W16 l) (hx : W16 v) (w : World) :
    Calls Try.prog 6 #[.agg (M r c l).toArray, .agg (U v).toArray] w fun e w' => e = .returned (.bool true) ∧ Below w.heap.size w w' := by
  obtain ⟨V, e0, hV, he⟩ := apRes r c l v
  have HS := Lib.hid (fun W => he ▸ specApply_calls r c l v hl hv h1 h2 h3 h4 hw hx W)
  have HI := Lib.hid (fun W => he ▸ implApplyM_calls r c l v hl hv h1 h2 h3 h4 hw hx W)
  have HT := Lib.hid (fun W => toM_calls r c l hl W)
  have HV := Lib.hid (fun W => toVec_calls v hv W)
  have HE := Lib.hid (fun W => eqVec_calls V hV W)
  have IA : Hid ((Try.prog.info? 40).map (·.size) = some (M r c l).length) := Lib.hid (by rw [M_length, hl]; exact inf40)
  have IB : Hid ((Try.prog.info? 37).map (·.size) = some (U v).length) := Lib.hid (by rw [U_length, hv]; exact inf37)
  have ID : Hid ((Try.prog.info? 46).map (·.size) = some (U V).length) := Lib.hid (by rw [U_length, hV]; exact inf46)
  have LD : Hid ((U V).length = 6) := Lib.hid (by rw [U_length, hV])
  have OD := Lib.hid (U_one V)
  clear hl hv h1 h2 h3 h4 hw hx he hV
  generalize M r c l = A at HS HI HT IA ⊢
  generalize U v = B at HS HI HV IB ⊢
  generalize U V = D at HS HI HE ID LD OD
  have HB := Lib.hid (Below.refl w.heap.size w)
  go_enter Try.func6, Try.ntmps6
  go_wp2_with (first
    | ((with_reducible refine gate_dst (N := 2) rfl ?_); refine box_event ?hg (N := 2) ?hd (cs := (A).toArray) (t := 40) ?hr ?_; (case hd => rfl); (case hg => rfl); (case hr => rfl); intro gP hg WP hbox hb; clear hg; have HB_n := Lib.hid (below_step (w := w) (by repeat (first | (with_reducible first | exact HB.out | apply below_alloc | apply pw_below_drewN | apply below_drew) | exact HB.out)) hb); clear HB; have HB := HB_n; clear HB_n; have P := Lib.hid (show Blk WP gP 40 (A) from hbox); clear hbox hb)
    | ((with_reducible refine gate_dst (N := 3) rfl ?_); refine box_event ?hg (N := 3) ?hd (cs := (B).toArray) (t := 37) ?hr ?_; (case hd => rfl); (case hg => rfl); (case hr => rfl); intro gV hg WV hbox hb; clear hg; have P_n := Lib.hid (Blk.below (by (with_reducible repeat (first | apply Blk.alloc | apply Blk.drewN | apply Blk.drew)); exact P.out) hb); have HB_n := Lib.hid (below_step (w := w) (by repeat (first | (with_reducible first | exact HB.out | apply below_alloc | apply pw_below_drewN | apply below_drew) | exact HB.out)) hb); clear P; have P := P_n; clear P_n; clear HB; have HB := HB_n; clear HB_n; have V := Lib.hid (show Blk WV gV 37 (B) from hbox); clear hbox hb))
  have P_n := Lib.hid (Blk.drew P.out)
  have V_n := Lib.hid (Blk.drew V.out)
  have HB_n := Lib.hid (below_drew HB.out)
  clear P
  have P := P_n
  clear P_n
  clear V
  have V := V_n
  clear V_n
  clear HB
  have HB := HB_n
  clear HB_n
  refine start_ (n := 11) (S := fun w' => Blk w' gP 40 (A) ∧ Blk w' gV 37 (B)) (ds := [9]) #[false, false, false, false, false, false, false, false, false, false, false] (by kernel_rfl) rfl rfl ⟨P.out, V.out⟩ (fun hHeld => ?_)
  generalize WV.drew = W1 at P V HB hHeld ⊢
  refine take_ (i := 0) (N := some 10) (v := ?_) (a' := ?_) #[true, false, false, false, false, false, false, false, false, false, false] rfl rfl (by kernel_rfl) (fun _ _ _ h => h) (Or.inl ⟨by rfl, ?_⟩) hHeld ?_ ?_
  rotate_left
  · rintro w' ⟨s0, s1⟩
    refine yl_ 40 (.tmp 2) ?ho gP ?hx 40 (A) _ s0 Try.underlying40 rfl IA.out
    case ho => rfl
    case hx => rfl
  rotate_left
  · simp only [Act.put, List.setIfInBounds_toArray, List.set_cons_zero, List.set_cons_succ, i64_w, i32_w]
    rfl
  refine take_ (i := 2) (N := some 12) (v := ?_) (a' := ?_) #[true, false, true, false, false, false, false, false, false, false, false] rfl rfl (by kernel_rfl) (fun _ _ _ h => h) (Or.inl ⟨by rfl, ?_⟩) hHeld ?_ ?_
  rotate_left
  · rintro w' ⟨s0, s1⟩
    refine yl_ 37 (.tmp 3) ?ho gV ?hx 37 (B) _ s1 Try.underlying37 rfl IB.out
    case ho => rfl
    case hx => rfl
  rotate_left
  · simp only [Act.put, List.setIfInBounds_toArray, List.set_cons_zero, List.set_cons_succ, i64_w, i32_w]
    rfl
  refine join_ (σ := Nat) 2 #[true, true, true, true, true, true, true, true, true, false, false] (fun g_ => [(11, .agg (A).toArray), (13, .agg (B).toArray), (14, .tuple #[.agg (D).toArray, .int .i64 e0]), (9, .tuple #[.agg (D).toArray, .int .i64 e0]), (15, .agg (D).toArray), (16, .int .i64 e0), (5, .pointer (some ⟨g_, 0, none⟩))]) (fun g_ w' => Blk w' gP 40 (A) ∧ Blk w' gV 37 (B) ∧ Blk w' g_ 46 (U (List.replicate 6 0)) ∧ w.heap.size ≤ g_ ∧ (gP ≠ g_ ∧ gV ≠ g_) ∧ Below w.heap.size w w') ?_ ?_
  rotate_left
  · intro hJ
    refine two_ (i := 1) (j := 8) (Ni := some 11) (Nj := some 5) #[true, true, true, false, false, false, false, false, false, false, false] #[true, false, true, false, false, false, false, false, true, false, false] rfl rfl rfl rfl (by kernel_rfl) (by decide) (by decide) (fun K hK => ?_) (fun K hK => ?_)
    · skip
      refine goes_ Try.func17 (by kernel_rfl) rfl #[.agg (A).toArray] (by rfl) rfl rfl (by (try simp only [List.map_toArray, List.map_cons, List.map_nil]); first | done | rfl) ?_
      with_reducible refine (HT.out _).mono ?_
      rintro e W_ ⟨rfl, hb⟩
      refine ⟨_, rfl, ?_⟩
      have P_n := Lib.hid (Blk.below P.out hb)
      have V_n := Lib.hid (Blk.below V.out hb)
      have HB_n := Lib.hid (below_step HB.out hb)
      clear P
      have P := P_n
      clear P_n
      clear V
      have V := V_n
      clear V_n
      clear HB
      have HB := HB_n
      clear HB_n
      clear hb
      refine hK.out _ _ ⟨P.out, V.out⟩ (fun hHeld => ?_)
      clear hK K
      refine norm_ (a' := ?_) ?_ ?_
      rotate_left
      · show Act.put _ (some 11) _ = _
        simp only [Act.put, List.setIfInBounds_toArray, List.set_cons_zero, List.set_cons_succ, i64_w, i32_w]
        rfl
      refine two_ (i := 3) (j := 8) (Ni := some 13) (Nj := some 5) #[true, true, true, true, false, false, false, false, false, false, false] #[true, true, true, false, false, false, false, false, true, false, false] rfl rfl rfl rfl (by kernel_rfl) (by decide) (by decide) (fun K hK => ?_) (fun K hK => ?_)
      · skip
        refine goes_ Try.func20 (by kernel_rfl) rfl #[.agg (B).toArray] (by rfl) rfl rfl (by (try simp only [List.map_toArray, List.map_cons, List.map_nil]); first | done | rfl) ?_
        with_reducible refine (HV.out _).mono ?_
        rintro e W_ ⟨rfl, hb⟩
        refine ⟨_, rfl, ?_⟩
        have P_n := Lib.hid (Blk.below P.out hb)
        have V_n := Lib.hid (Blk.below V.out hb)
        have HB_n := Lib.hid (below_step HB.out hb)
        clear P
        have P := P_n
        clear P_n
        clear V
        have V := V_n
        clear V_n
        clear HB
        have HB := HB_n
        clear HB_n
        clear hb
        refine hK.out _ _ ⟨P.out, V.out⟩ (fun hHeld => ?_)
        clear hK K
        refine norm_ (a' := ?_) ?_ ?_
        rotate_left
        · show Act.put _ (some 13) _ = _
          simp only [Act.put, List.setIfInBounds_toArray, List.set_cons_zero, List.set_cons_succ, i64_w, i32_w]
          rfl
        refine two_ (i := 4) (j := 8) (Ni := some 14) (Nj := some 5) #[true, true, true, true, true, false, false, false, false, false, false] #[true, true, true, true, false, false, false, false, true, false, false] rfl rfl rfl rfl (by kernel_rfl) (by decide) (by decide) (fun K hK => ?_) (fun K hK => ?_)
        · skip
          refine goes_ Try.func22 (by kernel_rfl) rfl #[.agg (A).toArray, .agg (B).toArray] (by rfl) rfl rfl (by (try simp only [List.map_toArray, List.map_cons, List.map_nil]); first | done | rfl) ?_
          with_reducible refine (HS.out _).mono ?_
          rintro e W_ ⟨rfl, hb⟩
          refine ⟨_, rfl, ?_⟩
          have P_n := Lib.hid (Blk.below P.out hb)
          have V_n := Lib.hid (Blk.below V.out hb)
          have HB_n := Lib.hid (below_step HB.out hb)
          clear P
          have P := P_n
          clear P_n
          clear V
          have V := V_n
          clear V_n
          clear HB
          have HB := HB_n
          clear HB_n
          clear hb
          refine hK.out _ _ ⟨P.out, V.out⟩ (fun hHeld => ?_)
          clear hK K
          refine norm_ (a' := ?_) ?_ ?_
          rotate_left
          · show Act.put _ (some 14) _ = _
            simp only [Act.put, List.setIfInBounds_toArray, List.set_cons_zero, List.set_cons_succ, i64_w, i32_w]
            rfl
          refine pure_ (i := 5) (N := some 9) (v := ?_) (a' := ?_) #[true, true, true, true, true, true, false, false, false, false, false] rfl rfl (by kernel_rfl) (fun _ _ _ h => h) (Or.inl ⟨by rfl, ?_⟩) ?_ ?_
          rotate_left
          · intro w'
            go_simp
            with_reducible rfl
          rotate_left
          · simp only [Act.put, List.setIfInBounds_toArray, List.set_cons_zero, List.set_cons_succ, i64_w, i32_w]
            rfl
          refine pure_ (i := 6) (N := some 15) (v := ?_) (a' := ?_) #[true, true, true, true, true, true, true, false, false, false, false] rfl rfl (by kernel_rfl) (fun _ _ _ h => h) (Or.inl ⟨by rfl, ?_⟩) ?_ ?_
          rotate_left
          · intro w'
            go_simp
            with_reducible rfl
          rotate_left
          · simp only [Act.put, List.setIfInBounds_toArray, List.set_cons_zero, List.set_cons_succ, i64_w, i32_w]
            rfl
          refine pure_ (i := 7) (N := some 16) (v := ?_) (a' := ?_) #[true, true, true, true, true, true, true, true, false, false, false] rfl rfl (by kernel_rfl) (fun _ _ _ h => h) (Or.inl ⟨by rfl, ?_⟩) ?_ ?_
          rotate_left
          · intro w'
            go_simp
            with_reducible rfl
          rotate_left
          · simp only [Act.put, List.setIfInBounds_toArray, List.set_cons_zero, List.set_cons_succ, i64_w, i32_w]
            rfl
          refine one_ (i := 8) (N := some 5) #[true, true, true, true, true, true, true, true, true, false, false] rfl rfl (by kernel_rfl) (by decide) (fun K hK => ?_)
          refine alloc_ (N := some 5) ?hw ?hN (U (List.replicate 6 0)) 46 ?hr ?_
          case hw => rfl
          case hN => rfl
          case hr => first | (go_simp; done) | (go_simp; rfl)
          intro ga_ hg W_ NB_ hb
          have GE := Lib.hid ((by rw [hg]; exact below_size HB.out) : w.heap.size ≤ ga_)
          have NB := Lib.hid NB_
          have NE0 : gP ≠ ga_ := (by rw [hg]; exact Nat.ne_of_lt (Blk.lt P.out))
          have NE1 : gV ≠ ga_ := (by rw [hg]; exact Nat.ne_of_lt (Blk.lt V.out))
          have P_n := Lib.hid (Blk.below P.out hb)
          have V_n := Lib.hid (Blk.below V.out hb)
          have HB_n := Lib.hid (below_step HB.out hb)
          clear P
          have P := P_n
          clear P_n
          clear V
          have V := V_n
          clear V_n
          clear HB
          have HB := HB_n
          clear HB_n
          clear hb hg NB_
          refine hK.out _ _ ⟨P.out, V.out⟩ (fun hHeld => ?_)
          clear hK K
          refine norm_ (a' := ?_) ?_ ?_
          rotate_left
          · show Act.put _ (some 5) _ = _
            simp only [Act.put, List.setIfInBounds_toArray, List.set_cons_zero, List.set_cons_succ, i64_w, i32_w]
            rfl
          have hj := hJ _ _ ⟨P.out, V.out, NB.out, GE.out, ⟨NE0, NE1⟩, HB.out⟩
          simp only [putAll, Act.put, List.setIfInBounds_toArray, List.set_cons_zero, List.set_cons_succ, i64_w, i32_w] at hj
          exact hj
        · skip
          refine alloc_ (N := some 5) ?hw ?hN (U (List.replicate 6 0)) 46 ?hr ?_
          case hw => rfl
          case hN => rfl
          case hr => first | (go_simp; done) | (go_simp; rfl)
          intro ga_ hg W_ NB_ hb
          have GE := Lib.hid ((by rw [hg]; exact below_size HB.out) : w.heap.size ≤ ga_)
          have NB := Lib.hid NB_
          have NE0 : gP ≠ ga_ := (by rw [hg]; exact Nat.ne_of_lt (Blk.lt P.out))
          have NE1 : gV ≠ ga_ := (by rw [hg]; exact Nat.ne_of_lt (Blk.lt V.out))
          have P_n := Lib.hid (Blk.below P.out hb)
          have V_n := Lib.hid (Blk.below V.out hb)
          have HB_n := Lib.hid (below_step HB.out hb)
          clear P
          have P := P_n
          clear P_n
          clear V
          have V := V_n
          clear V_n
          clear HB
          have HB := HB_n
          clear HB_n
          clear hb hg NB_
          refine hK.out _ _ ⟨P.out, V.out⟩ (fun hHeld => ?_)
          clear hK K
          refine norm_ (a' := ?_) ?_ ?_
          rotate_left
          · show Act.put _ (some 5) _ = _
            simp only [Act.put, List.setIfInBounds_toArray, List.set_cons_zero, List.set_cons_succ, i64_w, i32_w]
            rfl
          refine one_ (i := 4) (N := some 14) #[true, true, true, true, true, false, false, false, true, false, false] rfl rfl (by kernel_rfl) (by decide) (fun K hK => ?_)
          refine goes_ Try.func22 (by kernel_rfl) rfl #[.agg (A).toArray, .agg (B).toArray] (by rfl) rfl rfl (by (try simp only [List.map_toArray, List.map_cons, List.map_nil]); first | done | rfl) ?_
          with_reducible refine (HS.out _).mono ?_
          rintro e W_ ⟨rfl, hb⟩
          refine ⟨_, rfl, ?_⟩
          have P_n := Lib.hid (Blk.below P.out hb)
          have V_n := Lib.hid (Blk.below V.out hb)
          have NB_n := Lib.hid (Blk.below NB.out hb)
          have HB_n := Lib.hid (below_step HB.out hb)
          clear P
          have P := P_n
          clear P_n
          clear V
          have V := V_n
          clear V_n
          clear NB
          have NB := NB_n
          clear NB_n
          clear HB
          have HB := HB_n
          clear HB_n
          clear hb
          refine hK.out _ _ ⟨P.out, V.out⟩ (fun hHeld => ?_)
          clear hK K
          refine norm_ (a' := ?_) ?_ ?_
          rotate_left
          · show Act.put _ (some 14) _ = _
            simp only [Act.put, List.setIfInBounds_toArray, List.set_cons_zero, List.set_cons_succ, i64_w, i32_w]
            rfl
          refine pure_ (i := 5) (N := some 9) (v := ?_) (a' := ?_) #[true, true, true, true, true, true, false, false, true, false, false] rfl rfl (by kernel_rfl) (fun _ _ _ h => h) (Or.inl ⟨by rfl, ?_⟩) ?_ ?_
          rotate_left
          · intro w'
            go_simp
            with_reducible rfl
          rotate_left
          · simp only [Act.put, List.setIfInBounds_toArray, List.set_cons_zero, List.set_cons_succ, i64_w, i32_w]
            rfl
          refine pure_ (i := 6) (N := some 15) (v := ?_) (a' := ?_) #[true, true, true, true, true, true, true, false, true, false, false] rfl rfl (by kernel_rfl) (fun _ _ _ h => h) (Or.inl ⟨by rfl, ?_⟩) ?_ ?_
          rotate_left
          · intro w'
            go_simp
            with_reducible rfl
          rotate_left
          · simp only [Act.put, List.setIfInBounds_toArray, List.set_cons_zero, List.set_cons_succ, i64_w, i32_w]
            rfl
          refine pure_ (i := 7) (N := some 16) (v := ?_) (a' := ?_) #[true, true, true, true, true, true, true, true, true, false, false] rfl rfl (by kernel_rfl) (fun _ _ _ h => h) (Or.inl ⟨by rfl, ?_⟩) ?_ ?_
          rotate_left
          · intro w'
            go_simp
            with_reducible rfl
          rotate_left
          · simp only [Act.put, List.setIfInBounds_toArray, List.set_cons_zero, List.set_cons_succ, i64_w, i32_w]
            rfl
          have hj := hJ _ _ ⟨P.out, V.out, NB.out, GE.out, ⟨NE0, NE1⟩, HB.out⟩
          simp only [putAll, Act.put, List.setIfInBounds_toArray, List.set_cons_zero, List.set_cons_succ, i64_w, i32_w] at hj
          exact hj
      · skip
        refine alloc_ (N := some 5) ?hw ?hN (U (List.replicate 6 0)) 46 ?hr ?_
        case hw => rfl
        case hN => rfl
        case hr => first | (go_simp; done) | (go_simp; rfl)
        intro ga_ hg W_ NB_ hb
        have GE := Lib.hid ((by rw [hg]; exact below_size HB.out) : w.heap.size ≤ ga_)
        have NB := Lib.hid NB_
        have NE0 : gP ≠ ga_ := (by rw [hg]; exact Nat.ne_of_lt (Blk.lt P.out))
        have NE1 : gV ≠ ga_ := (by rw [hg]; exact Nat.ne_of_lt (Blk.lt V.out))
        have P_n := Lib.hid (Blk.below P.out hb)
        have V_n := Lib.hid (Blk.below V.out hb)
        have HB_n := Lib.hid (below_step HB.out hb)
        clear P
        have P := P_n
        clear P_n
        clear V
        have V := V_n
        clear V_n
        clear HB
        have HB := HB_n
        clear HB_n
        clear hb hg NB_
        refine hK.out _ _ ⟨P.out, V.out⟩ (fun hHeld => ?_)
        clear hK K
        refine norm_ (a' := ?_) ?_ ?_
        rotate_left
        · show Act.put _ (some 5) _ = _
          simp only [Act.put, List.setIfInBounds_toArray, List.set_cons_zero, List.set_cons_succ, i64_w, i32_w]
          rfl
        refine one_ (i := 3) (N := some 13) #[true, true, true, true, false, false, false, false, true, false, false] rfl rfl (by kernel_rfl) (by decide) (fun K hK => ?_)
        refine goes_ Try.func20 (by kernel_rfl) rfl #[.agg (B).toArray] (by rfl) rfl rfl (by (try simp only [List.map_toArray, List.map_cons, List.map_nil]); first | done | rfl) ?_
        with_reducible refine (HV.out _).mono ?_
        rintro e W_ ⟨rfl, hb⟩
        refine ⟨_, rfl, ?_⟩
        have P_n := Lib.hid (Blk.below P.out hb)
        have V_n := Lib.hid (Blk.below V.out hb)
        have NB_n := Lib.hid (Blk.below NB.out hb)
        have HB_n := Lib.hid (below_step HB.out hb)
        clear P
        have P := P_n
        clear P_n
        clear V
        have V := V_n
        clear V_n
        clear NB
        have NB := NB_n
        clear NB_n
        clear HB
        have HB := HB_n
        clear HB_n
        clear hb
        refine hK.out _ _ ⟨P.out, V.out⟩ (fun hHeld => ?_)
        clear hK K
        refine norm_ (a' := ?_) ?_ ?_
        rotate_left
        · show Act.put _ (some 13) _ = _
          simp only [Act.put, List.setIfInBounds_toArray, List.set_cons_zero, List.set_cons_succ, i64_w, i32_w]
          rfl
        refine one_ (i := 4) (N := some 14) #[true, true, true, true, true, false, false, false, true, false, false] rfl rfl (by kernel_rfl) (by decide) (fun K hK => ?_)
        refine goes_ Try.func22 (by kernel_rfl) rfl #[.agg (A).toArray, .agg (B).toArray] (by rfl) rfl rfl (by (try simp only [List.map_toArray, List.map_cons, List.map_nil]); first | done | rfl) ?_
        with_reducible refine (HS.out _).mono ?_
        rintro e W_ ⟨rfl, hb⟩
        refine ⟨_, rfl, ?_⟩
        have P_n := Lib.hid (Blk.below P.out hb)
        have V_n := Lib.hid (Blk.below V.out hb)
        have NB_n := Lib.hid (Blk.below NB.out hb)
        have HB_n := Lib.hid (below_step HB.out hb)
        clear P
        have P := P_n
        clear P_n
        clear V
        have V := V_n
        clear V_n
        clear NB
        have NB := NB_n
        clear NB_n
        clear HB
        have HB := HB_n
        clear HB_n
        clear hb
        refine hK.out _ _ ⟨P.out, V.out⟩ (fun hHeld => ?_)
        clear hK K
        refine norm_ (a' := ?_) ?_ ?_
        rotate_left
        · show Act.put _ (some 14) _ = _
          simp only [Act.put, List.setIfInBounds_toArray, List.set_cons_zero, List.set_cons_succ, i64_w, i32_w]
          rfl
        refine pure_ (i := 5) (N := some 9) (v := ?_) (a' := ?_) #[true, true, true, true, true, true, false, false, true, false, false] rfl rfl (by kernel_rfl) (fun _ _ _ h => h) (Or.inl ⟨by rfl, ?_⟩) ?_ ?_
        rotate_left
        · intro w'
          go_simp
          with_reducible rfl
        rotate_left
        · simp only [Act.put, List.setIfInBounds_toArray, List.set_cons_zero, List.set_cons_succ, i64_w, i32_w]
          rfl
        refine pure_ (i := 6) (N := some 15) (v := ?_) (a' := ?_) #[true, true, true, true, true, true, true, false, true, false, false] rfl rfl (by kernel_rfl) (fun _ _ _ h => h) (Or.inl ⟨by rfl, ?_⟩) ?_ ?_
        rotate_left
        · intro w'
          go_simp
          with_reducible rfl
        rotate_left
        · simp only [Act.put, List.setIfInBounds_toArray, List.set_cons_zero, List.set_cons_succ, i64_w, i32_w]
          rfl
        refine pure_ (i := 7) (N := some 16) (v := ?_) (a' := ?_) #[true, true, true, true, true, true, true, true, true, false, false] rfl rfl (by kernel_rfl) (fun _ _ _ h => h) (Or.inl ⟨by rfl, ?_⟩) ?_ ?_
        rotate_left
        · intro w'
          go_simp
          with_reducible rfl
        rotate_left
        · simp only [Act.put, List.setIfInBounds_toArray, List.set_cons_zero, List.set_cons_succ, i64_w, i32_w]
          rfl
        have hj := hJ _ _ ⟨P.out, V.out, NB.out, GE.out, ⟨NE0, NE1⟩, HB.out⟩
        simp only [putAll, Act.put, List.setIfInBounds_toArray, List.set_cons_zero, List.set_cons_succ, i64_w, i32_w] at hj
        exact hj
    · skip
      refine alloc_ (N := some 5) ?hw ?hN (U (List.replicate 6 0)) 46 ?hr ?_
      case hw => rfl
      case hN => rfl
      case hr => first | (go_simp; done) | (go_simp; rfl)
      intro ga_ hg W_ NB_ hb
      have GE := Lib.hid ((by rw [hg]; exact below_size HB.out) : w.heap.size ≤ ga_)
      have NB := Lib.hid NB_
      have NE0 : gP ≠ ga_ := (by rw [hg]; exact Nat.ne_of_lt (Blk.lt P.out))
      have NE1 : gV ≠ ga_ := (by rw [hg]; exact Nat.ne_of_lt (Blk.lt V.out))
      have P_n := Lib.hid (Blk.below P.out hb)
      have V_n := Lib.hid (Blk.below V.out hb)
      have HB_n := Lib.hid (below_step HB.out hb)
      clear P
      have P := P_n
      clear P_n
      clear V
      have V := V_n
      clear V_n
      clear HB
      have HB := HB_n
      clear HB_n
      clear hb hg NB_
      refine hK.out _ _ ⟨P.out, V.out⟩ (fun hHeld => ?_)
      clear hK K
      refine norm_ (a' := ?_) ?_ ?_
      rotate_left
      · show Act.put _ (some 5) _ = _
        simp only [Act.put, List.setIfInBounds_toArray, List.set_cons_zero, List.set_cons_succ, i64_w, i32_w]
        rfl
      refine one_ (i := 1) (N := some 11) #[true, true, true, false, false, false, false, false, true, false, false] rfl rfl (by kernel_rfl) (by decide) (fun K hK => ?_)
      refine goes_ Try.func17 (by kernel_rfl) rfl #[.agg (A).toArray] (by rfl) rfl rfl (by (try simp only [List.map_toArray, List.map_cons, List.map_nil]); first | done | rfl) ?_
      with_reducible refine (HT.out _).mono ?_
      rintro e W_ ⟨rfl, hb⟩
      refine ⟨_, rfl, ?_⟩
      have P_n := Lib.hid (Blk.below P.out hb)
      have V_n := Lib.hid (Blk.below V.out hb)
      have NB_n := Lib.hid (Blk.below NB.out hb)
      have HB_n := Lib.hid (below_step HB.out hb)
      clear P
      have P := P_n
      clear P_n
      clear V
      have V := V_n
      clear V_n
      clear NB
      have NB := NB_n
      clear NB_n
      clear HB
      have HB := HB_n
      clear HB_n
      clear hb
      refine hK.out _ _ ⟨P.out, V.out⟩ (fun hHeld => ?_)
      clear hK K
      refine norm_ (a' := ?_) ?_ ?_
      rotate_left
      · show Act.put _ (some 11) _ = _
        simp only [Act.put, List.setIfInBounds_toArray, List.set_cons_zero, List.set_cons_succ, i64_w, i32_w]
        rfl
      refine one_ (i := 3) (N := some 13) #[true, true, true, true, false, false, false, false, true, false, false] rfl rfl (by kernel_rfl) (by decide) (fun K hK => ?_)
      refine goes_ Try.func20 (by kernel_rfl) rfl #[.agg (B).toArray] (by rfl) rfl rfl (by (try simp only [List.map_toArray, List.map_cons, List.map_nil]); first | done | rfl) ?_
      with_reducible refine (HV.out _).mono ?_
      rintro e W_ ⟨rfl, hb⟩
      refine ⟨_, rfl, ?_⟩
      have P_n := Lib.hid (Blk.below P.out hb)
      have V_n := Lib.hid (Blk.below V.out hb)
      have NB_n := Lib.hid (Blk.below NB.out hb)
      have HB_n := Lib.hid (below_step HB.out hb)
      clear P
      have P := P_n
      clear P_n
      clear V
      have V := V_n
      clear V_n
      clear NB
      have NB := NB_n
      clear NB_n
      clear HB
      have HB := HB_n
      clear HB_n
      clear hb
      refine hK.out _ _ ⟨P.out, V.out⟩ (fun hHeld => ?_)
      clear hK K
      refine norm_ (a' := ?_) ?_ ?_
      rotate_left
      · show Act.put _ (some 13) _ = _
        simp only [Act.put, List.setIfInBounds_toArray, List.set_cons_zero, List.set_cons_succ, i64_w, i32_w]
        rfl
      refine one_ (i := 4) (N := some 14) #[true, true, true, true, true, false, false, false, true, false, false] rfl rfl (by kernel_rfl) (by decide) (fun K hK => ?_)
      refine goes_ Try.func22 (by kernel_rfl) rfl #[.agg (A).toArray, .agg (B).toArray] (by rfl) rfl rfl (by (try simp only [List.map_toArray, List.map_cons, List.map_nil]); first | done | rfl) ?_
      with_reducible refine (HS.out _).mono ?_
      rintro e W_ ⟨rfl, hb⟩
      refine ⟨_, rfl, ?_⟩
      have P_n := Lib.hid (Blk.below P.out hb)
      have V_n := Lib.hid (Blk.below V.out hb)
      have NB_n := Lib.hid (Blk.below NB.out hb)
      have HB_n := Lib.hid (below_step HB.out hb)
      clear P
      have P := P_n
      clear P_n
      clear V
      have V := V_n
      clear V_n
      clear NB
      have NB := NB_n
      clear NB_n
      clear HB
      have HB := HB_n
      clear HB_n
      clear hb
      refine hK.out _ _ ⟨P.out, V.out⟩ (fun hHeld => ?_)
      clear hK K
      refine norm_ (a' := ?_) ?_ ?_
      rotate_left
      · show Act.put _ (some 14) _ = _
        simp only [Act.put, List.setIfInBounds_toArray, List.set_cons_zero, List.set_cons_succ, i64_w, i32_w]
        rfl
      refine pure_ (i := 5) (N := some 9) (v := ?_) (a' := ?_) #[true, true, true, true, true, true, false, false, true, false, false] rfl rfl (by kernel_rfl) (fun _ _ _ h => h) (Or.inl ⟨by rfl, ?_⟩) ?_ ?_
      rotate_left
      · intro w'
        go_simp
        with_reducible rfl
      rotate_left
      · simp only [Act.put, List.setIfInBounds_toArray, List.set_cons_zero, List.set_cons_succ, i64_w, i32_w]
        rfl
      refine pure_ (i := 6) (N := some 15) (v := ?_) (a' := ?_) #[true, true, true, true, true, true, true, false, true, false, false] rfl rfl (by kernel_rfl) (fun _ _ _ h => h) (Or.inl ⟨by rfl, ?_⟩) ?_ ?_
      rotate_left
      · intro w'
        go_simp
        with_reducible rfl
      rotate_left
      · simp only [Act.put, List.setIfInBounds_toArray, List.set_cons_zero, List.set_cons_succ, i64_w, i32_w]
        rfl
      refine pure_ (i := 7) (N := some 16) (v := ?_) (a' := ?_) #[true, true, true, true, true, true, true, true, true, false, false] rfl rfl (by kernel_rfl) (fun _ _ _ h => h) (Or.inl ⟨by rfl, ?_⟩) ?_ ?_
      rotate_left
      · intro w'
        go_simp
        with_reducible rfl
      rotate_left
      · simp only [Act.put, List.setIfInBounds_toArray, List.set_cons_zero, List.set_cons_succ, i64_w, i32_w]
        rfl
      have hj := hJ _ _ ⟨P.out, V.out, NB.out, GE.out, ⟨NE0, NE1⟩, HB.out⟩
      simp only [putAll, Act.put, List.setIfInBounds_toArray, List.set_cons_zero, List.set_cons_succ, i64_w, i32_w] at hj
      exact hj
  intro gR WR_ ⟨P_, V_, R_, GR, ⟨NERP, NERV⟩, HB_⟩
  clear P V HB hHeld
  have P := Lib.hid P_
  have V := Lib.hid V_
  have R := Lib.hid R_
  have HB := Lib.hid HB_
  clear P_ V_ R_ HB_
  refine norm_ (a' := ?_) ?_ ?_
  rotate_left
  · simp only [putAll, Act.put, List.setIfInBounds_toArray, List.set_cons_zero, List.set_cons_succ, i64_w, i32_w]
    rfl
  refine last_ (i := 9) (N := none) #[true, true, true, true, true, true, true, true, true, true, false] rfl rfl (by kernel_rfl) (by decide) (fun K hK => ?_)
  refine ststore_ ?hw 46 5 (.tmp 15) ?ho ?hN gR ?hx (D) ?hy 46 (U (List.replicate 6 0)) R.out ID.out (LD.out.trans (by rfl)) OD.out ?_
  case hw => rfl
  case ho => rfl
  case hN => rfl
  case hx => rfl
  case hy => rfl
  intro XR hbk hfar hbel
  have P_n := Lib.hid (Blk.other P.out hfar NERP)
  have V_n := Lib.hid (Blk.other V.out hfar NERV)
  have HB_n := Lib.hid (hbel _ _ HB.out GR)
  have R_n := Lib.hid (hbk)
  clear P
  have P := P_n
  clear P_n
  clear V
  have V := V_n
  clear V_n
  clear HB
  have HB := HB_n
  clear HB_n
  clear R
  have R := R_n
  clear R_n
  clear hbk hfar hbel
  refine hK.out _ _ ?_
  clear hK K
  refine pure_ (i := 10) (N := some 6) (v := ?_) (a' := ?_) #[true, true, true, true, true, true, true, true, true, true, true] rfl rfl (by kernel_rfl) (fun _ _ _ h => h) (Or.inl ⟨by rfl, ?_⟩) ?_ ?_
  rotate_left
  · intro w'
    go_simp
    with_reducible rfl
  rotate_left
  · simp only [Act.put, List.setIfInBounds_toArray, List.set_cons_zero, List.set_cons_succ, i64_w, i32_w]
    rfl
  refine done_ (by kernel_rfl) ?_
  go_wp2
  have P_n := Lib.hid (Blk.drew P.out)
  have V_n := Lib.hid (Blk.drew V.out)
  have R_n := Lib.hid (Blk.drew R.out)
  have HB_n := Lib.hid (below_drew HB.out)
  clear P
  have P := P_n
  clear P_n
  clear V
  have V := V_n
  clear V_n
  clear R
  have R := R_n
  clear R_n
  clear HB
  have HB := HB_n
  clear HB_n
  refine start_ (n := 11) (S := fun w' => Blk w' gP 40 (A) ∧ Blk w' gV 37 (B)) (ds := [9]) #[false, false, false, false, false, false, false, false, false, false, false] (by kernel_rfl) rfl rfl ⟨P.out, V.out⟩ (fun hHeld => ?_)
  generalize XR.drew = W2 at P V R HB hHeld ⊢
  refine take_ (i := 0) (N := some 18) (v := ?_) (a' := ?_) #[true, false, false, false, false, false, false, false, false, false, false] rfl rfl (by kernel_rfl) (fun _ _ _ h => h) (Or.inl ⟨by rfl, ?_⟩) hHeld ?_ ?_
  rotate_left
  · rintro w' ⟨s0, s1⟩
    refine yl_ 40 (.tmp 2) ?ho gP ?hx 40 (A) _ s0 Try.underlying40 rfl IA.out
    case ho => rfl
    case hx => rfl
  rotate_left
  · simp only [Act.put, List.setIfInBounds_toArray, List.set_cons_zero, List.set_cons_succ, i64_w, i32_w]
    rfl
  refine take_ (i := 2) (N := some 20) (v := ?_) (a' := ?_) #[true, false, true, false, false, false, false, false, false, false, false] rfl rfl (by kernel_rfl) (fun _ _ _ h => h) (Or.inl ⟨by rfl, ?_⟩) hHeld ?_ ?_
  rotate_left
  · rintro w' ⟨s0, s1⟩
    refine yl_ 37 (.tmp 3) ?ho gV ?hx 37 (B) _ s1 Try.underlying37 rfl IB.out
    case ho => rfl
    case hx => rfl
  rotate_left
  · simp only [Act.put, List.setIfInBounds_toArray, List.set_cons_zero, List.set_cons_succ, i64_w, i32_w]
    rfl
  refine join_ (σ := Nat) 2 #[true, true, true, true, true, true, true, true, true, false, false] (fun g_ => [(19, .agg (A).toArray), (21, .agg (B).toArray), (22, .tuple #[.agg (D).toArray, .int .i64 e0]), (17, .tuple #[.agg (D).toArray, .int .i64 e0]), (23, .agg (D).toArray), (24, .int .i64 e0), (7, .pointer (some ⟨g_, 0, none⟩))]) (fun g_ w' => Blk w' gP 40 (A) ∧ Blk w' gV 37 (B) ∧ Blk w' gR 46 (D) ∧ Blk w' g_ 46 (U (List.replicate 6 0)) ∧ w.heap.size ≤ g_ ∧ (gP ≠ g_ ∧ gV ≠ g_ ∧ gR ≠ g_) ∧ Below w.heap.size w w') ?_ ?_
  rotate_left
  · intro hJ
    refine two_ (i := 1) (j := 8) (Ni := some 19) (Nj := some 7) #[true, true, true, false, false, false, false, false, false, false, false] #[true, false, true, false, false, false, false, false, true, false, false] rfl rfl rfl rfl (by kernel_rfl) (by decide) (by decide) (fun K hK => ?_) (fun K hK => ?_)
    · skip
      refine goes_ Try.func17 (by kernel_rfl) rfl #[.agg (A).toArray] (by rfl) rfl rfl (by (try simp only [List.map_toArray, List.map_cons, List.map_nil]); first | done | rfl) ?_
      with_reducible refine (HT.out _).mono ?_
      rintro e W_ ⟨rfl, hb⟩
      refine ⟨_, rfl, ?_⟩
      have P_n := Lib.hid (Blk.below P.out hb)
      have V_n := Lib.hid (Blk.below V.out hb)
      have R_n := Lib.hid (Blk.below R.out hb)
      have HB_n := Lib.hid (below_step HB.out hb)
      clear P
      have P := P_n
      clear P_n
      clear V
      have V := V_n
      clear V_n
      clear R
      have R := R_n
      clear R_n
      clear HB
      have HB := HB_n
      clear HB_n
      clear hb
      refine hK.out _ _ ⟨P.out, V.out⟩ (fun hHeld => ?_)
      clear hK K
      refine norm_ (a' := ?_) ?_ ?_
      rotate_left
      · show Act.put _ (some 19) _ = _
        simp only [Act.put, List.setIfInBounds_toArray, List.set_cons_zero, List.set_cons_succ, i64_w, i32_w]
        rfl
      refine two_ (i := 3) (j := 8) (Ni := some 21) (Nj := some 7) #[true, true, true, true, false, false, false, false, false, false, false] #[true, true, true, false, false, false, false, false, true, false, false] rfl rfl rfl rfl (by kernel_rfl) (by decide) (by decide) (fun K hK => ?_) (fun K hK => ?_)
      · skip
        refine goes_ Try.func20 (by kernel_rfl) rfl #[.agg (B).toArray] (by rfl) rfl rfl (by (try simp only [List.map_toArray, List.map_cons, List.map_nil]); first | done | rfl) ?_
        with_reducible refine (HV.out _).mono ?_
        rintro e W_ ⟨rfl, hb⟩
        refine ⟨_, rfl, ?_⟩
        have P_n := Lib.hid (Blk.below P.out hb)
        have V_n := Lib.hid (Blk.below V.out hb)
        have R_n := Lib.hid (Blk.below R.out hb)
        have HB_n := Lib.hid (below_step HB.out hb)
        clear P
        have P := P_n
        clear P_n
        clear V
        have V := V_n
        clear V_n
        clear R
        have R := R_n
        clear R_n
        clear HB
        have HB := HB_n
        clear HB_n
        clear hb
        refine hK.out _ _ ⟨P.out, V.out⟩ (fun hHeld => ?_)
        clear hK K
        refine norm_ (a' := ?_) ?_ ?_
        rotate_left
        · show Act.put _ (some 21) _ = _
          simp only [Act.put, List.setIfInBounds_toArray, List.set_cons_zero, List.set_cons_succ, i64_w, i32_w]
          rfl
        refine two_ (i := 4) (j := 8) (Ni := some 22) (Nj := some 7) #[true, true, true, true, true, false, false, false, false, false, false] #[true, true, true, true, false, false, false, false, true, false, false] rfl rfl rfl rfl (by kernel_rfl) (by decide) (by decide) (fun K hK => ?_) (fun K hK => ?_)
        · skip
          refine goes_ Try.func23 (by kernel_rfl) rfl #[.agg (A).toArray, .agg (B).toArray] (by rfl) rfl rfl (by (try simp only [List.map_toArray, List.map_cons, List.map_nil]); first | done | rfl) ?_
          with_reducible refine (HI.out _).mono ?_
          rintro e W_ ⟨rfl, hb⟩
          refine ⟨_, rfl, ?_⟩
          have P_n := Lib.hid (Blk.below P.out hb)
          have V_n := Lib.hid (Blk.below V.out hb)
          have R_n := Lib.hid (Blk.below R.out hb)
          have HB_n := Lib.hid (below_step HB.out hb)
          clear P
          have P := P_n
          clear P_n
          clear V
          have V := V_n
          clear V_n
          clear R
          have R := R_n
          clear R_n
          clear HB
          have HB := HB_n
          clear HB_n
          clear hb
          refine hK.out _ _ ⟨P.out, V.out⟩ (fun hHeld => ?_)
          clear hK K
          refine norm_ (a' := ?_) ?_ ?_
          rotate_left
          · show Act.put _ (some 22) _ = _
            simp only [Act.put, List.setIfInBounds_toArray, List.set_cons_zero, List.set_cons_succ, i64_w, i32_w]
            rfl
          refine pure_ (i := 5) (N := some 17) (v := ?_) (a' := ?_) #[true, true, true, true, true, true, false, false, false, false, false] rfl rfl (by kernel_rfl) (fun _ _ _ h => h) (Or.inl ⟨by rfl, ?_⟩) ?_ ?_
          rotate_left
          · intro w'
            go_simp
            with_reducible rfl
          rotate_left
          · simp only [Act.put, List.setIfInBounds_toArray, List.set_cons_zero, List.set_cons_succ, i64_w, i32_w]
            rfl
          refine pure_ (i := 6) (N := some 23) (v := ?_) (a' := ?_) #[true, true, true, true, true, true, true, false, false, false, false] rfl rfl (by kernel_rfl) (fun _ _ _ h => h) (Or.inl ⟨by rfl, ?_⟩) ?_ ?_
          rotate_left
          · intro w'
            go_simp
            with_reducible rfl
          rotate_left
          · simp only [Act.put, List.setIfInBounds_toArray, List.set_cons_zero, List.set_cons_succ, i64_w, i32_w]
            rfl
          refine pure_ (i := 7) (N := some 24) (v := ?_) (a' := ?_) #[true, true, true, true, true, true, true, true, false, false, false] rfl rfl (by kernel_rfl) (fun _ _ _ h => h) (Or.inl ⟨by rfl, ?_⟩) ?_ ?_
          rotate_left
          · intro w'
            go_simp
            with_reducible rfl
          rotate_left
          · simp only [Act.put, List.setIfInBounds_toArray, List.set_cons_zero, List.set_cons_succ, i64_w, i32_w]
            rfl
          refine one_ (i := 8) (N := some 7) #[true, true, true, true, true, true, true, true, true, false, false] rfl rfl (by kernel_rfl) (by decide) (fun K hK => ?_)
          refine alloc_ (N := some 7) ?hw ?hN (U (List.replicate 6 0)) 46 ?hr ?_
          case hw => rfl
          case hN => rfl
          case hr => first | (go_simp; done) | (go_simp; rfl)
          intro ga_ hg W_ NB_ hb
          have GE := Lib.hid ((by rw [hg]; exact below_size HB.out) : w.heap.size ≤ ga_)
          have NB := Lib.hid NB_
          have NE0 : gP ≠ ga_ := (by rw [hg]; exact Nat.ne_of_lt (Blk.lt P.out))
          have NE1 : gV ≠ ga_ := (by rw [hg]; exact Nat.ne_of_lt (Blk.lt V.out))
          have NE2 : gR ≠ ga_ := (by rw [hg]; exact Nat.ne_of_lt (Blk.lt R.out))
          have P_n := Lib.hid (Blk.below P.out hb)
          have V_n := Lib.hid (Blk.below V.out hb)
          have R_n := Lib.hid (Blk.below R.out hb)
          have HB_n := Lib.hid (below_step HB.out hb)
          clear P
          have P := P_n
          clear P_n
          clear V
          have V := V_n
          clear V_n
          clear R
          have R := R_n
          clear R_n
          clear HB
          have HB := HB_n
          clear HB_n
          clear hb hg NB_
          refine hK.out _ _ ⟨P.out, V.out⟩ (fun hHeld => ?_)
          clear hK K
          refine norm_ (a' := ?_) ?_ ?_
          rotate_left
          · show Act.put _ (some 7) _ = _
            simp only [Act.put, List.setIfInBounds_toArray, List.set_cons_zero, List.set_cons_succ, i64_w, i32_w]
            rfl
          have hj := hJ _ _ ⟨P.out, V.out, R.out, NB.out, GE.out, ⟨NE0, NE1, NE2⟩, HB.out⟩
          simp only [putAll, Act.put, List.setIfInBounds_toArray, List.set_cons_zero, List.set_cons_succ, i64_w, i32_w] at hj
          exact hj
        · skip
          refine alloc_ (N := some 7) ?hw ?hN (U (List.replicate 6 0)) 46 ?hr ?_
          case hw => rfl
          case hN => rfl
          case hr => first | (go_simp; done) | (go_simp; rfl)
          intro ga_ hg W_ NB_ hb
          have GE := Lib.hid ((by rw [hg]; exact below_size HB.out) : w.heap.size ≤ ga_)
          have NB := Lib.hid NB_
          have NE0 : gP ≠ ga_ := (by rw [hg]; exact Nat.ne_of_lt (Blk.lt P.out))
          have NE1 : gV ≠ ga_ := (by rw [hg]; exact Nat.ne_of_lt (Blk.lt V.out))
          have NE2 : gR ≠ ga_ := (by rw [hg]; exact Nat.ne_of_lt (Blk.lt R.out))
          have P_n := Lib.hid (Blk.below P.out hb)
          have V_n := Lib.hid (Blk.below V.out hb)
          have R_n := Lib.hid (Blk.below R.out hb)
          have HB_n := Lib.hid (below_step HB.out hb)
          clear P
          have P := P_n
          clear P_n
          clear V
          have V := V_n
          clear V_n
          clear R
          have R := R_n
          clear R_n
          clear HB
          have HB := HB_n
          clear HB_n
          clear hb hg NB_
          refine hK.out _ _ ⟨P.out, V.out⟩ (fun hHeld => ?_)
          clear hK K
          refine norm_ (a' := ?_) ?_ ?_
          rotate_left
          · show Act.put _ (some 7) _ = _
            simp only [Act.put, List.setIfInBounds_toArray, List.set_cons_zero, List.set_cons_succ, i64_w, i32_w]
            rfl
          refine one_ (i := 4) (N := some 22) #[true, true, true, true, true, false, false, false, true, false, false] rfl rfl (by kernel_rfl) (by decide) (fun K hK => ?_)
          refine goes_ Try.func23 (by kernel_rfl) rfl #[.agg (A).toArray, .agg (B).toArray] (by rfl) rfl rfl (by (try simp only [List.map_toArray, List.map_cons, List.map_nil]); first | done | rfl) ?_
          with_reducible refine (HI.out _).mono ?_
          rintro e W_ ⟨rfl, hb⟩
          refine ⟨_, rfl, ?_⟩
          have P_n := Lib.hid (Blk.below P.out hb)
          have V_n := Lib.hid (Blk.below V.out hb)
          have R_n := Lib.hid (Blk.below R.out hb)
          have NB_n := Lib.hid (Blk.below NB.out hb)
          have HB_n := Lib.hid (below_step HB.out hb)
          clear P
          have P := P_n
          clear P_n
          clear V
          have V := V_n
          clear V_n
          clear R
          have R := R_n
          clear R_n
          clear NB
          have NB := NB_n
          clear NB_n
          clear HB
          have HB := HB_n
          clear HB_n
          clear hb
          refine hK.out _ _ ⟨P.out, V.out⟩ (fun hHeld => ?_)
          clear hK K
          refine norm_ (a' := ?_) ?_ ?_
          rotate_left
          · show Act.put _ (some 22) _ = _
            simp only [Act.put, List.setIfInBounds_toArray, List.set_cons_zero, List.set_cons_succ, i64_w, i32_w]
            rfl
          refine pure_ (i := 5) (N := some 17) (v := ?_) (a' := ?_) #[true, true, true, true, true, true, false, false, true, false, false] rfl rfl (by kernel_rfl) (fun _ _ _ h => h) (Or.inl ⟨by rfl, ?_⟩) ?_ ?_
          rotate_left
          · intro w'
            go_simp
            with_reducible rfl
          rotate_left
          · simp only [Act.put, List.setIfInBounds_toArray, List.set_cons_zero, List.set_cons_succ, i64_w, i32_w]
            rfl
          refine pure_ (i := 6) (N := some 23) (v := ?_) (a' := ?_) #[true, true, true, true, true, true, true, false, true, false, false] rfl rfl (by kernel_rfl) (fun _ _ _ h => h) (Or.inl ⟨by rfl, ?_⟩) ?_ ?_
          rotate_left
          · intro w'
            go_simp
            with_reducible rfl
          rotate_left
          · simp only [Act.put, List.setIfInBounds_toArray, List.set_cons_zero, List.set_cons_succ, i64_w, i32_w]
            rfl
          refine pure_ (i := 7) (N := some 24) (v := ?_) (a' := ?_) #[true, true, true, true, true, true, true, true, true, false, false] rfl rfl (by kernel_rfl) (fun _ _ _ h => h) (Or.inl ⟨by rfl, ?_⟩) ?_ ?_
          rotate_left
          · intro w'
            go_simp
            with_reducible rfl
          rotate_left
          · simp only [Act.put, List.setIfInBounds_toArray, List.set_cons_zero, List.set_cons_succ, i64_w, i32_w]
            rfl
          have hj := hJ _ _ ⟨P.out, V.out, R.out, NB.out, GE.out, ⟨NE0, NE1, NE2⟩, HB.out⟩
          simp only [putAll, Act.put, List.setIfInBounds_toArray, List.set_cons_zero, List.set_cons_succ, i64_w, i32_w] at hj
          exact hj
      · skip
        refine alloc_ (N := some 7) ?hw ?hN (U (List.replicate 6 0)) 46 ?hr ?_
        case hw => rfl
        case hN => rfl
        case hr => first | (go_simp; done) | (go_simp; rfl)
        intro ga_ hg W_ NB_ hb
        have GE := Lib.hid ((by rw [hg]; exact below_size HB.out) : w.heap.size ≤ ga_)
        have NB := Lib.hid NB_
        have NE0 : gP ≠ ga_ := (by rw [hg]; exact Nat.ne_of_lt (Blk.lt P.out))
        have NE1 : gV ≠ ga_ := (by rw [hg]; exact Nat.ne_of_lt (Blk.lt V.out))
        have NE2 : gR ≠ ga_ := (by rw [hg]; exact Nat.ne_of_lt (Blk.lt R.out))
        have P_n := Lib.hid (Blk.below P.out hb)
        have V_n := Lib.hid (Blk.below V.out hb)
        have R_n := Lib.hid (Blk.below R.out hb)
        have HB_n := Lib.hid (below_step HB.out hb)
        clear P
        have P := P_n
        clear P_n
        clear V
        have V := V_n
        clear V_n
        clear R
        have R := R_n
        clear R_n
        clear HB
        have HB := HB_n
        clear HB_n
        clear hb hg NB_
        refine hK.out _ _ ⟨P.out, V.out⟩ (fun hHeld => ?_)
        clear hK K
        refine norm_ (a' := ?_) ?_ ?_
        rotate_left
        · show Act.put _ (some 7) _ = _
          simp only [Act.put, List.setIfInBounds_toArray, List.set_cons_zero, List.set_cons_succ, i64_w, i32_w]
          rfl
        refine one_ (i := 3) (N := some 21) #[true, true, true, true, false, false, false, false, true, false, false] rfl rfl (by kernel_rfl) (by decide) (fun K hK => ?_)
        refine goes_ Try.func20 (by kernel_rfl) rfl #[.agg (B).toArray] (by rfl) rfl rfl (by (try simp only [List.map_toArray, List.map_cons, List.map_nil]); first | done | rfl) ?_
        with_reducible refine (HV.out _).mono ?_
        rintro e W_ ⟨rfl, hb⟩
        refine ⟨_, rfl, ?_⟩
        have P_n := Lib.hid (Blk.below P.out hb)
        have V_n := Lib.hid (Blk.below V.out hb)
        have R_n := Lib.hid (Blk.below R.out hb)
        have NB_n := Lib.hid (Blk.below NB.out hb)
        have HB_n := Lib.hid (below_step HB.out hb)
        clear P
        have P := P_n
        clear P_n
        clear V
        have V := V_n
        clear V_n
        clear R
        have R := R_n
        clear R_n
        clear NB
        have NB := NB_n
        clear NB_n
        clear HB
        have HB := HB_n
        clear HB_n
        clear hb
        refine hK.out _ _ ⟨P.out, V.out⟩ (fun hHeld => ?_)
        clear hK K
        refine norm_ (a' := ?_) ?_ ?_
        rotate_left
        · show Act.put _ (some 21) _ = _
          simp only [Act.put, List.setIfInBounds_toArray, List.set_cons_zero, List.set_cons_succ, i64_w, i32_w]
          rfl
        refine one_ (i := 4) (N := some 22) #[true, true, true, true, true, false, false, false, true, false, false] rfl rfl (by kernel_rfl) (by decide) (fun K hK => ?_)
        refine goes_ Try.func23 (by kernel_rfl) rfl #[.agg (A).toArray, .agg (B).toArray] (by rfl) rfl rfl (by (try simp only [List.map_toArray, List.map_cons, List.map_nil]); first | done | rfl) ?_
        with_reducible refine (HI.out _).mono ?_
        rintro e W_ ⟨rfl, hb⟩
        refine ⟨_, rfl, ?_⟩
        have P_n := Lib.hid (Blk.below P.out hb)
        have V_n := Lib.hid (Blk.below V.out hb)
        have R_n := Lib.hid (Blk.below R.out hb)
        have NB_n := Lib.hid (Blk.below NB.out hb)
        have HB_n := Lib.hid (below_step HB.out hb)
        clear P
        have P := P_n
        clear P_n
        clear V
        have V := V_n
        clear V_n
        clear R
        have R := R_n
        clear R_n
        clear NB
        have NB := NB_n
        clear NB_n
        clear HB
        have HB := HB_n
        clear HB_n
        clear hb
        refine hK.out _ _ ⟨P.out, V.out⟩ (fun hHeld => ?_)
        clear hK K
        refine norm_ (a' := ?_) ?_ ?_
        rotate_left
        · show Act.put _ (some 22) _ = _
          simp only [Act.put, List.setIfInBounds_toArray, List.set_cons_zero, List.set_cons_succ, i64_w, i32_w]
          rfl
        refine pure_ (i := 5) (N := some 17) (v := ?_) (a' := ?_) #[true, true, true, true, true, true, false, false, true, false, false] rfl rfl (by kernel_rfl) (fun _ _ _ h => h) (Or.inl ⟨by rfl, ?_⟩) ?_ ?_
        rotate_left
        · intro w'
          go_simp
          with_reducible rfl
        rotate_left
        · simp only [Act.put, List.setIfInBounds_toArray, List.set_cons_zero, List.set_cons_succ, i64_w, i32_w]
          rfl
        refine pure_ (i := 6) (N := some 23) (v := ?_) (a' := ?_) #[true, true, true, true, true, true, true, false, true, false, false] rfl rfl (by kernel_rfl) (fun _ _ _ h => h) (Or.inl ⟨by rfl, ?_⟩) ?_ ?_
        rotate_left
        · intro w'
          go_simp
          with_reducible rfl
        rotate_left
        · simp only [Act.put, List.setIfInBounds_toArray, List.set_cons_zero, List.set_cons_succ, i64_w, i32_w]
          rfl
        refine pure_ (i := 7) (N := some 24) (v := ?_) (a' := ?_) #[true, true, true, true, true, true, true, true, true, false, false] rfl rfl (by kernel_rfl) (fun _ _ _ h => h) (Or.inl ⟨by rfl, ?_⟩) ?_ ?_
        rotate_left
        · intro w'
          go_simp
          with_reducible rfl
        rotate_left
        · simp only [Act.put, List.setIfInBounds_toArray, List.set_cons_zero, List.set_cons_succ, i64_w, i32_w]
          rfl
        have hj := hJ _ _ ⟨P.out, V.out, R.out, NB.out, GE.out, ⟨NE0, NE1, NE2⟩, HB.out⟩
        simp only [putAll, Act.put, List.setIfInBounds_toArray, List.set_cons_zero, List.set_cons_succ, i64_w, i32_w] at hj
        exact hj
    · skip
      refine alloc_ (N := some 7) ?hw ?hN (U (List.replicate 6 0)) 46 ?hr ?_
      case hw => rfl
      case hN => rfl
      case hr => first | (go_simp; done) | (go_simp; rfl)
      intro ga_ hg W_ NB_ hb
      have GE := Lib.hid ((by rw [hg]; exact below_size HB.out) : w.heap.size ≤ ga_)
      have NB := Lib.hid NB_
      have NE0 : gP ≠ ga_ := (by rw [hg]; exact Nat.ne_of_lt (Blk.lt P.out))
      have NE1 : gV ≠ ga_ := (by rw [hg]; exact Nat.ne_of_lt (Blk.lt V.out))
      have NE2 : gR ≠ ga_ := (by rw [hg]; exact Nat.ne_of_lt (Blk.lt R.out))
      have P_n := Lib.hid (Blk.below P.out hb)
      have V_n := Lib.hid (Blk.below V.out hb)
      have R_n := Lib.hid (Blk.below R.out hb)
      have HB_n := Lib.hid (below_step HB.out hb)
      clear P
      have P := P_n
      clear P_n
      clear V
      have V := V_n
      clear V_n
      clear R
      have R := R_n
      clear R_n
      clear HB
      have HB := HB_n
      clear HB_n
      clear hb hg NB_
      refine hK.out _ _ ⟨P.out, V.out⟩ (fun hHeld => ?_)
      clear hK K
      refine norm_ (a' := ?_) ?_ ?_
      rotate_left
      · show Act.put _ (some 7) _ = _
        simp only [Act.put, List.setIfInBounds_toArray, List.set_cons_zero, List.set_cons_succ, i64_w, i32_w]
        rfl
      refine one_ (i := 1) (N := some 19) #[true, true, true, false, false, false, false, false, true, false, false] rfl rfl (by kernel_rfl) (by decide) (fun K hK => ?_)
      refine goes_ Try.func17 (by kernel_rfl) rfl #[.agg (A).toArray] (by rfl) rfl rfl (by (try simp only [List.map_toArray, List.map_cons, List.map_nil]); first | done | rfl) ?_
      with_reducible refine (HT.out _).mono ?_
      rintro e W_ ⟨rfl, hb⟩
      refine ⟨_, rfl, ?_⟩
      have P_n := Lib.hid (Blk.below P.out hb)
      have V_n := Lib.hid (Blk.below V.out hb)
      have R_n := Lib.hid (Blk.below R.out hb)
      have NB_n := Lib.hid (Blk.below NB.out hb)
      have HB_n := Lib.hid (below_step HB.out hb)
      clear P
      have P := P_n
      clear P_n
      clear V
      have V := V_n
      clear V_n
      clear R
      have R := R_n
      clear R_n
      clear NB
      have NB := NB_n
      clear NB_n
      clear HB
      have HB := HB_n
      clear HB_n
      clear hb
      refine hK.out _ _ ⟨P.out, V.out⟩ (fun hHeld => ?_)
      clear hK K
      refine norm_ (a' := ?_) ?_ ?_
      rotate_left
      · show Act.put _ (some 19) _ = _
        simp only [Act.put, List.setIfInBounds_toArray, List.set_cons_zero, List.set_cons_succ, i64_w, i32_w]
        rfl
      refine one_ (i := 3) (N := some 21) #[true, true, true, true, false, false, false, false, true, false, false] rfl rfl (by kernel_rfl) (by decide) (fun K hK => ?_)
      refine goes_ Try.func20 (by kernel_rfl) rfl #[.agg (B).toArray] (by rfl) rfl rfl (by (try simp only [List.map_toArray, List.map_cons, List.map_nil]); first | done | rfl) ?_
      with_reducible refine (HV.out _).mono ?_
      rintro e W_ ⟨rfl, hb⟩
      refine ⟨_, rfl, ?_⟩
      have P_n := Lib.hid (Blk.below P.out hb)
      have V_n := Lib.hid (Blk.below V.out hb)
      have R_n := Lib.hid (Blk.below R.out hb)
      have NB_n := Lib.hid (Blk.below NB.out hb)
      have HB_n := Lib.hid (below_step HB.out hb)
      clear P
      have P := P_n
      clear P_n
      clear V
      have V := V_n
      clear V_n
      clear R
      have R := R_n
      clear R_n
      clear NB
      have NB := NB_n
      clear NB_n
      clear HB
      have HB := HB_n
      clear HB_n
      clear hb
      refine hK.out _ _ ⟨P.out, V.out⟩ (fun hHeld => ?_)
      clear hK K
      refine norm_ (a' := ?_) ?_ ?_
      rotate_left
      · show Act.put _ (some 21) _ = _
        simp only [Act.put, List.setIfInBounds_toArray, List.set_cons_zero, List.set_cons_succ, i64_w, i32_w]
        rfl
      refine one_ (i := 4) (N := some 22) #[true, true, true, true, true, false, false, false, true, false, false] rfl rfl (by kernel_rfl) (by decide) (fun K hK => ?_)
      refine goes_ Try.func23 (by kernel_rfl) rfl #[.agg (A).toArray, .agg (B).toArray] (by rfl) rfl rfl (by (try simp only [List.map_toArray, List.map_cons, List.map_nil]); first | done | rfl) ?_
      with_reducible refine (HI.out _).mono ?_
      rintro e W_ ⟨rfl, hb⟩
      refine ⟨_, rfl, ?_⟩
      have P_n := Lib.hid (Blk.below P.out hb)
      have V_n := Lib.hid (Blk.below V.out hb)
      have R_n := Lib.hid (Blk.below R.out hb)
      have NB_n := Lib.hid (Blk.below NB.out hb)
      have HB_n := Lib.hid (below_step HB.out hb)
      clear P
      have P := P_n
      clear P_n
      clear V
      have V := V_n
      clear V_n
      clear R
      have R := R_n
      clear R_n
      clear NB
      have NB := NB_n
      clear NB_n
      clear HB
      have HB := HB_n
      clear HB_n
      clear hb
      refine hK.out _ _ ⟨P.out, V.out⟩ (fun hHeld => ?_)
      clear hK K
      refine norm_ (a' := ?_) ?_ ?_
      rotate_left
      · show Act.put _ (some 22) _ = _
        simp only [Act.put, List.setIfInBounds_toArray, List.set_cons_zero, List.set_cons_succ, i64_w, i32_w]
        rfl
      refine pure_ (i := 5) (N := some 17) (v := ?_) (a' := ?_) #[true, true, true, true, true, true, false, false, true, false, false] rfl rfl (by kernel_rfl) (fun _ _ _ h => h) (Or.inl ⟨by rfl, ?_⟩) ?_ ?_
      rotate_left
      · intro w'
        go_simp
        with_reducible rfl
      rotate_left
      · simp only [Act.put, List.setIfInBounds_toArray, List.set_cons_zero, List.set_cons_succ, i64_w, i32_w]
        rfl
      refine pure_ (i := 6) (N := some 23) (v := ?_) (a' := ?_) #[true, true, true, true, true, true, true, false, true, false, false] rfl rfl (by kernel_rfl) (fun _ _ _ h => h) (Or.inl ⟨by rfl, ?_⟩) ?_ ?_
      rotate_left
      · intro w'
        go_simp
        with_reducible rfl
      rotate_left
      · simp only [Act.put, List.setIfInBounds_toArray, List.set_cons_zero, List.set_cons_succ, i64_w, i32_w]
        rfl
      refine pure_ (i := 7) (N := some 24) (v := ?_) (a' := ?_) #[true, true, true, true, true, true, true, true, true, false, false] rfl rfl (by kernel_rfl) (fun _ _ _ h => h) (Or.inl ⟨by rfl, ?_⟩) ?_ ?_
      rotate_left
      · intro w'
        go_simp
        with_reducible rfl
      rotate_left
      · simp only [Act.put, List.setIfInBounds_toArray, List.set_cons_zero, List.set_cons_succ, i64_w, i32_w]
        rfl
      have hj := hJ _ _ ⟨P.out, V.out, R.out, NB.out, GE.out, ⟨NE0, NE1, NE2⟩, HB.out⟩
      simp only [putAll, Act.put, List.setIfInBounds_toArray, List.set_cons_zero, List.set_cons_succ, i64_w, i32_w] at hj
      exact hj
  intro gT WT_ ⟨P_, V_, R_, T_, GT, ⟨NETP, NETV, NETR⟩, HB_⟩
  clear P V R HB hHeld
  have P := Lib.hid P_
  have V := Lib.hid V_
  have R := Lib.hid R_
  have T := Lib.hid T_
  have HB := Lib.hid HB_
  clear P_ V_ R_ T_ HB_
  refine norm_ (a' := ?_) ?_ ?_
  rotate_left
  · simp only [putAll, Act.put, List.setIfInBounds_toArray, List.set_cons_zero, List.set_cons_succ, i64_w, i32_w]
    rfl
  refine last_ (i := 9) (N := none) #[true, true, true, true, true, true, true, true, true, true, false] rfl rfl (by kernel_rfl) (by decide) (fun K hK => ?_)
  refine ststore_ ?hw 46 7 (.tmp 23) ?ho ?hN gT ?hx (D) ?hy 46 (U (List.replicate 6 0)) T.out ID.out (LD.out.trans (by rfl)) OD.out ?_
  case hw => rfl
  case ho => rfl
  case hN => rfl
  case hx => rfl
  case hy => rfl
  intro XT hbk hfar hbel
  have P_n := Lib.hid (Blk.other P.out hfar NETP)
  have V_n := Lib.hid (Blk.other V.out hfar NETV)
  have R_n := Lib.hid (Blk.other R.out hfar NETR)
  have HB_n := Lib.hid (hbel _ _ HB.out GT)
  have T_n := Lib.hid (hbk)
  clear P
  have P := P_n
  clear P_n
  clear V
  have V := V_n
  clear V_n
  clear R
  have R := R_n
  clear R_n
  clear HB
  have HB := HB_n
  clear HB_n
  clear T
  have T := T_n
  clear T_n
  clear hbk hfar hbel
  refine hK.out _ _ ?_
  clear hK K
  refine pure_ (i := 10) (N := some 8) (v := ?_) (a' := ?_) #[true, true, true, true, true, true, true, true, true, true, true] rfl rfl (by kernel_rfl) (fun _ _ _ h => h) (Or.inl ⟨by rfl, ?_⟩) ?_ ?_
  rotate_left
  · intro w'
    go_simp
    with_reducible rfl
  rotate_left
  · simp only [Act.put, List.setIfInBounds_toArray, List.set_cons_zero, List.set_cons_succ, i64_w, i32_w]
    rfl
  refine done_ (by kernel_rfl) ?_
  go_wp2_with (first
    | ((with_reducible refine wpList_ldall rfl 46 (.tmp 7) rfl gT ?hx 46 (D) _ ?hB Try.underlying46 rfl ?hi ?_); (case hx => rfl); (case hB => exact (by (with_reducible repeat (first | apply Blk.alloc | apply Blk.drewN | apply Blk.drew)); exact T.out)); (case hi => exact ID.out))
    | ((with_reducible refine wpList_ldall rfl 46 (.tmp 5) rfl gR ?hx 46 (D) _ ?hB Try.underlying46 rfl ?hi ?_); (case hx => rfl); (case hB => exact (by (with_reducible repeat (first | apply Blk.alloc | apply Blk.drewN | apply Blk.drew)); exact R.out)); (case hi => exact ID.out))
    | (go_at_call 24; (with_reducible refine (HE.out _).mono ?_); rintro e W_ ⟨rfl, hb⟩; have HB_n := Lib.hid (below_step (w := w) (by repeat (first | (with_reducible first | exact HB.out | apply below_alloc | apply pw_below_drewN | apply below_drew) | exact HB.out)) hb); clear HB; have HB := HB_n; clear HB_n; clear hb))
  go_ret
  exact ⟨rfl, (by repeat (first | (with_reducible first | exact HB.out | apply below_alloc | apply pw_below_drewN | apply below_drew) | exact HB.out))⟩

end Go.Proofs.Ythjbeglmdifhdaa.Given

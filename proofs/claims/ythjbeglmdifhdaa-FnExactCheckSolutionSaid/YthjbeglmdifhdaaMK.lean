/- Walks of functions that the print does not take. -/
import Derived.ChangeKeysEq
import Derived.Test.YthjbeglmdifhdaaProg
import Derived.Below
import Derived.Deep.Draws
import Derived.Deep.AppendLies
import Derived.Maps.AppendAt
import Derived.OwnWalk
import Derived.Laws.BytesArg
import Derived.Laws.MakeOwn
import Derived.Laws.OwnMore
import Derived.Deep.OwnRows
import Derived.Tactics
import Derived.Lib.ConvBytes
import Derived.Laws.Slices
import Derived.WalkKit
import Derived.KernelRfl
import Derived.RowKit3
import Derived.Deep.LoopGhost
import Derived.Deep.QuietTactic
import Derived.BigQuiet
import Derived.WideLaws
import Derived.Deep.DeepCutAuto
import Derived.Deep.CutBlock
import Derived.Deep.RegionHeld3
import Derived.Laws.Rows
import Derived.Lib.AppendStr
import Derived.ArgAppend
import Derived.Laws.IdiomCopy
import Derived.OrdersHeld
import Derived.Laws.BitsLemmas
import Derived.RowKit
import Derived.Lib.Hide
import Derived.WalkSpells
import Derived.Test.YthjbeglmdifhdaaWWords
import Derived.Test.YthjbeglmdifhdaaWLast
import Derived.Test.YthjbeglmdifhdaaWTab
import Derived.Test.YthjbeglmdifhdaaWFour
import Derived.Test.YthjbeglmdifhdaaWQPut
import Derived.Test.YthjbeglmdifhdaaWApart
import Derived.Test.YthjbeglmdifhdaaWArr
import Derived.Test.YthjbeglmdifhdaaWZeros
import Derived.Test.YthjbeglmdifhdaaWFoot
import Derived.Test.YthjbeglmdifhdaaWKept
import Derived.Test.YthjbeglmdifhdaaWShare
import Derived.Test.YthjbeglmdifhdaaWN
import Derived.Test.YthjbeglmdifhdaaWFootNe
import Derived.Test.YthjbeglmdifhdaaWAt
import Derived.Test.YthjbeglmdifhdaaWEqStruct
import Derived.Test.YthjbeglmdifhdaaWRepsOne
import Derived.Test.YthjbeglmdifhdaaWInv
import Derived.Test.YthjbeglmdifhdaaWInvWords
import Derived.Test.YthjbeglmdifhdaaWGuard
import Derived.Test.YthjbeglmdifhdaaWNEv
import Derived.Test.YthjbeglmdifhdaaWMore
import Derived.Test.YthjbeglmdifhdaaN1
import Derived.Test.YthjbeglmdifhdaaMJ
import Derived.Test.YthjbeglmdifhdaaWGuard
import Derived.Test.YthjbeglmdifhdaaWEqStruct
namespace Go.Proofs.Ythjbeglmdifhdaa.Given
open Go.RowKit Go.Proofs.YthjbeglmdifhdaaW.PrintWords Go.Proofs.YthjbeglmdifhdaaW.PrintLast Go.Proofs.YthjbeglmdifhdaaW.PrintMore Go.Proofs.Ythjbeglmdifhdaa.NimF Go.Proofs.Ythjbeglmdifhdaa.NimGo
set_option linter.unusedVariables false
set_option linter.unusedSimpArgs false
theorem eqi_ (d : Nat) (xs ys : Array Value) (w : World) (i : Nat) (is : List Nat) (x y : Int) (s : Bool) (hx : xs[i]? = some (.int .u16 x)) (hy : ys[i]? = some (.int .u16 y)) (hr : (Op.eqItems (d + 1) 25 1 xs ys is).run Try.prog w = .ok s w) : (Op.eqItems (d + 1) 25 1 xs ys (i :: is)).run Try.prog w = .ok (x == y && s) w := by
  have p1 := run_part_plain (P := Try.prog) w (e := 25) (by kernel_rfl) hx
  have p2 := run_part_plain (P := Try.prog) w (e := 25) (by kernel_rfl) hy
  have p3 := run_equalIn_int (P := Try.prog) w d 25 .u16 .u16 x y Try.underlying25
  rw [← Nat.mul_one i] at p1 p2
  simp only [Op.eqItems, Sem.run_bind, p1, p2, p3, Result.andThen_ok]
  cases (x == y)
  · simp
  · simpa using hr
theorem eqv_ (x0 x1 x2 x3 x4 x5 y0 y1 y2 y3 y4 y5 : Int) (w : World) :
   (Op.equalIn 10000 46 (.agg #[.int .u16 x0, .int .u16 x1, .int .u16 x2, .int .u16 x3, .int .u16 x4, .int .u16 x5]) (.agg #[.int .u16 y0, .int .u16 y1, .int .u16 y2, .int .u16 y3, .int .u16 y4, .int .u16 y5])).run Try.prog w = .ok (x0 == y0 && (x1 == y1 && (x2 == y2 && (x3 == y3 && (x4 == y4 && (x5 == y5 && true)))))) w := by
  obtain ⟨i, hi⟩ := Option.isSome_iff_exists.1 (show (Try.prog.info? 25).isSome = true by kernel_rfl)
  have hc : Try.prog.cellsOf 25 = 1 := by kernel_rfl
  rw [show (10000 : Nat) = 9999 + 1 from rfl, run_equalIn_array w 9999 _ _ Try.underlying46 hi, hc]
  show (Op.eqItems (9998 + 1) 25 1 _ _ [0, 1, 2, 3, 4, 5]).run Try.prog w = _
  exact eqi_ _ _ _ _ _ _ _ _ _ rfl rfl (eqi_ _ _ _ _ _ _ _ _ _ rfl rfl (eqi_ _ _ _ _ _ _ _ _ _ rfl rfl (eqi_ _ _ _ _ _ _ _ _ _ rfl rfl (eqi_ _ _ _ _ _ _ _ _ _ rfl rfl (eqi_ _ _ _ _ _ _ _ _ _ rfl rfl rfl)))))
/-- two vectors are alike -/
def eq6 (X Y : List Int) : Bool := X.getD 0 0 == Y.getD 0 0 && (X.getD 1 0 == Y.getD 1 0 && (X.getD 2 0 == Y.getD 2 0 && (X.getD 3 0 == Y.getD 3 0 && (X.getD 4 0 == Y.getD 4 0 && (X.getD 5 0 == Y.getD 5 0 && true)))))
set_option maxHeartbeats 4000000 in
set_option maxRecDepth 100000 in
theorem eql46 (X Y : List Int) (hX : X.length = 6) (hY : Y.length = 6) (a : Act) (w : World) (o : Oper) (i j : Tmp) (ho : o.op = .binOp .eql 46 (.tmp i) (.tmp j) 46) (hx : a.eval (.tmp i) = .agg (U X).toArray) (hy : a.eval (.tmp j) = .agg (U Y).toArray) :
   (execOp a.eval o).run Try.prog w = .ok (.value (.bool (eq6 X Y))) w := by
  match X, hX, Y, hY with
  | [x0, x1, x2, x3, x4, x5], _, [y0, y1, y2, y3, y4, y5], _ =>
  unfold execOp
  simp only [ho]
  rw [hx, hy]
  show _ = Result.ok (Next.value (.bool (x0 == y0 && (x1 == y1 && (x2 == y2 && (x3 == y3 && (x4 == y4 && (x5 == y5 && true)))))))) w
  simp only [U, List.map_cons, List.map_nil]
  go_simp
  rw [eqv_]
  simp only [Bool.and_true, Result.andThen_ok]
def csR (r c : Int) (l v y : List Int) : Value := if okM r c l = true ∧ okVL c.toNat v 6 = true ∧ okVL r.toNat y 6 = true then .tuple #[.bool (eq6 (mv l v c.toNat r.toNat) y), .int .i64 0] else .tuple #[.bool false, .int .i64 1]
theorem csRes (r c : Int) (l v y : List Int) : ∃ (b : Bool) (e : Int), csR r c l v y = .tuple #[.bool b, .int .i64 e] := by
  unfold csR
  split
  · exact ⟨_, _, rfl⟩
  · exact ⟨_, _, rfl⟩

set_option maxHeartbeats 16000000 in
set_option maxRecDepth 100000 in
theorem specCheck_calls (r c : Int) (l v y : List Int) (hl : l.length = 36) (hv : v.length = 6) (hy : y.length = 6) (h1 : -128 ≤ r) (h2 : r ≤ 127) (h3 : -128 ≤ c) (h4 : c ≤ 127) (hw : W16 l) (hx : W16 v) (w : World) :
    Calls Try.prog 19 #[.agg (M r c l).toArray, .agg (U v).toArray, .agg (U y).toArray] w fun e w' => e = .returned (csR r c l v y) ∧ Below w.heap.size w w' := by
  have HL := Lib.hid hl
  have HV := Lib.hid hv
  have HY := Lib.hid hy
  have HW := Lib.hid hw
  have HX := Lib.hid hx
  have HOK := Lib.hid (fun g W (hB : Blk W g 29 (M r c l)) => l02Ok_calls r c l hl h1 h2 h3 h4 g W hB _ rfl)
  clear h1 h2 h3 h4 hw hx
  have HB := Lib.hid (Below.refl w.heap.size w)
  unfold csR
  obtain ⟨v1, hv1⟩ : ∃ v, okM r c l = v := ⟨_, rfl⟩
  rw [hv1] at HOK ⊢
  have tA : True := trivial
  have tB : True := trivial
  cases v1 with
  | false =>
    clear hv1 hl hv hy
    rw [if_neg (by simp)]
    go_enter Try.func19, Try.ntmps19
    go_wp2_with (first
    | ((with_reducible refine gate_dst (N := 3) rfl ?_); refine box_event ?hg (N := 3) ?hd (cs := (M r c l).toArray) (t := 29) ?hr ?_; (case hd => rfl); (case hg => rfl); (case hr => first | (go_simp; done) | (go_simp; rfl)); intro ga hg Wa hbox hb; have GWa := Lib.hid ((by rw [hg]; exact below_size (w := w) (by repeat (first | (with_reducible first | exact HB.out | apply below_alloc | apply pw_below_drewN | apply below_drew) | exact HB.out))) : w.heap.size ≤ ga); have HB_n := Lib.hid (below_step (w := w) (by repeat (first | (with_reducible first | exact HB.out | apply below_alloc | apply pw_below_drewN | apply below_drew) | exact HB.out)) hb); clear HB; have HB := HB_n; clear HB_n; have BKa := Lib.hid (show Blk Wa ga 29 (M r c l) from hbox); clear hbox hg hb)
    | ((with_reducible refine gate_dst (N := 4) rfl ?_); refine box_event ?hg (N := 4) ?hd (cs := (U v).toArray) (t := 46) ?hr ?_; (case hd => rfl); (case hg => rfl); (case hr => first | (go_simp; done) | (go_simp; rfl)); intro gv hg Wv hbox hb; have GWv := Lib.hid ((by rw [hg]; exact below_size (w := w) (by repeat (first | (with_reducible first | exact HB.out | apply below_alloc | apply pw_below_drewN | apply below_drew) | exact HB.out))) : w.heap.size ≤ gv); have NEav : ga ≠ gv := (by rw [hg]; exact Nat.ne_of_lt (Blk.lt (by (with_reducible repeat (first | apply Blk.alloc | apply Blk.drewN | apply Blk.drew)); exact BKa.out))); have NEva : gv ≠ ga := NEav.symm; have BKa_n := Lib.hid (Blk.below (by (with_reducible repeat (first | apply Blk.alloc | apply Blk.drewN | apply Blk.drew)); exact BKa.out) hb); have HB_n := Lib.hid (below_step (w := w) (by repeat (first | (with_reducible first | exact HB.out | apply below_alloc | apply pw_below_drewN | apply below_drew) | exact HB.out)) hb); clear BKa; have BKa := BKa_n; clear BKa_n; clear HB; have HB := HB_n; clear HB_n; have BKv := Lib.hid (show Blk Wv gv 46 (U v) from hbox); clear hbox hg hb)
    | ((with_reducible refine gate_dst (N := 5) rfl ?_); refine box_event ?hg (N := 5) ?hd (cs := (U y).toArray) (t := 46) ?hr ?_; (case hd => rfl); (case hg => rfl); (case hr => first | (go_simp; done) | (go_simp; rfl)); intro gy hg Wy hbox hb; have GWy := Lib.hid ((by rw [hg]; exact below_size (w := w) (by repeat (first | (with_reducible first | exact HB.out | apply below_alloc | apply pw_below_drewN | apply below_drew) | exact HB.out))) : w.heap.size ≤ gy); have NEay : ga ≠ gy := (by rw [hg]; exact Nat.ne_of_lt (Blk.lt (by (with_reducible repeat (first | apply Blk.alloc | apply Blk.drewN | apply Blk.drew)); exact BKa.out))); have NEya : gy ≠ ga := NEay.symm; have NEvy : gv ≠ gy := (by rw [hg]; exact Nat.ne_of_lt (Blk.lt (by (with_reducible repeat (first | apply Blk.alloc | apply Blk.drewN | apply Blk.drew)); exact BKv.out))); have NEyv : gy ≠ gv := NEvy.symm; have BKa_n := Lib.hid (Blk.below (by (with_reducible repeat (first | apply Blk.alloc | apply Blk.drewN | apply Blk.drew)); exact BKa.out) hb); have BKv_n := Lib.hid (Blk.below (by (with_reducible repeat (first | apply Blk.alloc | apply Blk.drewN | apply Blk.drew)); exact BKv.out) hb); have HB_n := Lib.hid (below_step (w := w) (by repeat (first | (with_reducible first | exact HB.out | apply below_alloc | apply pw_below_drewN | apply below_drew) | exact HB.out)) hb); clear BKa; have BKa := BKa_n; clear BKa_n; clear BKv; have BKv := BKv_n; clear BKv_n; clear HB; have HB := HB_n; clear HB_n; have BKy := Lib.hid (show Blk Wy gy 46 (U y) from hbox); clear hbox hg hb)
    | (go_at_call 43; (with_reducible refine (HOK.out _ _ ?hB).mono ?_); (case hB => exact (by (with_reducible repeat (first | apply Blk.alloc | apply Blk.drewN | apply Blk.drew)); exact BKa.out)); rintro e W_ ⟨rfl, hb⟩; have BKa_n := Lib.hid (Blk.below (by (with_reducible repeat (first | apply Blk.alloc | apply Blk.drewN | apply Blk.drew)); exact BKa.out) hb); have BKv_n := Lib.hid (Blk.below (by (with_reducible repeat (first | apply Blk.alloc | apply Blk.drewN | apply Blk.drew)); exact BKv.out) hb); have BKy_n := Lib.hid (Blk.below (by (with_reducible repeat (first | apply Blk.alloc | apply Blk.drewN | apply Blk.drew)); exact BKy.out) hb); have HB_n := Lib.hid (below_step (w := w) (by repeat (first | (with_reducible first | exact HB.out | apply below_alloc | apply pw_below_drewN | apply below_drew) | exact HB.out)) hb); clear BKa; have BKa := BKa_n; clear BKa_n; clear BKv; have BKv := BKv_n; clear BKv_n; clear BKy; have BKy := BKy_n; clear BKy_n; clear HB; have HB := HB_n; clear HB_n; clear hb))
    go_ret2
    exact ⟨rfl, HB.out⟩
  | true =>
    obtain ⟨a1, a2, a3, a4⟩ := okM_size hv1
    clear hv1
    obtain ⟨R, rfl⟩ := Int.eq_ofNat_of_zero_le a1
    obtain ⟨C, rfl⟩ := Int.eq_ofNat_of_zero_le a3
    rw [Int.toNat_natCast, Int.toNat_natCast]
    have hR : R ≤ 6 := by omega
    have hC : C ≤ 6 := by omega
    have HFV := Lib.hid (fun g W (hB : Blk W g 46 (U v)) => l02Vec_calls C hC v hv g W hB _ rfl)
    have HFY := Lib.hid (fun g W (hB : Blk W g 46 (U y)) => l02Vec_calls R hR y hy g W hB _ rfl)
    have HAP := Lib.hid (fun g g2 W (hA : Blk W g 29 (M R C l)) (hB : Blk W g2 46 (U v)) => l02Apply_calls R C l v hl hv hR hC HW.out HX.out g g2 W hA hB)
    obtain ⟨v2, hv2⟩ : ∃ b, okVL C v 6 = b := ⟨_, rfl⟩
    rw [hv2] at HFV ⊢
    obtain ⟨v3, hv3⟩ : ∃ b, okVL R y 6 = b := ⟨_, rfl⟩
    rw [hv3] at HFY ⊢
    clear hv2 hv3 hR hC hl hv hy
    cases v2 with
    | false =>
      rw [if_neg (by simp)]
      go_enter Try.func19, Try.ntmps19
      go_wp2_with (first
    | ((with_reducible refine gate_dst (N := 3) rfl ?_); refine box_event ?hg (N := 3) ?hd (cs := (M R C l).toArray) (t := 29) ?hr ?_; (case hd => rfl); (case hg => rfl); (case hr => first | (go_simp; done) | (go_simp; rfl)); intro ga hg Wa hbox hb; have GWa := Lib.hid ((by rw [hg]; exact below_size (w := w) (by repeat (first | (with_reducible first | exact HB.out | apply below_alloc | apply pw_below_drewN | apply below_drew) | exact HB.out))) : w.heap.size ≤ ga); have HB_n := Lib.hid (below_step (w := w) (by repeat (first | (with_reducible first | exact HB.out | apply below_alloc | apply pw_below_drewN | apply below_drew) | exact HB.out)) hb); clear HB; have HB := HB_n; clear HB_n; have BKa := Lib.hid (show Blk Wa ga 29 (M R C l) from hbox); clear hbox hg hb)
    | ((with_reducible refine gate_dst (N := 4) rfl ?_); refine box_event ?hg (N := 4) ?hd (cs := (U v).toArray) (t := 46) ?hr ?_; (case hd => rfl); (case hg => rfl); (case hr => first | (go_simp; done) | (go_simp; rfl)); intro gv hg Wv hbox hb; have GWv := Lib.hid ((by rw [hg]; exact below_size (w := w) (by repeat (first | (with_reducible first | exact HB.out | apply below_alloc | apply pw_below_drewN | apply below_drew) | exact HB.out))) : w.heap.size ≤ gv); have NEav : ga ≠ gv := (by rw [hg]; exact Nat.ne_of_lt (Blk.lt (by (with_reducible repeat (first | apply Blk.alloc | apply Blk.drewN | apply Blk.drew)); exact BKa.out))); have NEva : gv ≠ ga := NEav.symm; have BKa_n := Lib.hid (Blk.below (by (with_reducible repeat (first | apply Blk.alloc | apply Blk.drewN | apply Blk.drew)); exact BKa.out) hb); have HB_n := Lib.hid (below_step (w := w) (by repeat (first | (with_reducible first | exact HB.out | apply below_alloc | apply pw_below_drewN | apply below_drew) | exact HB.out)) hb); clear BKa; have BKa := BKa_n; clear BKa_n; clear HB; have HB := HB_n; clear HB_n; have BKv := Lib.hid (show Blk Wv gv 46 (U v) from hbox); clear hbox hg hb)
    | ((with_reducible refine gate_dst (N := 5) rfl ?_); refine box_event ?hg (N := 5) ?hd (cs := (U y).toArray) (t := 46) ?hr ?_; (case hd => rfl); (case hg => rfl); (case hr => first | (go_simp; done) | (go_simp; rfl)); intro gy hg Wy hbox hb; have GWy := Lib.hid ((by rw [hg]; exact below_size (w := w) (by repeat (first | (with_reducible first | exact HB.out | apply below_alloc | apply pw_below_drewN | apply below_drew) | exact HB.out))) : w.heap.size ≤ gy); have NEay : ga ≠ gy := (by rw [hg]; exact Nat.ne_of_lt (Blk.lt (by (with_reducible repeat (first | apply Blk.alloc | apply Blk.drewN | apply Blk.drew)); exact BKa.out))); have NEya : gy ≠ ga := NEay.symm; have NEvy : gv ≠ gy := (by rw [hg]; exact Nat.ne_of_lt (Blk.lt (by (with_reducible repeat (first | apply Blk.alloc | apply Blk.drewN | apply Blk.drew)); exact BKv.out))); have NEyv : gy ≠ gv := NEvy.symm; have BKa_n := Lib.hid (Blk.below (by (with_reducible repeat (first | apply Blk.alloc | apply Blk.drewN | apply Blk.drew)); exact BKa.out) hb); have BKv_n := Lib.hid (Blk.below (by (with_reducible repeat (first | apply Blk.alloc | apply Blk.drewN | apply Blk.drew)); exact BKv.out) hb); have HB_n := Lib.hid (below_step (w := w) (by repeat (first | (with_reducible first | exact HB.out | apply below_alloc | apply pw_below_drewN | apply below_drew) | exact HB.out)) hb); clear BKa; have BKa := BKa_n; clear BKa_n; clear BKv; have BKv := BKv_n; clear BKv_n; clear HB; have HB := HB_n; clear HB_n; have BKy := Lib.hid (show Blk Wy gy 46 (U y) from hbox); clear hbox hg hb)
    | (go_at_call 43; (with_reducible refine (HOK.out _ _ ?hB).mono ?_); (case hB => exact (by (with_reducible repeat (first | apply Blk.alloc | apply Blk.drewN | apply Blk.drew)); exact BKa.out)); rintro e W_ ⟨rfl, hb⟩; have BKa_n := Lib.hid (Blk.below (by (with_reducible repeat (first | apply Blk.alloc | apply Blk.drewN | apply Blk.drew)); exact BKa.out) hb); have BKv_n := Lib.hid (Blk.below (by (with_reducible repeat (first | apply Blk.alloc | apply Blk.drewN | apply Blk.drew)); exact BKv.out) hb); have BKy_n := Lib.hid (Blk.below (by (with_reducible repeat (first | apply Blk.alloc | apply Blk.drewN | apply Blk.drew)); exact BKy.out) hb); have HB_n := Lib.hid (below_step (w := w) (by repeat (first | (with_reducible first | exact HB.out | apply below_alloc | apply pw_below_drewN | apply below_drew) | exact HB.out)) hb); clear BKa; have BKa := BKa_n; clear BKa_n; clear BKv; have BKv := BKv_n; clear BKv_n; clear BKy; have BKy := BKy_n; clear BKy_n; clear HB; have HB := HB_n; clear HB_n; clear hb; have hr1 : W_.cell? ⟨ga, 1, none⟩ = some (.int .i8 (C : Int)) := BKa.out.cell 1)
    | (go_at_call 47; have _t := tA; (with_reducible refine (HFV.out _ _ ?hB).mono ?_); (case hB => exact (by (with_reducible repeat (first | apply Blk.alloc | apply Blk.drewN | apply Blk.drew)); exact BKv.out)); rintro e W_ ⟨rfl, hb⟩; have BKa_n := Lib.hid (Blk.below (by (with_reducible repeat (first | apply Blk.alloc | apply Blk.drewN | apply Blk.drew)); exact BKa.out) hb); have BKv_n := Lib.hid (Blk.below (by (with_reducible repeat (first | apply Blk.alloc | apply Blk.drewN | apply Blk.drew)); exact BKv.out) hb); have BKy_n := Lib.hid (Blk.below (by (with_reducible repeat (first | apply Blk.alloc | apply Blk.drewN | apply Blk.drew)); exact BKy.out) hb); have HB_n := Lib.hid (below_step (w := w) (by repeat (first | (with_reducible first | exact HB.out | apply below_alloc | apply pw_below_drewN | apply below_drew) | exact HB.out)) hb); clear BKa; have BKa := BKa_n; clear BKa_n; clear BKv; have BKv := BKv_n; clear BKv_n; clear BKy; have BKy := BKy_n; clear BKy_n; clear HB; have HB := HB_n; clear HB_n; clear hb; clear _t tA))
      go_ret2
      exact ⟨rfl, HB.out⟩
    | true =>
    cases v3 with
    | false =>
      rw [if_neg (by simp)]
      go_enter Try.func19, Try.ntmps19
      go_wp2_with (first
    | ((with_reducible refine gate_dst (N := 3) rfl ?_); refine box_event ?hg (N := 3) ?hd (cs := (M R C l).toArray) (t := 29) ?hr ?_; (case hd => rfl); (case hg => rfl); (case hr => first | (go_simp; done) | (go_simp; rfl)); intro ga hg Wa hbox hb; have GWa := Lib.hid ((by rw [hg]; exact below_size (w := w) (by repeat (first | (with_reducible first | exact HB.out | apply below_alloc | apply pw_below_drewN | apply below_drew) | exact HB.out))) : w.heap.size ≤ ga); have HB_n := Lib.hid (below_step (w := w) (by repeat (first | (with_reducible first | exact HB.out | apply below_alloc | apply pw_below_drewN | apply below_drew) | exact HB.out)) hb); clear HB; have HB := HB_n; clear HB_n; have BKa := Lib.hid (show Blk Wa ga 29 (M R C l) from hbox); clear hbox hg hb)
    | ((with_reducible refine gate_dst (N := 4) rfl ?_); refine box_event ?hg (N := 4) ?hd (cs := (U v).toArray) (t := 46) ?hr ?_; (case hd => rfl); (case hg => rfl); (case hr => first | (go_simp; done) | (go_simp; rfl)); intro gv hg Wv hbox hb; have GWv := Lib.hid ((by rw [hg]; exact below_size (w := w) (by repeat (first | (with_reducible first | exact HB.out | apply below_alloc | apply pw_below_drewN | apply below_drew) | exact HB.out))) : w.heap.size ≤ gv); have NEav : ga ≠ gv := (by rw [hg]; exact Nat.ne_of_lt (Blk.lt (by (with_reducible repeat (first | apply Blk.alloc | apply Blk.drewN | apply Blk.drew)); exact BKa.out))); have NEva : gv ≠ ga := NEav.symm; have BKa_n := Lib.hid (Blk.below (by (with_reducible repeat (first | apply Blk.alloc | apply Blk.drewN | apply Blk.drew)); exact BKa.out) hb); have HB_n := Lib.hid (below_step (w := w) (by repeat (first | (with_reducible first | exact HB.out | apply below_alloc | apply pw_below_drewN | apply below_drew) | exact HB.out)) hb); clear BKa; have BKa := BKa_n; clear BKa_n; clear HB; have HB := HB_n; clear HB_n; have BKv := Lib.hid (show Blk Wv gv 46 (U v) from hbox); clear hbox hg hb)
    | ((with_reducible refine gate_dst (N := 5) rfl ?_); refine box_event ?hg (N := 5) ?hd (cs := (U y).toArray) (t := 46) ?hr ?_; (case hd => rfl); (case hg => rfl); (case hr => first | (go_simp; done) | (go_simp; rfl)); intro gy hg Wy hbox hb; have GWy := Lib.hid ((by rw [hg]; exact below_size (w := w) (by repeat (first | (with_reducible first | exact HB.out | apply below_alloc | apply pw_below_drewN | apply below_drew) | exact HB.out))) : w.heap.size ≤ gy); have NEay : ga ≠ gy := (by rw [hg]; exact Nat.ne_of_lt (Blk.lt (by (with_reducible repeat (first | apply Blk.alloc | apply Blk.drewN | apply Blk.drew)); exact BKa.out))); have NEya : gy ≠ ga := NEay.symm; have NEvy : gv ≠ gy := (by rw [hg]; exact Nat.ne_of_lt (Blk.lt (by (with_reducible repeat (first | apply Blk.alloc | apply Blk.drewN | apply Blk.drew)); exact BKv.out))); have NEyv : gy ≠ gv := NEvy.symm; have BKa_n := Lib.hid (Blk.below (by (with_reducible repeat (first | apply Blk.alloc | apply Blk.drewN | apply Blk.drew)); exact BKa.out) hb); have BKv_n := Lib.hid (Blk.below (by (with_reducible repeat (first | apply Blk.alloc | apply Blk.drewN | apply Blk.drew)); exact BKv.out) hb); have HB_n := Lib.hid (below_step (w := w) (by repeat (first | (with_reducible first | exact HB.out | apply below_alloc | apply pw_below_drewN | apply below_drew) | exact HB.out)) hb); clear BKa; have BKa := BKa_n; clear BKa_n; clear BKv; have BKv := BKv_n; clear BKv_n; clear HB; have HB := HB_n; clear HB_n; have BKy := Lib.hid (show Blk Wy gy 46 (U y) from hbox); clear hbox hg hb)
    | (go_at_call 43; (with_reducible refine (HOK.out _ _ ?hB).mono ?_); (case hB => exact (by (with_reducible repeat (first | apply Blk.alloc | apply Blk.drewN | apply Blk.drew)); exact BKa.out)); rintro e W_ ⟨rfl, hb⟩; have BKa_n := Lib.hid (Blk.below (by (with_reducible repeat (first | apply Blk.alloc | apply Blk.drewN | apply Blk.drew)); exact BKa.out) hb); have BKv_n := Lib.hid (Blk.below (by (with_reducible repeat (first | apply Blk.alloc | apply Blk.drewN | apply Blk.drew)); exact BKv.out) hb); have BKy_n := Lib.hid (Blk.below (by (with_reducible repeat (first | apply Blk.alloc | apply Blk.drewN | apply Blk.drew)); exact BKy.out) hb); have HB_n := Lib.hid (below_step (w := w) (by repeat (first | (with_reducible first | exact HB.out | apply below_alloc | apply pw_below_drewN | apply below_drew) | exact HB.out)) hb); clear BKa; have BKa := BKa_n; clear BKa_n; clear BKv; have BKv := BKv_n; clear BKv_n; clear BKy; have BKy := BKy_n; clear BKy_n; clear HB; have HB := HB_n; clear HB_n; clear hb; have hr1 : W_.cell? ⟨ga, 1, none⟩ = some (.int .i8 (C : Int)) := BKa.out.cell 1)
    | (go_at_call 47; have _t := tA; (with_reducible refine (HFV.out _ _ ?hB).mono ?_); (case hB => exact (by (with_reducible repeat (first | apply Blk.alloc | apply Blk.drewN | apply Blk.drew)); exact BKv.out)); rintro e W_ ⟨rfl, hb⟩; have BKa_n := Lib.hid (Blk.below (by (with_reducible repeat (first | apply Blk.alloc | apply Blk.drewN | apply Blk.drew)); exact BKa.out) hb); have BKv_n := Lib.hid (Blk.below (by (with_reducible repeat (first | apply Blk.alloc | apply Blk.drewN | apply Blk.drew)); exact BKv.out) hb); have BKy_n := Lib.hid (Blk.below (by (with_reducible repeat (first | apply Blk.alloc | apply Blk.drewN | apply Blk.drew)); exact BKy.out) hb); have HB_n := Lib.hid (below_step (w := w) (by repeat (first | (with_reducible first | exact HB.out | apply below_alloc | apply pw_below_drewN | apply below_drew) | exact HB.out)) hb); clear BKa; have BKa := BKa_n; clear BKa_n; clear BKv; have BKv := BKv_n; clear BKv_n; clear BKy; have BKy := BKy_n; clear BKy_n; clear HB; have HB := HB_n; clear HB_n; clear hb; clear _t tA; have hr0 : W_.cell? ⟨ga, 0, none⟩ = some (.int .i8 (R : Int)) := BKa.out.cell 0)
    | (go_at_call 47; have _t := tB; (with_reducible refine (HFY.out _ _ ?hB).mono ?_); (case hB => exact (by (with_reducible repeat (first | apply Blk.alloc | apply Blk.drewN | apply Blk.drew)); exact BKy.out)); rintro e W_ ⟨rfl, hb⟩; have BKa_n := Lib.hid (Blk.below (by (with_reducible repeat (first | apply Blk.alloc | apply Blk.drewN | apply Blk.drew)); exact BKa.out) hb); have BKv_n := Lib.hid (Blk.below (by (with_reducible repeat (first | apply Blk.alloc | apply Blk.drewN | apply Blk.drew)); exact BKv.out) hb); have BKy_n := Lib.hid (Blk.below (by (with_reducible repeat (first | apply Blk.alloc | apply Blk.drewN | apply Blk.drew)); exact BKy.out) hb); have HB_n := Lib.hid (below_step (w := w) (by repeat (first | (with_reducible first | exact HB.out | apply below_alloc | apply pw_below_drewN | apply below_drew) | exact HB.out)) hb); clear BKa; have BKa := BKa_n; clear BKa_n; clear BKv; have BKv := BKv_n; clear BKv_n; clear BKy; have BKy := BKy_n; clear BKy_n; clear HB; have HB := HB_n; clear HB_n; clear hb; clear _t tB))
      go_ret2
      exact ⟨rfl, HB.out⟩
    | true =>
      rw [if_pos ⟨rfl, rfl, rfl⟩]
      go_enter Try.func19, Try.ntmps19
      go_wp2_with (first
    | ((with_reducible refine gate_dst (N := 3) rfl ?_); refine box_event ?hg (N := 3) ?hd (cs := (M R C l).toArray) (t := 29) ?hr ?_; (case hd => rfl); (case hg => rfl); (case hr => first | (go_simp; done) | (go_simp; rfl)); intro ga hg Wa hbox hb; have GWa := Lib.hid ((by rw [hg]; exact below_size (w := w) (by repeat (first | (with_reducible first | exact HB.out | apply below_alloc | apply pw_below_drewN | apply below_drew) | exact HB.out))) : w.heap.size ≤ ga); have HB_n := Lib.hid (below_step (w := w) (by repeat (first | (with_reducible first | exact HB.out | apply below_alloc | apply pw_below_drewN | apply below_drew) | exact HB.out)) hb); clear HB; have HB := HB_n; clear HB_n; have BKa := Lib.hid (show Blk Wa ga 29 (M R C l) from hbox); clear hbox hg hb)
    | ((with_reducible refine gate_dst (N := 4) rfl ?_); refine box_event ?hg (N := 4) ?hd (cs := (U v).toArray) (t := 46) ?hr ?_; (case hd => rfl); (case hg => rfl); (case hr => first | (go_simp; done) | (go_simp; rfl)); intro gv hg Wv hbox hb; have GWv := Lib.hid ((by rw [hg]; exact below_size (w := w) (by repeat (first | (with_reducible first | exact HB.out | apply below_alloc | apply pw_below_drewN | apply below_drew) | exact HB.out))) : w.heap.size ≤ gv); have NEav : ga ≠ gv := (by rw [hg]; exact Nat.ne_of_lt (Blk.lt (by (with_reducible repeat (first | apply Blk.alloc | apply Blk.drewN | apply Blk.drew)); exact BKa.out))); have NEva : gv ≠ ga := NEav.symm; have BKa_n := Lib.hid (Blk.below (by (with_reducible repeat (first | apply Blk.alloc | apply Blk.drewN | apply Blk.drew)); exact BKa.out) hb); have HB_n := Lib.hid (below_step (w := w) (by repeat (first | (with_reducible first | exact HB.out | apply below_alloc | apply pw_below_drewN | apply below_drew) | exact HB.out)) hb); clear BKa; have BKa := BKa_n; clear BKa_n; clear HB; have HB := HB_n; clear HB_n; have BKv := Lib.hid (show Blk Wv gv 46 (U v) from hbox); clear hbox hg hb)
    | ((with_reducible refine gate_dst (N := 5) rfl ?_); refine box_event ?hg (N := 5) ?hd (cs := (U y).toArray) (t := 46) ?hr ?_; (case hd => rfl); (case hg => rfl); (case hr => first | (go_simp; done) | (go_simp; rfl)); intro gy hg Wy hbox hb; have GWy := Lib.hid ((by rw [hg]; exact below_size (w := w) (by repeat (first | (with_reducible first | exact HB.out | apply below_alloc | apply pw_below_drewN | apply below_drew) | exact HB.out))) : w.heap.size ≤ gy); have NEay : ga ≠ gy := (by rw [hg]; exact Nat.ne_of_lt (Blk.lt (by (with_reducible repeat (first | apply Blk.alloc | apply Blk.drewN | apply Blk.drew)); exact BKa.out))); have NEya : gy ≠ ga := NEay.symm; have NEvy : gv ≠ gy := (by rw [hg]; exact Nat.ne_of_lt (Blk.lt (by (with_reducible repeat (first | apply Blk.alloc | apply Blk.drewN | apply Blk.drew)); exact BKv.out))); have NEyv : gy ≠ gv := NEvy.symm; have BKa_n := Lib.hid (Blk.below (by (with_reducible repeat (first | apply Blk.alloc | apply Blk.drewN | apply Blk.drew)); exact BKa.out) hb); have BKv_n := Lib.hid (Blk.below (by (with_reducible repeat (first | apply Blk.alloc | apply Blk.drewN | apply Blk.drew)); exact BKv.out) hb); have HB_n := Lib.hid (below_step (w := w) (by repeat (first | (with_reducible first | exact HB.out | apply below_alloc | apply pw_below_drewN | apply below_drew) | exact HB.out)) hb); clear BKa; have BKa := BKa_n; clear BKa_n; clear BKv; have BKv := BKv_n; clear BKv_n; clear HB; have HB := HB_n; clear HB_n; have BKy := Lib.hid (show Blk Wy gy 46 (U y) from hbox); clear hbox hg hb)
    | (go_at_call 43; (with_reducible refine (HOK.out _ _ ?hB).mono ?_); (case hB => exact (by (with_reducible repeat (first | apply Blk.alloc | apply Blk.drewN | apply Blk.drew)); exact BKa.out)); rintro e W_ ⟨rfl, hb⟩; have BKa_n := Lib.hid (Blk.below (by (with_reducible repeat (first | apply Blk.alloc | apply Blk.drewN | apply Blk.drew)); exact BKa.out) hb); have BKv_n := Lib.hid (Blk.below (by (with_reducible repeat (first | apply Blk.alloc | apply Blk.drewN | apply Blk.drew)); exact BKv.out) hb); have BKy_n := Lib.hid (Blk.below (by (with_reducible repeat (first | apply Blk.alloc | apply Blk.drewN | apply Blk.drew)); exact BKy.out) hb); have HB_n := Lib.hid (below_step (w := w) (by repeat (first | (with_reducible first | exact HB.out | apply below_alloc | apply pw_below_drewN | apply below_drew) | exact HB.out)) hb); clear BKa; have BKa := BKa_n; clear BKa_n; clear BKv; have BKv := BKv_n; clear BKv_n; clear BKy; have BKy := BKy_n; clear BKy_n; clear HB; have HB := HB_n; clear HB_n; clear hb; have hr1 : W_.cell? ⟨ga, 1, none⟩ = some (.int .i8 (C : Int)) := BKa.out.cell 1)
    | (go_at_call 47; have _t := tA; (with_reducible refine (HFV.out _ _ ?hB).mono ?_); (case hB => exact (by (with_reducible repeat (first | apply Blk.alloc | apply Blk.drewN | apply Blk.drew)); exact BKv.out)); rintro e W_ ⟨rfl, hb⟩; have BKa_n := Lib.hid (Blk.below (by (with_reducible repeat (first | apply Blk.alloc | apply Blk.drewN | apply Blk.drew)); exact BKa.out) hb); have BKv_n := Lib.hid (Blk.below (by (with_reducible repeat (first | apply Blk.alloc | apply Blk.drewN | apply Blk.drew)); exact BKv.out) hb); have BKy_n := Lib.hid (Blk.below (by (with_reducible repeat (first | apply Blk.alloc | apply Blk.drewN | apply Blk.drew)); exact BKy.out) hb); have HB_n := Lib.hid (below_step (w := w) (by repeat (first | (with_reducible first | exact HB.out | apply below_alloc | apply pw_below_drewN | apply below_drew) | exact HB.out)) hb); clear BKa; have BKa := BKa_n; clear BKa_n; clear BKv; have BKv := BKv_n; clear BKv_n; clear BKy; have BKy := BKy_n; clear BKy_n; clear HB; have HB := HB_n; clear HB_n; clear hb; clear _t tA; have hr0 : W_.cell? ⟨ga, 0, none⟩ = some (.int .i8 (R : Int)) := BKa.out.cell 0)
    | (go_at_call 47; have _t := tB; (with_reducible refine (HFY.out _ _ ?hB).mono ?_); (case hB => exact (by (with_reducible repeat (first | apply Blk.alloc | apply Blk.drewN | apply Blk.drew)); exact BKy.out)); rintro e W_ ⟨rfl, hb⟩; have BKa_n := Lib.hid (Blk.below (by (with_reducible repeat (first | apply Blk.alloc | apply Blk.drewN | apply Blk.drew)); exact BKa.out) hb); have BKv_n := Lib.hid (Blk.below (by (with_reducible repeat (first | apply Blk.alloc | apply Blk.drewN | apply Blk.drew)); exact BKv.out) hb); have BKy_n := Lib.hid (Blk.below (by (with_reducible repeat (first | apply Blk.alloc | apply Blk.drewN | apply Blk.drew)); exact BKy.out) hb); have HB_n := Lib.hid (below_step (w := w) (by repeat (first | (with_reducible first | exact HB.out | apply below_alloc | apply pw_below_drewN | apply below_drew) | exact HB.out)) hb); clear BKa; have BKa := BKa_n; clear BKa_n; clear BKv; have BKv := BKv_n; clear BKv_n; clear BKy; have BKy := BKy_n; clear BKy_n; clear HB; have HB := HB_n; clear HB_n; clear hb; clear _t tB))
      have BKy_n := Lib.hid (Blk.drew BKy.out)
      have BKa_n := Lib.hid (Blk.drew BKa.out)
      have BKv_n := Lib.hid (Blk.drew BKv.out)
      have HB_n := Lib.hid (below_drew HB.out)
      clear BKy
      have BKy := BKy_n
      clear BKy_n
      clear BKa
      have BKa := BKa_n
      clear BKa_n
      clear BKv
      have BKv := BKv_n
      clear BKv_n
      clear HB
      have HB := HB_n
      clear HB_n
      refine start_ (n := 5) (S := fun w' => Blk w' gy 46 (U y)) (ds := []) #[false, false, false, false, false] (by kernel_rfl) rfl rfl BKy.out (fun hHeld => ?_)
      generalize W_.drew = W9 at BKy BKa BKv HB hHeld ⊢
      refine take_ (i := 1) (N := some 23) (v := ?_) (a' := ?_) #[false, true, false, false, false] rfl rfl (by kernel_rfl) (fun _ _ _ h => h) (Or.inl ⟨by rfl, ?_⟩) hHeld ?_ ?_
      rotate_left
      · rintro w' s0
        refine yl_ 46 (.tmp 5) ?ho gy ?hx 46 (U y) _ s0 Try.underlying46 rfl (by rw [U_length, HY.out]; exact inf46)
        case ho => rfl
        case hx => rfl
      rotate_left
      · simp only [Act.put, List.setIfInBounds_toArray, List.set_cons_zero, List.set_cons_succ, i64_w, i32_w]
        rfl
      refine one_ (i := 0) (N := some 22) #[true, true, false, false, false] rfl rfl (by kernel_rfl) (by decide) (fun K hK => ?_)
      refine goes_ Try.func48 (by kernel_rfl) rfl #[.pointer (some ⟨ga, 0, none⟩), .pointer (some ⟨gv, 0, none⟩)] (by rfl) rfl rfl (by (try simp only [List.map_toArray, List.map_cons, List.map_nil]); first | done | rfl) ?_
      with_reducible refine (HAP.out _ _ _ BKa.out BKv.out).mono ?_
      rintro e W_ ⟨rfl, hb⟩
      refine ⟨_, rfl, ?_⟩
      have BKy_n := Lib.hid (Blk.below BKy.out hb)
      have BKa_n := Lib.hid (Blk.below BKa.out hb)
      have BKv_n := Lib.hid (Blk.below BKv.out hb)
      have HB_n := Lib.hid (below_step HB.out hb)
      clear BKy
      have BKy := BKy_n
      clear BKy_n
      clear BKa
      have BKa := BKa_n
      clear BKa_n
      clear BKv
      have BKv := BKv_n
      clear BKv_n
      clear HB
      have HB := HB_n
      clear HB_n
      clear hb
      refine hK.out _ _ BKy.out (fun hHeld => ?_)
      clear hK K
      refine norm_ (a' := ?_) ?_ ?_
      rotate_left
      · show Act.put _ (some 22) _ = _
        simp only [Act.put, List.setIfInBounds_toArray, List.set_cons_zero, List.set_cons_succ, i64_w, i32_w]
        rfl
      refine pure_ (i := 2) (N := some 24) (v := ?_) (a' := ?_) #[true, true, true, false, false] rfl rfl (by kernel_rfl) (fun _ _ _ h => h) (Or.inl ⟨by rfl, ?_⟩) ?_ ?_
      rotate_left
      · intro w'
        refine eql46 (mv l v C R) y (mv_length l v C R) HY.out _ _ _ 22 23 ?ho ?hx ?hy
        case ho => rfl
        case hx => rfl
        case hy => rfl
      rotate_left
      · simp only [Act.put, List.setIfInBounds_toArray, List.set_cons_zero, List.set_cons_succ, i64_w, i32_w]
        rfl
      refine pure_ (i := 3) (N := some 6) (v := ?_) (a' := ?_) #[true, true, true, true, false] rfl rfl (by kernel_rfl) (fun _ _ _ h => h) (Or.inl ⟨by rfl, ?_⟩) ?_ ?_
      rotate_left
      · intro w'
        go_simp
        with_reducible rfl
      rotate_left
      · simp only [Act.put, List.setIfInBounds_toArray, List.set_cons_zero, List.set_cons_succ, i64_w, i32_w]
        rfl
      refine pure_ (i := 4) (N := some 7) (v := ?_) (a' := ?_) #[true, true, true, true, true] rfl rfl (by kernel_rfl) (fun _ _ _ h => h) (Or.inl ⟨by rfl, ?_⟩) ?_ ?_
      rotate_left
      · intro w'
        go_simp
        with_reducible rfl
      rotate_left
      · simp only [Act.put, List.setIfInBounds_toArray, List.set_cons_zero, List.set_cons_succ, i64_w, i32_w]
        rfl
      refine done_ (by kernel_rfl) ?_
      go_wp2
      go_ret2
      exact ⟨rfl, HB.out⟩

set_option maxHeartbeats 16000000 in
set_option maxRecDepth 100000 in
theorem implCheck_calls (r c : Int) (l v y : List Int) (hl : l.length = 36) (hv : v.length = 6) (hy : y.length = 6) (h1 : -128 ≤ r) (h2 : r ≤ 127) (h3 : -128 ≤ c) (h4 : c ≤ 127) (hw : W16 l) (hx : W16 v) (w : World) :
    Calls Try.prog 21 #[.agg (M r c l).toArray, .agg (U v).toArray, .agg (U y).toArray] w fun e w' => e = .returned (csR r c l v y) ∧ Below w.heap.size w w' := by
  have HL := Lib.hid hl
  have HV := Lib.hid hv
  have HY := Lib.hid hy
  have HW := Lib.hid hw
  have HX := Lib.hid hx
  have HOK := Lib.hid (fun W => validM_calls r c l hl h1 h2 h3 h4 W _ rfl)
  clear h1 h2 h3 h4 hw hx
  have HB := Lib.hid (Below.refl w.heap.size w)
  unfold csR
  obtain ⟨v1, hv1⟩ : ∃ v, okM r c l = v := ⟨_, rfl⟩
  rw [hv1] at HOK ⊢
  have tA : True := trivial
  have tB : True := trivial
  cases v1 with
  | false =>
    clear hv1 hl hv hy
    rw [if_neg (by simp)]
    go_enter Try.func21, Try.ntmps21
    go_wp2_with (first
    | ((with_reducible refine gate_dst (N := 3) rfl ?_); refine box_event ?hg (N := 3) ?hd (cs := (M r c l).toArray) (t := 29) ?hr ?_; (case hd => rfl); (case hg => rfl); (case hr => first | (go_simp; done) | (go_simp; rfl)); intro ga hg Wa hbox hb; have GWa := Lib.hid ((by rw [hg]; exact below_size (w := w) (by repeat (first | (with_reducible first | exact HB.out | apply below_alloc | apply pw_below_drewN | apply below_drew) | exact HB.out))) : w.heap.size ≤ ga); have HB_n := Lib.hid (below_step (w := w) (by repeat (first | (with_reducible first | exact HB.out | apply below_alloc | apply pw_below_drewN | apply below_drew) | exact HB.out)) hb); clear HB; have HB := HB_n; clear HB_n; have BKa := Lib.hid (show Blk Wa ga 29 (M r c l) from hbox); clear hbox hg hb)
    | ((with_reducible refine gate_dst (N := 4) rfl ?_); refine box_event ?hg (N := 4) ?hd (cs := (U v).toArray) (t := 46) ?hr ?_; (case hd => rfl); (case hg => rfl); (case hr => first | (go_simp; done) | (go_simp; rfl)); intro gv hg Wv hbox hb; have GWv := Lib.hid ((by rw [hg]; exact below_size (w := w) (by repeat (first | (with_reducible first | exact HB.out | apply below_alloc | apply pw_below_drewN | apply below_drew) | exact HB.out))) : w.heap.size ≤ gv); have NEav : ga ≠ gv := (by rw [hg]; exact Nat.ne_of_lt (Blk.lt (by (with_reducible repeat (first | apply Blk.alloc | apply Blk.drewN | apply Blk.drew)); exact BKa.out))); have NEva : gv ≠ ga := NEav.symm; have BKa_n := Lib.hid (Blk.below (by (with_reducible repeat (first | apply Blk.alloc | apply Blk.drewN | apply Blk.drew)); exact BKa.out) hb); have HB_n := Lib.hid (below_step (w := w) (by repeat (first | (with_reducible first | exact HB.out | apply below_alloc | apply pw_below_drewN | apply below_drew) | exact HB.out)) hb); clear BKa; have BKa := BKa_n; clear BKa_n; clear HB; have HB := HB_n; clear HB_n; have BKv := Lib.hid (show Blk Wv gv 46 (U v) from hbox); clear hbox hg hb)
    | ((with_reducible refine gate_dst (N := 5) rfl ?_); refine box_event ?hg (N := 5) ?hd (cs := (U y).toArray) (t := 46) ?hr ?_; (case hd => rfl); (case hg => rfl); (case hr => first | (go_simp; done) | (go_simp; rfl)); intro gy hg Wy hbox hb; have GWy := Lib.hid ((by rw [hg]; exact below_size (w := w) (by repeat (first | (with_reducible first | exact HB.out | apply below_alloc | apply pw_below_drewN | apply below_drew) | exact HB.out))) : w.heap.size ≤ gy); have NEay : ga ≠ gy := (by rw [hg]; exact Nat.ne_of_lt (Blk.lt (by (with_reducible repeat (first | apply Blk.alloc | apply Blk.drewN | apply Blk.drew)); exact BKa.out))); have NEya : gy ≠ ga := NEay.symm; have NEvy : gv ≠ gy := (by rw [hg]; exact Nat.ne_of_lt (Blk.lt (by (with_reducible repeat (first | apply Blk.alloc | apply Blk.drewN | apply Blk.drew)); exact BKv.out))); have NEyv : gy ≠ gv := NEvy.symm; have BKa_n := Lib.hid (Blk.below (by (with_reducible repeat (first | apply Blk.alloc | apply Blk.drewN | apply Blk.drew)); exact BKa.out) hb); have BKv_n := Lib.hid (Blk.below (by (with_reducible repeat (first | apply Blk.alloc | apply Blk.drewN | apply Blk.drew)); exact BKv.out) hb); have HB_n := Lib.hid (below_step (w := w) (by repeat (first | (with_reducible first | exact HB.out | apply below_alloc | apply pw_below_drewN | apply below_drew) | exact HB.out)) hb); clear BKa; have BKa := BKa_n; clear BKa_n; clear BKv; have BKv := BKv_n; clear BKv_n; clear HB; have HB := HB_n; clear HB_n; have BKy := Lib.hid (show Blk Wy gy 46 (U y) from hbox); clear hbox hg hb)
    | ((with_reducible refine wpList_ldall rfl 29 (.tmp 3) rfl ga ?hx 29 (M r c l) _ ?hB Try.underlying29 rfl ?hi ?_); (case hx => rfl); (case hB => exact (by (with_reducible repeat (first | apply Blk.alloc | apply Blk.drewN | apply Blk.drew)); exact BKa.out)); (case hi => rw [M_length, HL.out]; exact inf29))
    | ((with_reducible refine gate_ (.load 46 (.tmp 4)) rfl ?_); (try (refine gate_guard (by rfl) ?_; dsimp only)); ((with_reducible refine wpList_ldall rfl 46 (.tmp 4) rfl gv ?hx 46 (U v) _ ?hB Try.underlying46 rfl ?hi ?_); (case hx => rfl); (case hB => exact (by (with_reducible repeat (first | apply Blk.alloc | apply Blk.drewN | apply Blk.drew)); exact BKv.out)); (case hi => rw [U_length, HV.out]; exact inf46)))
    | ((with_reducible refine gate_ (.load 46 (.tmp 5)) rfl ?_); (try (refine gate_guard (by rfl) ?_; dsimp only)); ((with_reducible refine wpList_ldall rfl 46 (.tmp 5) rfl gy ?hx 46 (U y) _ ?hB Try.underlying46 rfl ?hi ?_); (case hx => rfl); (case hB => exact (by (with_reducible repeat (first | apply Blk.alloc | apply Blk.drewN | apply Blk.drew)); exact BKy.out)); (case hi => rw [U_length, HY.out]; exact inf46)))
    | (go_at_call 45; (with_reducible refine (HOK.out _).mono ?_); rintro e W_ ⟨rfl, hb⟩; have BKa_n := Lib.hid (Blk.below (by (with_reducible repeat (first | apply Blk.alloc | apply Blk.drewN | apply Blk.drew)); exact BKa.out) hb); have BKv_n := Lib.hid (Blk.below (by (with_reducible repeat (first | apply Blk.alloc | apply Blk.drewN | apply Blk.drew)); exact BKv.out) hb); have BKy_n := Lib.hid (Blk.below (by (with_reducible repeat (first | apply Blk.alloc | apply Blk.drewN | apply Blk.drew)); exact BKy.out) hb); have HB_n := Lib.hid (below_step (w := w) (by repeat (first | (with_reducible first | exact HB.out | apply below_alloc | apply pw_below_drewN | apply below_drew) | exact HB.out)) hb); clear BKa; have BKa := BKa_n; clear BKa_n; clear BKv; have BKv := BKv_n; clear BKv_n; clear BKy; have BKy := BKy_n; clear BKy_n; clear HB; have HB := HB_n; clear HB_n; clear hb))
    go_ret2
    exact ⟨rfl, HB.out⟩
  | true =>
    obtain ⟨a1, a2, a3, a4⟩ := okM_size hv1
    clear hv1
    obtain ⟨R, rfl⟩ := Int.eq_ofNat_of_zero_le a1
    obtain ⟨C, rfl⟩ := Int.eq_ofNat_of_zero_le a3
    rw [Int.toNat_natCast, Int.toNat_natCast]
    have hR : R ≤ 6 := by omega
    have hC : C ≤ 6 := by omega
    have HFV := Lib.hid (fun W => isForV_calls C hC v hv W _ rfl)
    have HFY := Lib.hid (fun W => isForV_calls R hR y hy W _ rfl)
    have HAP := Lib.hid (fun W => implApply_calls R C l v hl hv hR hC HW.out HX.out W)
    obtain ⟨v2, hv2⟩ : ∃ b, okVL C v 6 = b := ⟨_, rfl⟩
    rw [hv2] at HFV ⊢
    obtain ⟨v3, hv3⟩ : ∃ b, okVL R y 6 = b := ⟨_, rfl⟩
    rw [hv3] at HFY ⊢
    clear hv2 hv3 hR hC hl hv hy
    cases v2 with
    | false =>
      rw [if_neg (by simp)]
      go_enter Try.func21, Try.ntmps21
      go_wp2_with (first
    | ((with_reducible refine gate_dst (N := 3) rfl ?_); refine box_event ?hg (N := 3) ?hd (cs := (M R C l).toArray) (t := 29) ?hr ?_; (case hd => rfl); (case hg => rfl); (case hr => first | (go_simp; done) | (go_simp; rfl)); intro ga hg Wa hbox hb; have GWa := Lib.hid ((by rw [hg]; exact below_size (w := w) (by repeat (first | (with_reducible first | exact HB.out | apply below_alloc | apply pw_below_drewN | apply below_drew) | exact HB.out))) : w.heap.size ≤ ga); have HB_n := Lib.hid (below_step (w := w) (by repeat (first | (with_reducible first | exact HB.out | apply below_alloc | apply pw_below_drewN | apply below_drew) | exact HB.out)) hb); clear HB; have HB := HB_n; clear HB_n; have BKa := Lib.hid (show Blk Wa ga 29 (M R C l) from hbox); clear hbox hg hb)
    | ((with_reducible refine gate_dst (N := 4) rfl ?_); refine box_event ?hg (N := 4) ?hd (cs := (U v).toArray) (t := 46) ?hr ?_; (case hd => rfl); (case hg => rfl); (case hr => first | (go_simp; done) | (go_simp; rfl)); intro gv hg Wv hbox hb; have GWv := Lib.hid ((by rw [hg]; exact below_size (w := w) (by repeat (first | (with_reducible first | exact HB.out | apply below_alloc | apply pw_below_drewN | apply below_drew) | exact HB.out))) : w.heap.size ≤ gv); have NEav : ga ≠ gv := (by rw [hg]; exact Nat.ne_of_lt (Blk.lt (by (with_reducible repeat (first | apply Blk.alloc | apply Blk.drewN | apply Blk.drew)); exact BKa.out))); have NEva : gv ≠ ga := NEav.symm; have BKa_n := Lib.hid (Blk.below (by (with_reducible repeat (first | apply Blk.alloc | apply Blk.drewN | apply Blk.drew)); exact BKa.out) hb); have HB_n := Lib.hid (below_step (w := w) (by repeat (first | (with_reducible first | exact HB.out | apply below_alloc | apply pw_below_drewN | apply below_drew) | exact HB.out)) hb); clear BKa; have BKa := BKa_n; clear BKa_n; clear HB; have HB := HB_n; clear HB_n; have BKv := Lib.hid (show Blk Wv gv 46 (U v) from hbox); clear hbox hg hb)
    | ((with_reducible refine gate_dst (N := 5) rfl ?_); refine box_event ?hg (N := 5) ?hd (cs := (U y).toArray) (t := 46) ?hr ?_; (case hd => rfl); (case hg => rfl); (case hr => first | (go_simp; done) | (go_simp; rfl)); intro gy hg Wy hbox hb; have GWy := Lib.hid ((by rw [hg]; exact below_size (w := w) (by repeat (first | (with_reducible first | exact HB.out | apply below_alloc | apply pw_below_drewN | apply below_drew) | exact HB.out))) : w.heap.size ≤ gy); have NEay : ga ≠ gy := (by rw [hg]; exact Nat.ne_of_lt (Blk.lt (by (with_reducible repeat (first | apply Blk.alloc | apply Blk.drewN | apply Blk.drew)); exact BKa.out))); have NEya : gy ≠ ga := NEay.symm; have NEvy : gv ≠ gy := (by rw [hg]; exact Nat.ne_of_lt (Blk.lt (by (with_reducible repeat (first | apply Blk.alloc | apply Blk.drewN | apply Blk.drew)); exact BKv.out))); have NEyv : gy ≠ gv := NEvy.symm; have BKa_n := Lib.hid (Blk.below (by (with_reducible repeat (first | apply Blk.alloc | apply Blk.drewN | apply Blk.drew)); exact BKa.out) hb); have BKv_n := Lib.hid (Blk.below (by (with_reducible repeat (first | apply Blk.alloc | apply Blk.drewN | apply Blk.drew)); exact BKv.out) hb); have HB_n := Lib.hid (below_step (w := w) (by repeat (first | (with_reducible first | exact HB.out | apply below_alloc | apply pw_below_drewN | apply below_drew) | exact HB.out)) hb); clear BKa; have BKa := BKa_n; clear BKa_n; clear BKv; have BKv := BKv_n; clear BKv_n; clear HB; have HB := HB_n; clear HB_n; have BKy := Lib.hid (show Blk Wy gy 46 (U y) from hbox); clear hbox hg hb)
    | ((with_reducible refine wpList_ldall rfl 29 (.tmp 3) rfl ga ?hx 29 (M R C l) _ ?hB Try.underlying29 rfl ?hi ?_); (case hx => rfl); (case hB => exact (by (with_reducible repeat (first | apply Blk.alloc | apply Blk.drewN | apply Blk.drew)); exact BKa.out)); (case hi => rw [M_length, HL.out]; exact inf29))
    | ((with_reducible refine gate_ (.load 46 (.tmp 4)) rfl ?_); (try (refine gate_guard (by rfl) ?_; dsimp only)); ((with_reducible refine wpList_ldall rfl 46 (.tmp 4) rfl gv ?hx 46 (U v) _ ?hB Try.underlying46 rfl ?hi ?_); (case hx => rfl); (case hB => exact (by (with_reducible repeat (first | apply Blk.alloc | apply Blk.drewN | apply Blk.drew)); exact BKv.out)); (case hi => rw [U_length, HV.out]; exact inf46)))
    | ((with_reducible refine gate_ (.load 46 (.tmp 5)) rfl ?_); (try (refine gate_guard (by rfl) ?_; dsimp only)); ((with_reducible refine wpList_ldall rfl 46 (.tmp 5) rfl gy ?hx 46 (U y) _ ?hB Try.underlying46 rfl ?hi ?_); (case hx => rfl); (case hB => exact (by (with_reducible repeat (first | apply Blk.alloc | apply Blk.drewN | apply Blk.drew)); exact BKy.out)); (case hi => rw [U_length, HY.out]; exact inf46)))
    | (go_at_call 45; (with_reducible refine (HOK.out _).mono ?_); rintro e W_ ⟨rfl, hb⟩; have BKa_n := Lib.hid (Blk.below (by (with_reducible repeat (first | apply Blk.alloc | apply Blk.drewN | apply Blk.drew)); exact BKa.out) hb); have BKv_n := Lib.hid (Blk.below (by (with_reducible repeat (first | apply Blk.alloc | apply Blk.drewN | apply Blk.drew)); exact BKv.out) hb); have BKy_n := Lib.hid (Blk.below (by (with_reducible repeat (first | apply Blk.alloc | apply Blk.drewN | apply Blk.drew)); exact BKy.out) hb); have HB_n := Lib.hid (below_step (w := w) (by repeat (first | (with_reducible first | exact HB.out | apply below_alloc | apply pw_below_drewN | apply below_drew) | exact HB.out)) hb); clear BKa; have BKa := BKa_n; clear BKa_n; clear BKv; have BKv := BKv_n; clear BKv_n; clear BKy; have BKy := BKy_n; clear BKy_n; clear HB; have HB := HB_n; clear HB_n; clear hb; have hr1 : W_.cell? ⟨ga, 1, none⟩ = some (.int .i8 (C : Int)) := BKa.out.cell 1)
    | (go_at_call 49; have _t := tA; (with_reducible refine (HFV.out _).mono ?_); rintro e W_ ⟨rfl, hb⟩; have BKa_n := Lib.hid (Blk.below (by (with_reducible repeat (first | apply Blk.alloc | apply Blk.drewN | apply Blk.drew)); exact BKa.out) hb); have BKv_n := Lib.hid (Blk.below (by (with_reducible repeat (first | apply Blk.alloc | apply Blk.drewN | apply Blk.drew)); exact BKv.out) hb); have BKy_n := Lib.hid (Blk.below (by (with_reducible repeat (first | apply Blk.alloc | apply Blk.drewN | apply Blk.drew)); exact BKy.out) hb); have HB_n := Lib.hid (below_step (w := w) (by repeat (first | (with_reducible first | exact HB.out | apply below_alloc | apply pw_below_drewN | apply below_drew) | exact HB.out)) hb); clear BKa; have BKa := BKa_n; clear BKa_n; clear BKv; have BKv := BKv_n; clear BKv_n; clear BKy; have BKy := BKy_n; clear BKy_n; clear HB; have HB := HB_n; clear HB_n; clear hb; clear _t tA))
      go_ret2
      exact ⟨rfl, HB.out⟩
    | true =>
    cases v3 with
    | false =>
      rw [if_neg (by simp)]
      go_enter Try.func21, Try.ntmps21
      go_wp2_with (first
    | ((with_reducible refine gate_dst (N := 3) rfl ?_); refine box_event ?hg (N := 3) ?hd (cs := (M R C l).toArray) (t := 29) ?hr ?_; (case hd => rfl); (case hg => rfl); (case hr => first | (go_simp; done) | (go_simp; rfl)); intro ga hg Wa hbox hb; have GWa := Lib.hid ((by rw [hg]; exact below_size (w := w) (by repeat (first | (with_reducible first | exact HB.out | apply below_alloc | apply pw_below_drewN | apply below_drew) | exact HB.out))) : w.heap.size ≤ ga); have HB_n := Lib.hid (below_step (w := w) (by repeat (first | (with_reducible first | exact HB.out | apply below_alloc | apply pw_below_drewN | apply below_drew) | exact HB.out)) hb); clear HB; have HB := HB_n; clear HB_n; have BKa := Lib.hid (show Blk Wa ga 29 (M R C l) from hbox); clear hbox hg hb)
    | ((with_reducible refine gate_dst (N := 4) rfl ?_); refine box_event ?hg (N := 4) ?hd (cs := (U v).toArray) (t := 46) ?hr ?_; (case hd => rfl); (case hg => rfl); (case hr => first | (go_simp; done) | (go_simp; rfl)); intro gv hg Wv hbox hb; have GWv := Lib.hid ((by rw [hg]; exact below_size (w := w) (by repeat (first | (with_reducible first | exact HB.out | apply below_alloc | apply pw_below_drewN | apply below_drew) | exact HB.out))) : w.heap.size ≤ gv); have NEav : ga ≠ gv := (by rw [hg]; exact Nat.ne_of_lt (Blk.lt (by (with_reducible repeat (first | apply Blk.alloc | apply Blk.drewN | apply Blk.drew)); exact BKa.out))); have NEva : gv ≠ ga := NEav.symm; have BKa_n := Lib.hid (Blk.below (by (with_reducible repeat (first | apply Blk.alloc | apply Blk.drewN | apply Blk.drew)); exact BKa.out) hb); have HB_n := Lib.hid (below_step (w := w) (by repeat (first | (with_reducible first | exact HB.out | apply below_alloc | apply pw_below_drewN | apply below_drew) | exact HB.out)) hb); clear BKa; have BKa := BKa_n; clear BKa_n; clear HB; have HB := HB_n; clear HB_n; have BKv := Lib.hid (show Blk Wv gv 46 (U v) from hbox); clear hbox hg hb)
    | ((with_reducible refine gate_dst (N := 5) rfl ?_); refine box_event ?hg (N := 5) ?hd (cs := (U y).toArray) (t := 46) ?hr ?_; (case hd => rfl); (case hg => rfl); (case hr => first | (go_simp; done) | (go_simp; rfl)); intro gy hg Wy hbox hb; have GWy := Lib.hid ((by rw [hg]; exact below_size (w := w) (by repeat (first | (with_reducible first | exact HB.out | apply below_alloc | apply pw_below_drewN | apply below_drew) | exact HB.out))) : w.heap.size ≤ gy); have NEay : ga ≠ gy := (by rw [hg]; exact Nat.ne_of_lt (Blk.lt (by (with_reducible repeat (first | apply Blk.alloc | apply Blk.drewN | apply Blk.drew)); exact BKa.out))); have NEya : gy ≠ ga := NEay.symm; have NEvy : gv ≠ gy := (by rw [hg]; exact Nat.ne_of_lt (Blk.lt (by (with_reducible repeat (first | apply Blk.alloc | apply Blk.drewN | apply Blk.drew)); exact BKv.out))); have NEyv : gy ≠ gv := NEvy.symm; have BKa_n := Lib.hid (Blk.below (by (with_reducible repeat (first | apply Blk.alloc | apply Blk.drewN | apply Blk.drew)); exact BKa.out) hb); have BKv_n := Lib.hid (Blk.below (by (with_reducible repeat (first | apply Blk.alloc | apply Blk.drewN | apply Blk.drew)); exact BKv.out) hb); have HB_n := Lib.hid (below_step (w := w) (by repeat (first | (with_reducible first | exact HB.out | apply below_alloc | apply pw_below_drewN | apply below_drew) | exact HB.out)) hb); clear BKa; have BKa := BKa_n; clear BKa_n; clear BKv; have BKv := BKv_n; clear BKv_n; clear HB; have HB := HB_n; clear HB_n; have BKy := Lib.hid (show Blk Wy gy 46 (U y) from hbox); clear hbox hg hb)
    | ((with_reducible refine wpList_ldall rfl 29 (.tmp 3) rfl ga ?hx 29 (M R C l) _ ?hB Try.underlying29 rfl ?hi ?_); (case hx => rfl); (case hB => exact (by (with_reducible repeat (first | apply Blk.alloc | apply Blk.drewN | apply Blk.drew)); exact BKa.out)); (case hi => rw [M_length, HL.out]; exact inf29))
    | ((with_reducible refine gate_ (.load 46 (.tmp 4)) rfl ?_); (try (refine gate_guard (by rfl) ?_; dsimp only)); ((with_reducible refine wpList_ldall rfl 46 (.tmp 4) rfl gv ?hx 46 (U v) _ ?hB Try.underlying46 rfl ?hi ?_); (case hx => rfl); (case hB => exact (by (with_reducible repeat (first | apply Blk.alloc | apply Blk.drewN | apply Blk.drew)); exact BKv.out)); (case hi => rw [U_length, HV.out]; exact inf46)))
    | ((with_reducible refine gate_ (.load 46 (.tmp 5)) rfl ?_); (try (refine gate_guard (by rfl) ?_; dsimp only)); ((with_reducible refine wpList_ldall rfl 46 (.tmp 5) rfl gy ?hx 46 (U y) _ ?hB Try.underlying46 rfl ?hi ?_); (case hx => rfl); (case hB => exact (by (with_reducible repeat (first | apply Blk.alloc | apply Blk.drewN | apply Blk.drew)); exact BKy.out)); (case hi => rw [U_length, HY.out]; exact inf46)))
    | (go_at_call 45; (with_reducible refine (HOK.out _).mono ?_); rintro e W_ ⟨rfl, hb⟩; have BKa_n := Lib.hid (Blk.below (by (with_reducible repeat (first | apply Blk.alloc | apply Blk.drewN | apply Blk.drew)); exact BKa.out) hb); have BKv_n := Lib.hid (Blk.below (by (with_reducible repeat (first | apply Blk.alloc | apply Blk.drewN | apply Blk.drew)); exact BKv.out) hb); have BKy_n := Lib.hid (Blk.below (by (with_reducible repeat (first | apply Blk.alloc | apply Blk.drewN | apply Blk.drew)); exact BKy.out) hb); have HB_n := Lib.hid (below_step (w := w) (by repeat (first | (with_reducible first | exact HB.out | apply below_alloc | apply pw_below_drewN | apply below_drew) | exact HB.out)) hb); clear BKa; have BKa := BKa_n; clear BKa_n; clear BKv; have BKv := BKv_n; clear BKv_n; clear BKy; have BKy := BKy_n; clear BKy_n; clear HB; have HB := HB_n; clear HB_n; clear hb; have hr1 : W_.cell? ⟨ga, 1, none⟩ = some (.int .i8 (C : Int)) := BKa.out.cell 1)
    | (go_at_call 49; have _t := tA; (with_reducible refine (HFV.out _).mono ?_); rintro e W_ ⟨rfl, hb⟩; have BKa_n := Lib.hid (Blk.below (by (with_reducible repeat (first | apply Blk.alloc | apply Blk.drewN | apply Blk.drew)); exact BKa.out) hb); have BKv_n := Lib.hid (Blk.below (by (with_reducible repeat (first | apply Blk.alloc | apply Blk.drewN | apply Blk.drew)); exact BKv.out) hb); have BKy_n := Lib.hid (Blk.below (by (with_reducible repeat (first | apply Blk.alloc | apply Blk.drewN | apply Blk.drew)); exact BKy.out) hb); have HB_n := Lib.hid (below_step (w := w) (by repeat (first | (with_reducible first | exact HB.out | apply below_alloc | apply pw_below_drewN | apply below_drew) | exact HB.out)) hb); clear BKa; have BKa := BKa_n; clear BKa_n; clear BKv; have BKv := BKv_n; clear BKv_n; clear BKy; have BKy := BKy_n; clear BKy_n; clear HB; have HB := HB_n; clear HB_n; clear hb; clear _t tA; have hr0 : W_.cell? ⟨ga, 0, none⟩ = some (.int .i8 (R : Int)) := BKa.out.cell 0)
    | (go_at_call 49; have _t := tB; (with_reducible refine (HFY.out _).mono ?_); rintro e W_ ⟨rfl, hb⟩; have BKa_n := Lib.hid (Blk.below (by (with_reducible repeat (first | apply Blk.alloc | apply Blk.drewN | apply Blk.drew)); exact BKa.out) hb); have BKv_n := Lib.hid (Blk.below (by (with_reducible repeat (first | apply Blk.alloc | apply Blk.drewN | apply Blk.drew)); exact BKv.out) hb); have BKy_n := Lib.hid (Blk.below (by (with_reducible repeat (first | apply Blk.alloc | apply Blk.drewN | apply Blk.drew)); exact BKy.out) hb); have HB_n := Lib.hid (below_step (w := w) (by repeat (first | (with_reducible first | exact HB.out | apply below_alloc | apply pw_below_drewN | apply below_drew) | exact HB.out)) hb); clear BKa; have BKa := BKa_n; clear BKa_n; clear BKv; have BKv := BKv_n; clear BKv_n; clear BKy; have BKy := BKy_n; clear BKy_n; clear HB; have HB := HB_n; clear HB_n; clear hb; clear _t tB))
      go_ret2
      exact ⟨rfl, HB.out⟩
    | true =>
      rw [if_pos ⟨rfl, rfl, rfl⟩]
      go_enter Try.func21, Try.ntmps21
      go_wp2_with (first
    | ((with_reducible refine gate_dst (N := 3) rfl ?_); refine box_event ?hg (N := 3) ?hd (cs := (M R C l).toArray) (t := 29) ?hr ?_; (case hd => rfl); (case hg => rfl); (case hr => first | (go_simp; done) | (go_simp; rfl)); intro ga hg Wa hbox hb; have GWa := Lib.hid ((by rw [hg]; exact below_size (w := w) (by repeat (first | (with_reducible first | exact HB.out | apply below_alloc | apply pw_below_drewN | apply below_drew) | exact HB.out))) : w.heap.size ≤ ga); have HB_n := Lib.hid (below_step (w := w) (by repeat (first | (with_reducible first | exact HB.out | apply below_alloc | apply pw_below_drewN | apply below_drew) | exact HB.out)) hb); clear HB; have HB := HB_n; clear HB_n; have BKa := Lib.hid (show Blk Wa ga 29 (M R C l) from hbox); clear hbox hg hb)
    | ((with_reducible refine gate_dst (N := 4) rfl ?_); refine box_event ?hg (N := 4) ?hd (cs := (U v).toArray) (t := 46) ?hr ?_; (case hd => rfl); (case hg => rfl); (case hr => first | (go_simp; done) | (go_simp; rfl)); intro gv hg Wv hbox hb; have GWv := Lib.hid ((by rw [hg]; exact below_size (w := w) (by repeat (first | (with_reducible first | exact HB.out | apply below_alloc | apply pw_below_drewN | apply below_drew) | exact HB.out))) : w.heap.size ≤ gv); have NEav : ga ≠ gv := (by rw [hg]; exact Nat.ne_of_lt (Blk.lt (by (with_reducible repeat (first | apply Blk.alloc | apply Blk.drewN | apply Blk.drew)); exact BKa.out))); have NEva : gv ≠ ga := NEav.symm; have BKa_n := Lib.hid (Blk.below (by (with_reducible repeat (first | apply Blk.alloc | apply Blk.drewN | apply Blk.drew)); exact BKa.out) hb); have HB_n := Lib.hid (below_step (w := w) (by repeat (first | (with_reducible first | exact HB.out | apply below_alloc | apply pw_below_drewN | apply below_drew) | exact HB.out)) hb); clear BKa; have BKa := BKa_n; clear BKa_n; clear HB; have HB := HB_n; clear HB_n; have BKv := Lib.hid (show Blk Wv gv 46 (U v) from hbox); clear hbox hg hb)
    | ((with_reducible refine gate_dst (N := 5) rfl ?_); refine box_event ?hg (N := 5) ?hd (cs := (U y).toArray) (t := 46) ?hr ?_; (case hd => rfl); (case hg => rfl); (case hr => first | (go_simp; done) | (go_simp; rfl)); intro gy hg Wy hbox hb; have GWy := Lib.hid ((by rw [hg]; exact below_size (w := w) (by repeat (first | (with_reducible first | exact HB.out | apply below_alloc | apply pw_below_drewN | apply below_drew) | exact HB.out))) : w.heap.size ≤ gy); have NEay : ga ≠ gy := (by rw [hg]; exact Nat.ne_of_lt (Blk.lt (by (with_reducible repeat (first | apply Blk.alloc | apply Blk.drewN | apply Blk.drew)); exact BKa.out))); have NEya : gy ≠ ga := NEay.symm; have NEvy : gv ≠ gy := (by rw [hg]; exact Nat.ne_of_lt (Blk.lt (by (with_reducible repeat (first | apply Blk.alloc | apply Blk.drewN | apply Blk.drew)); exact BKv.out))); have NEyv : gy ≠ gv := NEvy.symm; have BKa_n := Lib.hid (Blk.below (by (with_reducible repeat (first | apply Blk.alloc | apply Blk.drewN | apply Blk.drew)); exact BKa.out) hb); have BKv_n := Lib.hid (Blk.below (by (with_reducible repeat (first | apply Blk.alloc | apply Blk.drewN | apply Blk.drew)); exact BKv.out) hb); have HB_n := Lib.hid (below_step (w := w) (by repeat (first | (with_reducible first | exact HB.out | apply below_alloc | apply pw_below_drewN | apply below_drew) | exact HB.out)) hb); clear BKa; have BKa := BKa_n; clear BKa_n; clear BKv; have BKv := BKv_n; clear BKv_n; clear HB; have HB := HB_n; clear HB_n; have BKy := Lib.hid (show Blk Wy gy 46 (U y) from hbox); clear hbox hg hb)
    | ((with_reducible refine wpList_ldall rfl 29 (.tmp 3) rfl ga ?hx 29 (M R C l) _ ?hB Try.underlying29 rfl ?hi ?_); (case hx => rfl); (case hB => exact (by (with_reducible repeat (first | apply Blk.alloc | apply Blk.drewN | apply Blk.drew)); exact BKa.out)); (case hi => rw [M_length, HL.out]; exact inf29))
    | ((with_reducible refine gate_ (.load 46 (.tmp 4)) rfl ?_); (try (refine gate_guard (by rfl) ?_; dsimp only)); ((with_reducible refine wpList_ldall rfl 46 (.tmp 4) rfl gv ?hx 46 (U v) _ ?hB Try.underlying46 rfl ?hi ?_); (case hx => rfl); (case hB => exact (by (with_reducible repeat (first | apply Blk.alloc | apply Blk.drewN | apply Blk.drew)); exact BKv.out)); (case hi => rw [U_length, HV.out]; exact inf46)))
    | ((with_reducible refine gate_ (.load 46 (.tmp 5)) rfl ?_); (try (refine gate_guard (by rfl) ?_; dsimp only)); ((with_reducible refine wpList_ldall rfl 46 (.tmp 5) rfl gy ?hx 46 (U y) _ ?hB Try.underlying46 rfl ?hi ?_); (case hx => rfl); (case hB => exact (by (with_reducible repeat (first | apply Blk.alloc | apply Blk.drewN | apply Blk.drew)); exact BKy.out)); (case hi => rw [U_length, HY.out]; exact inf46)))
    | (go_at_call 45; (with_reducible refine (HOK.out _).mono ?_); rintro e W_ ⟨rfl, hb⟩; have BKa_n := Lib.hid (Blk.below (by (with_reducible repeat (first | apply Blk.alloc | apply Blk.drewN | apply Blk.drew)); exact BKa.out) hb); have BKv_n := Lib.hid (Blk.below (by (with_reducible repeat (first | apply Blk.alloc | apply Blk.drewN | apply Blk.drew)); exact BKv.out) hb); have BKy_n := Lib.hid (Blk.below (by (with_reducible repeat (first | apply Blk.alloc | apply Blk.drewN | apply Blk.drew)); exact BKy.out) hb); have HB_n := Lib.hid (below_step (w := w) (by repeat (first | (with_reducible first | exact HB.out | apply below_alloc | apply pw_below_drewN | apply below_drew) | exact HB.out)) hb); clear BKa; have BKa := BKa_n; clear BKa_n; clear BKv; have BKv := BKv_n; clear BKv_n; clear BKy; have BKy := BKy_n; clear BKy_n; clear HB; have HB := HB_n; clear HB_n; clear hb; have hr1 : W_.cell? ⟨ga, 1, none⟩ = some (.int .i8 (C : Int)) := BKa.out.cell 1)
    | (go_at_call 49; have _t := tA; (with_reducible refine (HFV.out _).mono ?_); rintro e W_ ⟨rfl, hb⟩; have BKa_n := Lib.hid (Blk.below (by (with_reducible repeat (first | apply Blk.alloc | apply Blk.drewN | apply Blk.drew)); exact BKa.out) hb); have BKv_n := Lib.hid (Blk.below (by (with_reducible repeat (first | apply Blk.alloc | apply Blk.drewN | apply Blk.drew)); exact BKv.out) hb); have BKy_n := Lib.hid (Blk.below (by (with_reducible repeat (first | apply Blk.alloc | apply Blk.drewN | apply Blk.drew)); exact BKy.out) hb); have HB_n := Lib.hid (below_step (w := w) (by repeat (first | (with_reducible first | exact HB.out | apply below_alloc | apply pw_below_drewN | apply below_drew) | exact HB.out)) hb); clear BKa; have BKa := BKa_n; clear BKa_n; clear BKv; have BKv := BKv_n; clear BKv_n; clear BKy; have BKy := BKy_n; clear BKy_n; clear HB; have HB := HB_n; clear HB_n; clear hb; clear _t tA; have hr0 : W_.cell? ⟨ga, 0, none⟩ = some (.int .i8 (R : Int)) := BKa.out.cell 0)
    | (go_at_call 49; have _t := tB; (with_reducible refine (HFY.out _).mono ?_); rintro e W_ ⟨rfl, hb⟩; have BKa_n := Lib.hid (Blk.below (by (with_reducible repeat (first | apply Blk.alloc | apply Blk.drewN | apply Blk.drew)); exact BKa.out) hb); have BKv_n := Lib.hid (Blk.below (by (with_reducible repeat (first | apply Blk.alloc | apply Blk.drewN | apply Blk.drew)); exact BKv.out) hb); have BKy_n := Lib.hid (Blk.below (by (with_reducible repeat (first | apply Blk.alloc | apply Blk.drewN | apply Blk.drew)); exact BKy.out) hb); have HB_n := Lib.hid (below_step (w := w) (by repeat (first | (with_reducible first | exact HB.out | apply below_alloc | apply pw_below_drewN | apply below_drew) | exact HB.out)) hb); clear BKa; have BKa := BKa_n; clear BKa_n; clear BKv; have BKv := BKv_n; clear BKv_n; clear BKy; have BKy := BKy_n; clear BKy_n; clear HB; have HB := HB_n; clear HB_n; clear hb; clear _t tB))
      have BKa_n := Lib.hid (Blk.drew BKa.out)
      have BKv_n := Lib.hid (Blk.drew BKv.out)
      have BKy_n := Lib.hid (Blk.drew BKy.out)
      have HB_n := Lib.hid (below_drew HB.out)
      clear BKa
      have BKa := BKa_n
      clear BKa_n
      clear BKv
      have BKv := BKv_n
      clear BKv_n
      clear BKy
      have BKy := BKy_n
      clear BKy_n
      clear HB
      have HB := HB_n
      clear HB_n
      refine start_ (n := 7) (S := fun w' => Blk w' ga 29 (M R C l) ∧ Blk w' gv 46 (U v) ∧ Blk w' gy 46 (U y)) (ds := []) #[false, false, false, false, false, false, false] (by kernel_rfl) rfl rfl ⟨BKa.out, BKv.out, BKy.out⟩ (fun hHeld => ?_)
      generalize W_.drew = W9 at BKa BKv BKy HB hHeld ⊢
      refine take_ (i := 0) (N := some 25) (v := ?_) (a' := ?_) #[true, false, false, false, false, false, false] rfl rfl (by kernel_rfl) (fun _ _ _ h => h) (Or.inl ⟨by rfl, ?_⟩) hHeld ?_ ?_
      rotate_left
      · rintro w' ⟨s0, s1, s2⟩
        refine yl_ 29 (.tmp 3) ?ho ga ?hx 29 (M R C l) _ s0 Try.underlying29 rfl (by rw [M_length, HL.out]; exact inf29)
        case ho => rfl
        case hx => rfl
      rotate_left
      · simp only [Act.put, List.setIfInBounds_toArray, List.set_cons_zero, List.set_cons_succ, i64_w, i32_w]
        rfl
      refine take_ (i := 1) (N := some 26) (v := ?_) (a' := ?_) #[true, true, false, false, false, false, false] rfl rfl (by kernel_rfl) (fun _ _ _ h => h) (Or.inl ⟨by rfl, ?_⟩) hHeld ?_ ?_
      rotate_left
      · rintro w' ⟨s0, s1, s2⟩
        refine yl_ 46 (.tmp 4) ?ho gv ?hx 46 (U v) _ s1 Try.underlying46 rfl (by rw [U_length, HV.out]; exact inf46)
        case ho => rfl
        case hx => rfl
      rotate_left
      · simp only [Act.put, List.setIfInBounds_toArray, List.set_cons_zero, List.set_cons_succ, i64_w, i32_w]
        rfl
      refine take_ (i := 3) (N := some 28) (v := ?_) (a' := ?_) #[true, true, false, true, false, false, false] rfl rfl (by kernel_rfl) (fun _ _ _ h => h) (Or.inl ⟨by rfl, ?_⟩) hHeld ?_ ?_
      rotate_left
      · rintro w' ⟨s0, s1, s2⟩
        refine yl_ 46 (.tmp 5) ?ho gy ?hx 46 (U y) _ s2 Try.underlying46 rfl (by rw [U_length, HY.out]; exact inf46)
        case ho => rfl
        case hx => rfl
      rotate_left
      · simp only [Act.put, List.setIfInBounds_toArray, List.set_cons_zero, List.set_cons_succ, i64_w, i32_w]
        rfl
      refine one_ (i := 2) (N := some 27) #[true, true, true, true, false, false, false] rfl rfl (by kernel_rfl) (by decide) (fun K hK => ?_)
      refine goes_ Try.func50 (by kernel_rfl) rfl #[.agg (M R C l).toArray, .agg (U v).toArray] (by rfl) rfl rfl (by (try simp only [List.map_toArray, List.map_cons, List.map_nil]); first | done | rfl) ?_
      with_reducible refine (HAP.out _).mono ?_
      rintro e W_ ⟨rfl, hb⟩
      refine ⟨_, rfl, ?_⟩
      have BKa_n := Lib.hid (Blk.below BKa.out hb)
      have BKv_n := Lib.hid (Blk.below BKv.out hb)
      have BKy_n := Lib.hid (Blk.below BKy.out hb)
      have HB_n := Lib.hid (below_step HB.out hb)
      clear BKa
      have BKa := BKa_n
      clear BKa_n
      clear BKv
      have BKv := BKv_n
      clear BKv_n
      clear BKy
      have BKy := BKy_n
      clear BKy_n
      clear HB
      have HB := HB_n
      clear HB_n
      clear hb
      refine hK.out _ _ ⟨BKa.out, BKv.out, BKy.out⟩ (fun hHeld => ?_)
      clear hK K
      refine norm_ (a' := ?_) ?_ ?_
      rotate_left
      · show Act.put _ (some 27) _ = _
        simp only [Act.put, List.setIfInBounds_toArray, List.set_cons_zero, List.set_cons_succ, i64_w, i32_w]
        rfl
      refine pure_ (i := 4) (N := some 29) (v := ?_) (a' := ?_) #[true, true, true, true, true, false, false] rfl rfl (by kernel_rfl) (fun _ _ _ h => h) (Or.inl ⟨by rfl, ?_⟩) ?_ ?_
      rotate_left
      · intro w'
        refine eql46 (mv l v C R) y (mv_length l v C R) HY.out _ _ _ 27 28 ?ho ?hx ?hy
        case ho => rfl
        case hx => rfl
        case hy => rfl
      rotate_left
      · simp only [Act.put, List.setIfInBounds_toArray, List.set_cons_zero, List.set_cons_succ, i64_w, i32_w]
        rfl
      refine pure_ (i := 5) (N := some 6) (v := ?_) (a' := ?_) #[true, true, true, true, true, true, false] rfl rfl (by kernel_rfl) (fun _ _ _ h => h) (Or.inl ⟨by rfl, ?_⟩) ?_ ?_
      rotate_left
      · intro w'
        go_simp
        with_reducible rfl
      rotate_left
      · simp only [Act.put, List.setIfInBounds_toArray, List.set_cons_zero, List.set_cons_succ, i64_w, i32_w]
        rfl
      refine pure_ (i := 6) (N := some 7) (v := ?_) (a' := ?_) #[true, true, true, true, true, true, true] rfl rfl (by kernel_rfl) (fun _ _ _ h => h) (Or.inl ⟨by rfl, ?_⟩) ?_ ?_
      rotate_left
      · intro w'
        go_simp
        with_reducible rfl
      rotate_left
      · simp only [Act.put, List.setIfInBounds_toArray, List.set_cons_zero, List.set_cons_succ, i64_w, i32_w]
        rfl
      refine done_ (by kernel_rfl) ?_
      go_wp2
      go_ret2
      exact ⟨rfl, HB.out⟩

set_option maxHeartbeats 16000000 in
set_option maxRecDepth 100000 in
theorem lawCheck_calls (r c : Int) (l v y : List Int) (hl : l.length = 36) (hv : v.length = 6) (hy : y.length = 6) (h1 : -128 ≤ r) (h2 : r ≤ 127) (h3 : -128 ≤ c) (h4 : c ≤ 127) (hw : W16 l) (hx : W16 v) (w : World) :
    Calls Try.prog 5 #[.agg (M r c l).toArray, .agg (U v).toArray, .agg (U y).toArray] w fun e w' => e = .returned (.bool true) ∧ Below w.heap.size w w' := by
  obtain ⟨b0, e0, he⟩ := csRes r c l v y
  have HS := Lib.hid (fun W => he ▸ specCheck_calls r c l v y hl hv hy h1 h2 h3 h4 hw hx W)
  have HI := Lib.hid (fun W => he ▸ implCheck_calls r c l v y hl hv hy h1 h2 h3 h4 hw hx W)
  have HT := Lib.hid (fun W => toM_calls r c l hl W)
  have HV := Lib.hid (fun W => toVec_calls v hv W)
  have HY := Lib.hid (fun W => toVec_calls y hy W)
  have IA : Hid ((Try.prog.info? 40).map (·.size) = some (M r c l).length) := Lib.hid (by rw [M_length, hl]; exact inf40)
  have IB : Hid ((Try.prog.info? 37).map (·.size) = some (U v).length) := Lib.hid (by rw [U_length, hv]; exact inf37)
  have ID : Hid ((Try.prog.info? 37).map (·.size) = some (U y).length) := Lib.hid (by rw [U_length, hy]; exact inf37)
  clear hl hv hy h1 h2 h3 h4 hw hx he
  generalize M r c l = A at HS HI HT IA ⊢
  generalize U v = B at HS HI HV IB ⊢
  generalize U y = D at HS HI HY ID ⊢
  have HB := Lib.hid (Below.refl w.heap.size w)
  cases b0 <;>
  (go_enter Try.func5, Try.ntmps5
   skip)
  · skip
    go_wp2_with (first
    | ((with_reducible refine gate_dst (N := 3) rfl ?_); refine box_event ?hg (N := 3) ?hd (cs := (A).toArray) (t := 40) ?hr ?_; (case hd => rfl); (case hg => rfl); (case hr => rfl); intro gP hg WP hbox hb; clear hg; have HB_n := Lib.hid (below_step (w := w) (by repeat (first | (with_reducible first | exact HB.out | apply below_alloc | apply pw_below_drewN | apply below_drew) | exact HB.out)) hb); clear HB; have HB := HB_n; clear HB_n; have P := Lib.hid (show Blk WP gP 40 (A) from hbox); clear hbox hb)
    | ((with_reducible refine gate_dst (N := 4) rfl ?_); refine box_event ?hg (N := 4) ?hd (cs := (B).toArray) (t := 37) ?hr ?_; (case hd => rfl); (case hg => rfl); (case hr => rfl); intro gV hg WV hbox hb; clear hg; have P_n := Lib.hid (Blk.below (by (with_reducible repeat (first | apply Blk.alloc | apply Blk.drewN | apply Blk.drew)); exact P.out) hb); have HB_n := Lib.hid (below_step (w := w) (by repeat (first | (with_reducible first | exact HB.out | apply below_alloc | apply pw_below_drewN | apply below_drew) | exact HB.out)) hb); clear P; have P := P_n; clear P_n; clear HB; have HB := HB_n; clear HB_n; have V := Lib.hid (show Blk WV gV 37 (B) from hbox); clear hbox hb)
    | ((with_reducible refine gate_dst (N := 5) rfl ?_); refine box_event ?hg (N := 5) ?hd (cs := (D).toArray) (t := 37) ?hr ?_; (case hd => rfl); (case hg => rfl); (case hr => rfl); intro gY hg WY hbox hb; clear hg; have P_n := Lib.hid (Blk.below (by (with_reducible repeat (first | apply Blk.alloc | apply Blk.drewN | apply Blk.drew)); exact P.out) hb); have V_n := Lib.hid (Blk.below (by (with_reducible repeat (first | apply Blk.alloc | apply Blk.drewN | apply Blk.drew)); exact V.out) hb); have HB_n := Lib.hid (below_step (w := w) (by repeat (first | (with_reducible first | exact HB.out | apply below_alloc | apply pw_below_drewN | apply below_drew) | exact HB.out)) hb); clear P; have P := P_n; clear P_n; clear V; have V := V_n; clear V_n; clear HB; have HB := HB_n; clear HB_n; have Y := Lib.hid (show Blk WY gY 37 (D) from hbox); clear hbox hb))
    have P_n := Lib.hid (Blk.drew P.out)
    have V_n := Lib.hid (Blk.drew V.out)
    have Y_n := Lib.hid (Blk.drew Y.out)
    have HB_n := Lib.hid (below_drew HB.out)
    clear P
    have P := P_n
    clear P_n
    clear V
    have V := V_n
    clear V_n
    clear Y
    have Y := Y_n
    clear Y_n
    clear HB
    have HB := HB_n
    clear HB_n
    refine start_ (n := 12) (S := fun w' => Blk w' gP 40 (A) ∧ Blk w' gV 37 (B) ∧ Blk w' gY 37 (D)) (ds := []) #[false, false, false, false, false, false, false, false, false, false, false, false] (by kernel_rfl) rfl rfl ⟨P.out, V.out, Y.out⟩ (fun hHeld => ?_)
    generalize WY.drew = W1 at P V Y HB hHeld ⊢
    refine take_ (i := 0) (N := some 12) (v := ?_) (a' := ?_) #[true, false, false, false, false, false, false, false, false, false, false, false] rfl rfl (by kernel_rfl) (fun _ _ _ h => h) (Or.inl ⟨by rfl, ?_⟩) hHeld ?_ ?_
    rotate_left
    · rintro w' ⟨s0, s1, s2⟩
      refine yl_ 40 (.tmp 3) ?ho gP ?hx 40 (A) _ s0 Try.underlying40 rfl IA.out
      case ho => rfl
      case hx => rfl
    rotate_left
    · simp only [Act.put, List.setIfInBounds_toArray, List.set_cons_zero, List.set_cons_succ, i64_w, i32_w]
      rfl
    refine take_ (i := 2) (N := some 14) (v := ?_) (a' := ?_) #[true, false, true, false, false, false, false, false, false, false, false, false] rfl rfl (by kernel_rfl) (fun _ _ _ h => h) (Or.inl ⟨by rfl, ?_⟩) hHeld ?_ ?_
    rotate_left
    · rintro w' ⟨s0, s1, s2⟩
      refine yl_ 37 (.tmp 4) ?ho gV ?hx 37 (B) _ s1 Try.underlying37 rfl IB.out
      case ho => rfl
      case hx => rfl
    rotate_left
    · simp only [Act.put, List.setIfInBounds_toArray, List.set_cons_zero, List.set_cons_succ, i64_w, i32_w]
      rfl
    refine take_ (i := 4) (N := some 16) (v := ?_) (a' := ?_) #[true, false, true, false, true, false, false, false, false, false, false, false] rfl rfl (by kernel_rfl) (fun _ _ _ h => h) (Or.inl ⟨by rfl, ?_⟩) hHeld ?_ ?_
    rotate_left
    · rintro w' ⟨s0, s1, s2⟩
      refine yl_ 37 (.tmp 5) ?ho gY ?hx 37 (D) _ s2 Try.underlying37 rfl ID.out
      case ho => rfl
      case hx => rfl
    rotate_left
    · simp only [Act.put, List.setIfInBounds_toArray, List.set_cons_zero, List.set_cons_succ, i64_w, i32_w]
      rfl
    refine one_ (i := 1) (N := some 13) #[true, true, true, false, true, false, false, false, false, false, false, false] rfl rfl (by kernel_rfl) (by decide) (fun K hK => ?_)
    refine goes_ Try.func17 (by kernel_rfl) rfl #[.agg (A).toArray] (by rfl) rfl rfl (by (try simp only [List.map_toArray, List.map_cons, List.map_nil]); first | done | rfl) ?_
    with_reducible refine (HT.out _).mono ?_
    rintro e W_ ⟨rfl, hb⟩
    refine ⟨_, rfl, ?_⟩
    have P_n := Lib.hid (Blk.below P.out hb)
    have V_n := Lib.hid (Blk.below V.out hb)
    have Y_n := Lib.hid (Blk.below Y.out hb)
    have HB_n := Lib.hid (below_step HB.out hb)
    clear P
    have P := P_n
    clear P_n
    clear V
    have V := V_n
    clear V_n
    clear Y
    have Y := Y_n
    clear Y_n
    clear HB
    have HB := HB_n
    clear HB_n
    clear hb
    refine hK.out _ _ ⟨P.out, V.out, Y.out⟩ (fun hHeld => ?_)
    clear hK K
    refine norm_ (a' := ?_) ?_ ?_
    rotate_left
    · show Act.put _ (some 13) _ = _
      simp only [Act.put, List.setIfInBounds_toArray, List.set_cons_zero, List.set_cons_succ, i64_w, i32_w]
      rfl
    refine one_ (i := 3) (N := some 15) #[true, true, true, true, true, false, false, false, false, false, false, false] rfl rfl (by kernel_rfl) (by decide) (fun K hK => ?_)
    refine goes_ Try.func20 (by kernel_rfl) rfl #[.agg (B).toArray] (by rfl) rfl rfl (by (try simp only [List.map_toArray, List.map_cons, List.map_nil]); first | done | rfl) ?_
    with_reducible refine (HV.out _).mono ?_
    rintro e W_ ⟨rfl, hb⟩
    refine ⟨_, rfl, ?_⟩
    have P_n := Lib.hid (Blk.below P.out hb)
    have V_n := Lib.hid (Blk.below V.out hb)
    have Y_n := Lib.hid (Blk.below Y.out hb)
    have HB_n := Lib.hid (below_step HB.out hb)
    clear P
    have P := P_n
    clear P_n
    clear V
    have V := V_n
    clear V_n
    clear Y
    have Y := Y_n
    clear Y_n
    clear HB
    have HB := HB_n
    clear HB_n
    clear hb
    refine hK.out _ _ ⟨P.out, V.out, Y.out⟩ (fun hHeld => ?_)
    clear hK K
    refine norm_ (a' := ?_) ?_ ?_
    rotate_left
    · show Act.put _ (some 15) _ = _
      simp only [Act.put, List.setIfInBounds_toArray, List.set_cons_zero, List.set_cons_succ, i64_w, i32_w]
      rfl
    refine one_ (i := 5) (N := some 17) #[true, true, true, true, true, true, false, false, false, false, false, false] rfl rfl (by kernel_rfl) (by decide) (fun K hK => ?_)
    refine goes_ Try.func20 (by kernel_rfl) rfl #[.agg (D).toArray] (by rfl) rfl rfl (by (try simp only [List.map_toArray, List.map_cons, List.map_nil]); first | done | rfl) ?_
    with_reducible refine (HY.out _).mono ?_
    rintro e W_ ⟨rfl, hb⟩
    refine ⟨_, rfl, ?_⟩
    have P_n := Lib.hid (Blk.below P.out hb)
    have V_n := Lib.hid (Blk.below V.out hb)
    have Y_n := Lib.hid (Blk.below Y.out hb)
    have HB_n := Lib.hid (below_step HB.out hb)
    clear P
    have P := P_n
    clear P_n
    clear V
    have V := V_n
    clear V_n
    clear Y
    have Y := Y_n
    clear Y_n
    clear HB
    have HB := HB_n
    clear HB_n
    clear hb
    refine hK.out _ _ ⟨P.out, V.out, Y.out⟩ (fun hHeld => ?_)
    clear hK K
    refine norm_ (a' := ?_) ?_ ?_
    rotate_left
    · show Act.put _ (some 17) _ = _
      simp only [Act.put, List.setIfInBounds_toArray, List.set_cons_zero, List.set_cons_succ, i64_w, i32_w]
      rfl
    refine one_ (i := 6) (N := some 18) #[true, true, true, true, true, true, true, false, false, false, false, false] rfl rfl (by kernel_rfl) (by decide) (fun K hK => ?_)
    refine goes_ Try.func19 (by kernel_rfl) rfl #[.agg (A).toArray, .agg (B).toArray, .agg (D).toArray] (by rfl) rfl rfl (by (try simp only [List.map_toArray, List.map_cons, List.map_nil]); first | done | rfl) ?_
    with_reducible refine (HS.out _).mono ?_
    rintro e W_ ⟨rfl, hb⟩
    refine ⟨_, rfl, ?_⟩
    have P_n := Lib.hid (Blk.below P.out hb)
    have V_n := Lib.hid (Blk.below V.out hb)
    have Y_n := Lib.hid (Blk.below Y.out hb)
    have HB_n := Lib.hid (below_step HB.out hb)
    clear P
    have P := P_n
    clear P_n
    clear V
    have V := V_n
    clear V_n
    clear Y
    have Y := Y_n
    clear Y_n
    clear HB
    have HB := HB_n
    clear HB_n
    clear hb
    refine hK.out _ _ ⟨P.out, V.out, Y.out⟩ (fun hHeld => ?_)
    clear hK K
    refine norm_ (a' := ?_) ?_ ?_
    rotate_left
    · show Act.put _ (some 18) _ = _
      simp only [Act.put, List.setIfInBounds_toArray, List.set_cons_zero, List.set_cons_succ, i64_w, i32_w]
      rfl
    refine pure_ (i := 7) (N := some 11) (v := ?_) (a' := ?_) #[true, true, true, true, true, true, true, true, false, false, false, false] rfl rfl (by kernel_rfl) (fun _ _ _ h => h) (Or.inl ⟨by rfl, ?_⟩) ?_ ?_
    rotate_left
    · intro w'
      go_simp
      with_reducible rfl
    rotate_left
    · simp only [Act.put, List.setIfInBounds_toArray, List.set_cons_zero, List.set_cons_succ, i64_w, i32_w]
      rfl
    refine pure_ (i := 8) (N := some 19) (v := ?_) (a' := ?_) #[true, true, true, true, true, true, true, true, true, false, false, false] rfl rfl (by kernel_rfl) (fun _ _ _ h => h) (Or.inl ⟨by rfl, ?_⟩) ?_ ?_
    rotate_left
    · intro w'
      go_simp
      with_reducible rfl
    rotate_left
    · simp only [Act.put, List.setIfInBounds_toArray, List.set_cons_zero, List.set_cons_succ, i64_w, i32_w]
      rfl
    refine pure_ (i := 9) (N := some 20) (v := ?_) (a' := ?_) #[true, true, true, true, true, true, true, true, true, true, false, false] rfl rfl (by kernel_rfl) (fun _ _ _ h => h) (Or.inl ⟨by rfl, ?_⟩) ?_ ?_
    rotate_left
    · intro w'
      go_simp
      with_reducible rfl
    rotate_left
    · simp only [Act.put, List.setIfInBounds_toArray, List.set_cons_zero, List.set_cons_succ, i64_w, i32_w]
      rfl
    refine pure_ (i := 10) (N := some 7) (v := ?_) (a' := ?_) #[true, true, true, true, true, true, true, true, true, true, true, false] rfl rfl (by kernel_rfl) (fun _ _ _ h => h) (Or.inl ⟨by rfl, ?_⟩) ?_ ?_
    rotate_left
    · intro w'
      go_simp
      with_reducible rfl
    rotate_left
    · simp only [Act.put, List.setIfInBounds_toArray, List.set_cons_zero, List.set_cons_succ, i64_w, i32_w]
      rfl
    refine pure_ (i := 11) (N := some 8) (v := ?_) (a' := ?_) #[true, true, true, true, true, true, true, true, true, true, true, true] rfl rfl (by kernel_rfl) (fun _ _ _ h => h) (Or.inl ⟨by rfl, ?_⟩) ?_ ?_
    rotate_left
    · intro w'
      go_simp
      with_reducible rfl
    rotate_left
    · simp only [Act.put, List.setIfInBounds_toArray, List.set_cons_zero, List.set_cons_succ, i64_w, i32_w]
      rfl
    refine done_ (by kernel_rfl) ?_
    go_wp2
    have P_n := Lib.hid (Blk.drew P.out)
    have V_n := Lib.hid (Blk.drew V.out)
    have Y_n := Lib.hid (Blk.drew Y.out)
    have HB_n := Lib.hid (below_drew HB.out)
    clear P
    have P := P_n
    clear P_n
    clear V
    have V := V_n
    clear V_n
    clear Y
    have Y := Y_n
    clear Y_n
    clear HB
    have HB := HB_n
    clear HB_n
    refine start_ (n := 12) (S := fun w' => Blk w' gP 40 (A) ∧ Blk w' gV 37 (B) ∧ Blk w' gY 37 (D)) (ds := []) #[false, false, false, false, false, false, false, false, false, false, false, false] (by kernel_rfl) rfl rfl ⟨P.out, V.out, Y.out⟩ (fun hHeld => ?_)
    generalize W_.drew = W2 at P V Y HB hHeld ⊢
    refine take_ (i := 0) (N := some 22) (v := ?_) (a' := ?_) #[true, false, false, false, false, false, false, false, false, false, false, false] rfl rfl (by kernel_rfl) (fun _ _ _ h => h) (Or.inl ⟨by rfl, ?_⟩) hHeld ?_ ?_
    rotate_left
    · rintro w' ⟨s0, s1, s2⟩
      refine yl_ 40 (.tmp 3) ?ho gP ?hx 40 (A) _ s0 Try.underlying40 rfl IA.out
      case ho => rfl
      case hx => rfl
    rotate_left
    · simp only [Act.put, List.setIfInBounds_toArray, List.set_cons_zero, List.set_cons_succ, i64_w, i32_w]
      rfl
    refine take_ (i := 2) (N := some 24) (v := ?_) (a' := ?_) #[true, false, true, false, false, false, false, false, false, false, false, false] rfl rfl (by kernel_rfl) (fun _ _ _ h => h) (Or.inl ⟨by rfl, ?_⟩) hHeld ?_ ?_
    rotate_left
    · rintro w' ⟨s0, s1, s2⟩
      refine yl_ 37 (.tmp 4) ?ho gV ?hx 37 (B) _ s1 Try.underlying37 rfl IB.out
      case ho => rfl
      case hx => rfl
    rotate_left
    · simp only [Act.put, List.setIfInBounds_toArray, List.set_cons_zero, List.set_cons_succ, i64_w, i32_w]
      rfl
    refine take_ (i := 4) (N := some 26) (v := ?_) (a' := ?_) #[true, false, true, false, true, false, false, false, false, false, false, false] rfl rfl (by kernel_rfl) (fun _ _ _ h => h) (Or.inl ⟨by rfl, ?_⟩) hHeld ?_ ?_
    rotate_left
    · rintro w' ⟨s0, s1, s2⟩
      refine yl_ 37 (.tmp 5) ?ho gY ?hx 37 (D) _ s2 Try.underlying37 rfl ID.out
      case ho => rfl
      case hx => rfl
    rotate_left
    · simp only [Act.put, List.setIfInBounds_toArray, List.set_cons_zero, List.set_cons_succ, i64_w, i32_w]
      rfl
    refine one_ (i := 1) (N := some 23) #[true, true, true, false, true, false, false, false, false, false, false, false] rfl rfl (by kernel_rfl) (by decide) (fun K hK => ?_)
    refine goes_ Try.func17 (by kernel_rfl) rfl #[.agg (A).toArray] (by rfl) rfl rfl (by (try simp only [List.map_toArray, List.map_cons, List.map_nil]); first | done | rfl) ?_
    with_reducible refine (HT.out _).mono ?_
    rintro e W_ ⟨rfl, hb⟩
    refine ⟨_, rfl, ?_⟩
    have P_n := Lib.hid (Blk.below P.out hb)
    have V_n := Lib.hid (Blk.below V.out hb)
    have Y_n := Lib.hid (Blk.below Y.out hb)
    have HB_n := Lib.hid (below_step HB.out hb)
    clear P
    have P := P_n
    clear P_n
    clear V
    have V := V_n
    clear V_n
    clear Y
    have Y := Y_n
    clear Y_n
    clear HB
    have HB := HB_n
    clear HB_n
    clear hb
    refine hK.out _ _ ⟨P.out, V.out, Y.out⟩ (fun hHeld => ?_)
    clear hK K
    refine norm_ (a' := ?_) ?_ ?_
    rotate_left
    · show Act.put _ (some 23) _ = _
      simp only [Act.put, List.setIfInBounds_toArray, List.set_cons_zero, List.set_cons_succ, i64_w, i32_w]
      rfl
    refine one_ (i := 3) (N := some 25) #[true, true, true, true, true, false, false, false, false, false, false, false] rfl rfl (by kernel_rfl) (by decide) (fun K hK => ?_)
    refine goes_ Try.func20 (by kernel_rfl) rfl #[.agg (B).toArray] (by rfl) rfl rfl (by (try simp only [List.map_toArray, List.map_cons, List.map_nil]); first | done | rfl) ?_
    with_reducible refine (HV.out _).mono ?_
    rintro e W_ ⟨rfl, hb⟩
    refine ⟨_, rfl, ?_⟩
    have P_n := Lib.hid (Blk.below P.out hb)
    have V_n := Lib.hid (Blk.below V.out hb)
    have Y_n := Lib.hid (Blk.below Y.out hb)
    have HB_n := Lib.hid (below_step HB.out hb)
    clear P
    have P := P_n
    clear P_n
    clear V
    have V := V_n
    clear V_n
    clear Y
    have Y := Y_n
    clear Y_n
    clear HB
    have HB := HB_n
    clear HB_n
    clear hb
    refine hK.out _ _ ⟨P.out, V.out, Y.out⟩ (fun hHeld => ?_)
    clear hK K
    refine norm_ (a' := ?_) ?_ ?_
    rotate_left
    · show Act.put _ (some 25) _ = _
      simp only [Act.put, List.setIfInBounds_toArray, List.set_cons_zero, List.set_cons_succ, i64_w, i32_w]
      rfl
    refine one_ (i := 5) (N := some 27) #[true, true, true, true, true, true, false, false, false, false, false, false] rfl rfl (by kernel_rfl) (by decide) (fun K hK => ?_)
    refine goes_ Try.func20 (by kernel_rfl) rfl #[.agg (D).toArray] (by rfl) rfl rfl (by (try simp only [List.map_toArray, List.map_cons, List.map_nil]); first | done | rfl) ?_
    with_reducible refine (HY.out _).mono ?_
    rintro e W_ ⟨rfl, hb⟩
    refine ⟨_, rfl, ?_⟩
    have P_n := Lib.hid (Blk.below P.out hb)
    have V_n := Lib.hid (Blk.below V.out hb)
    have Y_n := Lib.hid (Blk.below Y.out hb)
    have HB_n := Lib.hid (below_step HB.out hb)
    clear P
    have P := P_n
    clear P_n
    clear V
    have V := V_n
    clear V_n
    clear Y
    have Y := Y_n
    clear Y_n
    clear HB
    have HB := HB_n
    clear HB_n
    clear hb
    refine hK.out _ _ ⟨P.out, V.out, Y.out⟩ (fun hHeld => ?_)
    clear hK K
    refine norm_ (a' := ?_) ?_ ?_
    rotate_left
    · show Act.put _ (some 27) _ = _
      simp only [Act.put, List.setIfInBounds_toArray, List.set_cons_zero, List.set_cons_succ, i64_w, i32_w]
      rfl
    refine one_ (i := 6) (N := some 28) #[true, true, true, true, true, true, true, false, false, false, false, false] rfl rfl (by kernel_rfl) (by decide) (fun K hK => ?_)
    refine goes_ Try.func21 (by kernel_rfl) rfl #[.agg (A).toArray, .agg (B).toArray, .agg (D).toArray] (by rfl) rfl rfl (by (try simp only [List.map_toArray, List.map_cons, List.map_nil]); first | done | rfl) ?_
    with_reducible refine (HI.out _).mono ?_
    rintro e W_ ⟨rfl, hb⟩
    refine ⟨_, rfl, ?_⟩
    have P_n := Lib.hid (Blk.below P.out hb)
    have V_n := Lib.hid (Blk.below V.out hb)
    have Y_n := Lib.hid (Blk.below Y.out hb)
    have HB_n := Lib.hid (below_step HB.out hb)
    clear P
    have P := P_n
    clear P_n
    clear V
    have V := V_n
    clear V_n
    clear Y
    have Y := Y_n
    clear Y_n
    clear HB
    have HB := HB_n
    clear HB_n
    clear hb
    refine hK.out _ _ ⟨P.out, V.out, Y.out⟩ (fun hHeld => ?_)
    clear hK K
    refine norm_ (a' := ?_) ?_ ?_
    rotate_left
    · show Act.put _ (some 28) _ = _
      simp only [Act.put, List.setIfInBounds_toArray, List.set_cons_zero, List.set_cons_succ, i64_w, i32_w]
      rfl
    refine pure_ (i := 7) (N := some 21) (v := ?_) (a' := ?_) #[true, true, true, true, true, true, true, true, false, false, false, false] rfl rfl (by kernel_rfl) (fun _ _ _ h => h) (Or.inl ⟨by rfl, ?_⟩) ?_ ?_
    rotate_left
    · intro w'
      go_simp
      with_reducible rfl
    rotate_left
    · simp only [Act.put, List.setIfInBounds_toArray, List.set_cons_zero, List.set_cons_succ, i64_w, i32_w]
      rfl
    refine pure_ (i := 8) (N := some 29) (v := ?_) (a' := ?_) #[true, true, true, true, true, true, true, true, true, false, false, false] rfl rfl (by kernel_rfl) (fun _ _ _ h => h) (Or.inl ⟨by rfl, ?_⟩) ?_ ?_
    rotate_left
    · intro w'
      go_simp
      with_reducible rfl
    rotate_left
    · simp only [Act.put, List.setIfInBounds_toArray, List.set_cons_zero, List.set_cons_succ, i64_w, i32_w]
      rfl
    refine pure_ (i := 9) (N := some 30) (v := ?_) (a' := ?_) #[true, true, true, true, true, true, true, true, true, true, false, false] rfl rfl (by kernel_rfl) (fun _ _ _ h => h) (Or.inl ⟨by rfl, ?_⟩) ?_ ?_
    rotate_left
    · intro w'
      go_simp
      with_reducible rfl
    rotate_left
    · simp only [Act.put, List.setIfInBounds_toArray, List.set_cons_zero, List.set_cons_succ, i64_w, i32_w]
      rfl
    refine pure_ (i := 10) (N := some 9) (v := ?_) (a' := ?_) #[true, true, true, true, true, true, true, true, true, true, true, false] rfl rfl (by kernel_rfl) (fun _ _ _ h => h) (Or.inl ⟨by rfl, ?_⟩) ?_ ?_
    rotate_left
    · intro w'
      go_simp
      with_reducible rfl
    rotate_left
    · simp only [Act.put, List.setIfInBounds_toArray, List.set_cons_zero, List.set_cons_succ, i64_w, i32_w]
      rfl
    refine pure_ (i := 11) (N := some 10) (v := ?_) (a' := ?_) #[true, true, true, true, true, true, true, true, true, true, true, true] rfl rfl (by kernel_rfl) (fun _ _ _ h => h) (Or.inl ⟨by rfl, ?_⟩) ?_ ?_
    rotate_left
    · intro w'
      go_simp
      with_reducible rfl
    rotate_left
    · simp only [Act.put, List.setIfInBounds_toArray, List.set_cons_zero, List.set_cons_succ, i64_w, i32_w]
      rfl
    refine done_ (by kernel_rfl) ?_
    go_wp2
    go_ret
    exact ⟨rfl, HB.out⟩
  · skip
    go_wp2_with (first
    | ((with_reducible refine gate_dst (N := 3) rfl ?_); refine box_event ?hg (N := 3) ?hd (cs := (A).toArray) (t := 40) ?hr ?_; (case hd => rfl); (case hg => rfl); (case hr => rfl); intro gP hg WP hbox hb; clear hg; have HB_n := Lib.hid (below_step (w := w) (by repeat (first | (with_reducible first | exact HB.out | apply below_alloc | apply pw_below_drewN | apply below_drew) | exact HB.out)) hb); clear HB; have HB := HB_n; clear HB_n; have P := Lib.hid (show Blk WP gP 40 (A) from hbox); clear hbox hb)
    | ((with_reducible refine gate_dst (N := 4) rfl ?_); refine box_event ?hg (N := 4) ?hd (cs := (B).toArray) (t := 37) ?hr ?_; (case hd => rfl); (case hg => rfl); (case hr => rfl); intro gV hg WV hbox hb; clear hg; have P_n := Lib.hid (Blk.below (by (with_reducible repeat (first | apply Blk.alloc | apply Blk.drewN | apply Blk.drew)); exact P.out) hb); have HB_n := Lib.hid (below_step (w := w) (by repeat (first | (with_reducible first | exact HB.out | apply below_alloc | apply pw_below_drewN | apply below_drew) | exact HB.out)) hb); clear P; have P := P_n; clear P_n; clear HB; have HB := HB_n; clear HB_n; have V := Lib.hid (show Blk WV gV 37 (B) from hbox); clear hbox hb)
    | ((with_reducible refine gate_dst (N := 5) rfl ?_); refine box_event ?hg (N := 5) ?hd (cs := (D).toArray) (t := 37) ?hr ?_; (case hd => rfl); (case hg => rfl); (case hr => rfl); intro gY hg WY hbox hb; clear hg; have P_n := Lib.hid (Blk.below (by (with_reducible repeat (first | apply Blk.alloc | apply Blk.drewN | apply Blk.drew)); exact P.out) hb); have V_n := Lib.hid (Blk.below (by (with_reducible repeat (first | apply Blk.alloc | apply Blk.drewN | apply Blk.drew)); exact V.out) hb); have HB_n := Lib.hid (below_step (w := w) (by repeat (first | (with_reducible first | exact HB.out | apply below_alloc | apply pw_below_drewN | apply below_drew) | exact HB.out)) hb); clear P; have P := P_n; clear P_n; clear V; have V := V_n; clear V_n; clear HB; have HB := HB_n; clear HB_n; have Y := Lib.hid (show Blk WY gY 37 (D) from hbox); clear hbox hb))
    have P_n := Lib.hid (Blk.drew P.out)
    have V_n := Lib.hid (Blk.drew V.out)
    have Y_n := Lib.hid (Blk.drew Y.out)
    have HB_n := Lib.hid (below_drew HB.out)
    clear P
    have P := P_n
    clear P_n
    clear V
    have V := V_n
    clear V_n
    clear Y
    have Y := Y_n
    clear Y_n
    clear HB
    have HB := HB_n
    clear HB_n
    refine start_ (n := 12) (S := fun w' => Blk w' gP 40 (A) ∧ Blk w' gV 37 (B) ∧ Blk w' gY 37 (D)) (ds := []) #[false, false, false, false, false, false, false, false, false, false, false, false] (by kernel_rfl) rfl rfl ⟨P.out, V.out, Y.out⟩ (fun hHeld => ?_)
    generalize WY.drew = W1 at P V Y HB hHeld ⊢
    refine take_ (i := 0) (N := some 12) (v := ?_) (a' := ?_) #[true, false, false, false, false, false, false, false, false, false, false, false] rfl rfl (by kernel_rfl) (fun _ _ _ h => h) (Or.inl ⟨by rfl, ?_⟩) hHeld ?_ ?_
    rotate_left
    · rintro w' ⟨s0, s1, s2⟩
      refine yl_ 40 (.tmp 3) ?ho gP ?hx 40 (A) _ s0 Try.underlying40 rfl IA.out
      case ho => rfl
      case hx => rfl
    rotate_left
    · simp only [Act.put, List.setIfInBounds_toArray, List.set_cons_zero, List.set_cons_succ, i64_w, i32_w]
      rfl
    refine take_ (i := 2) (N := some 14) (v := ?_) (a' := ?_) #[true, false, true, false, false, false, false, false, false, false, false, false] rfl rfl (by kernel_rfl) (fun _ _ _ h => h) (Or.inl ⟨by rfl, ?_⟩) hHeld ?_ ?_
    rotate_left
    · rintro w' ⟨s0, s1, s2⟩
      refine yl_ 37 (.tmp 4) ?ho gV ?hx 37 (B) _ s1 Try.underlying37 rfl IB.out
      case ho => rfl
      case hx => rfl
    rotate_left
    · simp only [Act.put, List.setIfInBounds_toArray, List.set_cons_zero, List.set_cons_succ, i64_w, i32_w]
      rfl
    refine take_ (i := 4) (N := some 16) (v := ?_) (a' := ?_) #[true, false, true, false, true, false, false, false, false, false, false, false] rfl rfl (by kernel_rfl) (fun _ _ _ h => h) (Or.inl ⟨by rfl, ?_⟩) hHeld ?_ ?_
    rotate_left
    · rintro w' ⟨s0, s1, s2⟩
      refine yl_ 37 (.tmp 5) ?ho gY ?hx 37 (D) _ s2 Try.underlying37 rfl ID.out
      case ho => rfl
      case hx => rfl
    rotate_left
    · simp only [Act.put, List.setIfInBounds_toArray, List.set_cons_zero, List.set_cons_succ, i64_w, i32_w]
      rfl
    refine one_ (i := 1) (N := some 13) #[true, true, true, false, true, false, false, false, false, false, false, false] rfl rfl (by kernel_rfl) (by decide) (fun K hK => ?_)
    refine goes_ Try.func17 (by kernel_rfl) rfl #[.agg (A).toArray] (by rfl) rfl rfl (by (try simp only [List.map_toArray, List.map_cons, List.map_nil]); first | done | rfl) ?_
    with_reducible refine (HT.out _).mono ?_
    rintro e W_ ⟨rfl, hb⟩
    refine ⟨_, rfl, ?_⟩
    have P_n := Lib.hid (Blk.below P.out hb)
    have V_n := Lib.hid (Blk.below V.out hb)
    have Y_n := Lib.hid (Blk.below Y.out hb)
    have HB_n := Lib.hid (below_step HB.out hb)
    clear P
    have P := P_n
    clear P_n
    clear V
    have V := V_n
    clear V_n
    clear Y
    have Y := Y_n
    clear Y_n
    clear HB
    have HB := HB_n
    clear HB_n
    clear hb
    refine hK.out _ _ ⟨P.out, V.out, Y.out⟩ (fun hHeld => ?_)
    clear hK K
    refine norm_ (a' := ?_) ?_ ?_
    rotate_left
    · show Act.put _ (some 13) _ = _
      simp only [Act.put, List.setIfInBounds_toArray, List.set_cons_zero, List.set_cons_succ, i64_w, i32_w]
      rfl
    refine one_ (i := 3) (N := some 15) #[true, true, true, true, true, false, false, false, false, false, false, false] rfl rfl (by kernel_rfl) (by decide) (fun K hK => ?_)
    refine goes_ Try.func20 (by kernel_rfl) rfl #[.agg (B).toArray] (by rfl) rfl rfl (by (try simp only [List.map_toArray, List.map_cons, List.map_nil]); first | done | rfl) ?_
    with_reducible refine (HV.out _).mono ?_
    rintro e W_ ⟨rfl, hb⟩
    refine ⟨_, rfl, ?_⟩
    have P_n := Lib.hid (Blk.below P.out hb)
    have V_n := Lib.hid (Blk.below V.out hb)
    have Y_n := Lib.hid (Blk.below Y.out hb)
    have HB_n := Lib.hid (below_step HB.out hb)
    clear P
    have P := P_n
    clear P_n
    clear V
    have V := V_n
    clear V_n
    clear Y
    have Y := Y_n
    clear Y_n
    clear HB
    have HB := HB_n
    clear HB_n
    clear hb
    refine hK.out _ _ ⟨P.out, V.out, Y.out⟩ (fun hHeld => ?_)
    clear hK K
    refine norm_ (a' := ?_) ?_ ?_
    rotate_left
    · show Act.put _ (some 15) _ = _
      simp only [Act.put, List.setIfInBounds_toArray, List.set_cons_zero, List.set_cons_succ, i64_w, i32_w]
      rfl
    refine one_ (i := 5) (N := some 17) #[true, true, true, true, true, true, false, false, false, false, false, false] rfl rfl (by kernel_rfl) (by decide) (fun K hK => ?_)
    refine goes_ Try.func20 (by kernel_rfl) rfl #[.agg (D).toArray] (by rfl) rfl rfl (by (try simp only [List.map_toArray, List.map_cons, List.map_nil]); first | done | rfl) ?_
    with_reducible refine (HY.out _).mono ?_
    rintro e W_ ⟨rfl, hb⟩
    refine ⟨_, rfl, ?_⟩
    have P_n := Lib.hid (Blk.below P.out hb)
    have V_n := Lib.hid (Blk.below V.out hb)
    have Y_n := Lib.hid (Blk.below Y.out hb)
    have HB_n := Lib.hid (below_step HB.out hb)
    clear P
    have P := P_n
    clear P_n
    clear V
    have V := V_n
    clear V_n
    clear Y
    have Y := Y_n
    clear Y_n
    clear HB
    have HB := HB_n
    clear HB_n
    clear hb
    refine hK.out _ _ ⟨P.out, V.out, Y.out⟩ (fun hHeld => ?_)
    clear hK K
    refine norm_ (a' := ?_) ?_ ?_
    rotate_left
    · show Act.put _ (some 17) _ = _
      simp only [Act.put, List.setIfInBounds_toArray, List.set_cons_zero, List.set_cons_succ, i64_w, i32_w]
      rfl
    refine one_ (i := 6) (N := some 18) #[true, true, true, true, true, true, true, false, false, false, false, false] rfl rfl (by kernel_rfl) (by decide) (fun K hK => ?_)
    refine goes_ Try.func19 (by kernel_rfl) rfl #[.agg (A).toArray, .agg (B).toArray, .agg (D).toArray] (by rfl) rfl rfl (by (try simp only [List.map_toArray, List.map_cons, List.map_nil]); first | done | rfl) ?_
    with_reducible refine (HS.out _).mono ?_
    rintro e W_ ⟨rfl, hb⟩
    refine ⟨_, rfl, ?_⟩
    have P_n := Lib.hid (Blk.below P.out hb)
    have V_n := Lib.hid (Blk.below V.out hb)
    have Y_n := Lib.hid (Blk.below Y.out hb)
    have HB_n := Lib.hid (below_step HB.out hb)
    clear P
    have P := P_n
    clear P_n
    clear V
    have V := V_n
    clear V_n
    clear Y
    have Y := Y_n
    clear Y_n
    clear HB
    have HB := HB_n
    clear HB_n
    clear hb
    refine hK.out _ _ ⟨P.out, V.out, Y.out⟩ (fun hHeld => ?_)
    clear hK K
    refine norm_ (a' := ?_) ?_ ?_
    rotate_left
    · show Act.put _ (some 18) _ = _
      simp only [Act.put, List.setIfInBounds_toArray, List.set_cons_zero, List.set_cons_succ, i64_w, i32_w]
      rfl
    refine pure_ (i := 7) (N := some 11) (v := ?_) (a' := ?_) #[true, true, true, true, true, true, true, true, false, false, false, false] rfl rfl (by kernel_rfl) (fun _ _ _ h => h) (Or.inl ⟨by rfl, ?_⟩) ?_ ?_
    rotate_left
    · intro w'
      go_simp
      with_reducible rfl
    rotate_left
    · simp only [Act.put, List.setIfInBounds_toArray, List.set_cons_zero, List.set_cons_succ, i64_w, i32_w]
      rfl
    refine pure_ (i := 8) (N := some 19) (v := ?_) (a' := ?_) #[true, true, true, true, true, true, true, true, true, false, false, false] rfl rfl (by kernel_rfl) (fun _ _ _ h => h) (Or.inl ⟨by rfl, ?_⟩) ?_ ?_
    rotate_left
    · intro w'
      go_simp
      with_reducible rfl
    rotate_left
    · simp only [Act.put, List.setIfInBounds_toArray, List.set_cons_zero, List.set_cons_succ, i64_w, i32_w]
      rfl
    refine pure_ (i := 9) (N := some 20) (v := ?_) (a' := ?_) #[true, true, true, true, true, true, true, true, true, true, false, false] rfl rfl (by kernel_rfl) (fun _ _ _ h => h) (Or.inl ⟨by rfl, ?_⟩) ?_ ?_
    rotate_left
    · intro w'
      go_simp
      with_reducible rfl
    rotate_left
    · simp only [Act.put, List.setIfInBounds_toArray, List.set_cons_zero, List.set_cons_succ, i64_w, i32_w]
      rfl
    refine pure_ (i := 10) (N := some 7) (v := ?_) (a' := ?_) #[true, true, true, true, true, true, true, true, true, true, true, false] rfl rfl (by kernel_rfl) (fun _ _ _ h => h) (Or.inl ⟨by rfl, ?_⟩) ?_ ?_
    rotate_left
    · intro w'
      go_simp
      with_reducible rfl
    rotate_left
    · simp only [Act.put, List.setIfInBounds_toArray, List.set_cons_zero, List.set_cons_succ, i64_w, i32_w]
      rfl
    refine pure_ (i := 11) (N := some 8) (v := ?_) (a' := ?_) #[true, true, true, true, true, true, true, true, true, true, true, true] rfl rfl (by kernel_rfl) (fun _ _ _ h => h) (Or.inl ⟨by rfl, ?_⟩) ?_ ?_
    rotate_left
    · intro w'
      go_simp
      with_reducible rfl
    rotate_left
    · simp only [Act.put, List.setIfInBounds_toArray, List.set_cons_zero, List.set_cons_succ, i64_w, i32_w]
      rfl
    refine done_ (by kernel_rfl) ?_
    go_wp2
    have P_n := Lib.hid (Blk.drew P.out)
    have V_n := Lib.hid (Blk.drew V.out)
    have Y_n := Lib.hid (Blk.drew Y.out)
    have HB_n := Lib.hid (below_drew HB.out)
    clear P
    have P := P_n
    clear P_n
    clear V
    have V := V_n
    clear V_n
    clear Y
    have Y := Y_n
    clear Y_n
    clear HB
    have HB := HB_n
    clear HB_n
    refine start_ (n := 12) (S := fun w' => Blk w' gP 40 (A) ∧ Blk w' gV 37 (B) ∧ Blk w' gY 37 (D)) (ds := []) #[false, false, false, false, false, false, false, false, false, false, false, false] (by kernel_rfl) rfl rfl ⟨P.out, V.out, Y.out⟩ (fun hHeld => ?_)
    generalize W_.drew = W2 at P V Y HB hHeld ⊢
    refine take_ (i := 0) (N := some 22) (v := ?_) (a' := ?_) #[true, false, false, false, false, false, false, false, false, false, false, false] rfl rfl (by kernel_rfl) (fun _ _ _ h => h) (Or.inl ⟨by rfl, ?_⟩) hHeld ?_ ?_
    rotate_left
    · rintro w' ⟨s0, s1, s2⟩
      refine yl_ 40 (.tmp 3) ?ho gP ?hx 40 (A) _ s0 Try.underlying40 rfl IA.out
      case ho => rfl
      case hx => rfl
    rotate_left
    · simp only [Act.put, List.setIfInBounds_toArray, List.set_cons_zero, List.set_cons_succ, i64_w, i32_w]
      rfl
    refine take_ (i := 2) (N := some 24) (v := ?_) (a' := ?_) #[true, false, true, false, false, false, false, false, false, false, false, false] rfl rfl (by kernel_rfl) (fun _ _ _ h => h) (Or.inl ⟨by rfl, ?_⟩) hHeld ?_ ?_
    rotate_left
    · rintro w' ⟨s0, s1, s2⟩
      refine yl_ 37 (.tmp 4) ?ho gV ?hx 37 (B) _ s1 Try.underlying37 rfl IB.out
      case ho => rfl
      case hx => rfl
    rotate_left
    · simp only [Act.put, List.setIfInBounds_toArray, List.set_cons_zero, List.set_cons_succ, i64_w, i32_w]
      rfl
    refine take_ (i := 4) (N := some 26) (v := ?_) (a' := ?_) #[true, false, true, false, true, false, false, false, false, false, false, false] rfl rfl (by kernel_rfl) (fun _ _ _ h => h) (Or.inl ⟨by rfl, ?_⟩) hHeld ?_ ?_
    rotate_left
    · rintro w' ⟨s0, s1, s2⟩
      refine yl_ 37 (.tmp 5) ?ho gY ?hx 37 (D) _ s2 Try.underlying37 rfl ID.out
      case ho => rfl
      case hx => rfl
    rotate_left
    · simp only [Act.put, List.setIfInBounds_toArray, List.set_cons_zero, List.set_cons_succ, i64_w, i32_w]
      rfl
    refine one_ (i := 1) (N := some 23) #[true, true, true, false, true, false, false, false, false, false, false, false] rfl rfl (by kernel_rfl) (by decide) (fun K hK => ?_)
    refine goes_ Try.func17 (by kernel_rfl) rfl #[.agg (A).toArray] (by rfl) rfl rfl (by (try simp only [List.map_toArray, List.map_cons, List.map_nil]); first | done | rfl) ?_
    with_reducible refine (HT.out _).mono ?_
    rintro e W_ ⟨rfl, hb⟩
    refine ⟨_, rfl, ?_⟩
    have P_n := Lib.hid (Blk.below P.out hb)
    have V_n := Lib.hid (Blk.below V.out hb)
    have Y_n := Lib.hid (Blk.below Y.out hb)
    have HB_n := Lib.hid (below_step HB.out hb)
    clear P
    have P := P_n
    clear P_n
    clear V
    have V := V_n
    clear V_n
    clear Y
    have Y := Y_n
    clear Y_n
    clear HB
    have HB := HB_n
    clear HB_n
    clear hb
    refine hK.out _ _ ⟨P.out, V.out, Y.out⟩ (fun hHeld => ?_)
    clear hK K
    refine norm_ (a' := ?_) ?_ ?_
    rotate_left
    · show Act.put _ (some 23) _ = _
      simp only [Act.put, List.setIfInBounds_toArray, List.set_cons_zero, List.set_cons_succ, i64_w, i32_w]
      rfl
    refine one_ (i := 3) (N := some 25) #[true, true, true, true, true, false, false, false, false, false, false, false] rfl rfl (by kernel_rfl) (by decide) (fun K hK => ?_)
    refine goes_ Try.func20 (by kernel_rfl) rfl #[.agg (B).toArray] (by rfl) rfl rfl (by (try simp only [List.map_toArray, List.map_cons, List.map_nil]); first | done | rfl) ?_
    with_reducible refine (HV.out _).mono ?_
    rintro e W_ ⟨rfl, hb⟩
    refine ⟨_, rfl, ?_⟩
    have P_n := Lib.hid (Blk.below P.out hb)
    have V_n := Lib.hid (Blk.below V.out hb)
    have Y_n := Lib.hid (Blk.below Y.out hb)
    have HB_n := Lib.hid (below_step HB.out hb)
    clear P
    have P := P_n
    clear P_n
    clear V
    have V := V_n
    clear V_n
    clear Y
    have Y := Y_n
    clear Y_n
    clear HB
    have HB := HB_n
    clear HB_n
    clear hb
    refine hK.out _ _ ⟨P.out, V.out, Y.out⟩ (fun hHeld => ?_)
    clear hK K
    refine norm_ (a' := ?_) ?_ ?_
    rotate_left
    · show Act.put _ (some 25) _ = _
      simp only [Act.put, List.setIfInBounds_toArray, List.set_cons_zero, List.set_cons_succ, i64_w, i32_w]
      rfl
    refine one_ (i := 5) (N := some 27) #[true, true, true, true, true, true, false, false, false, false, false, false] rfl rfl (by kernel_rfl) (by decide) (fun K hK => ?_)
    refine goes_ Try.func20 (by kernel_rfl) rfl #[.agg (D).toArray] (by rfl) rfl rfl (by (try simp only [List.map_toArray, List.map_cons, List.map_nil]); first | done | rfl) ?_
    with_reducible refine (HY.out _).mono ?_
    rintro e W_ ⟨rfl, hb⟩
    refine ⟨_, rfl, ?_⟩
    have P_n := Lib.hid (Blk.below P.out hb)
    have V_n := Lib.hid (Blk.below V.out hb)
    have Y_n := Lib.hid (Blk.below Y.out hb)
    have HB_n := Lib.hid (below_step HB.out hb)
    clear P
    have P := P_n
    clear P_n
    clear V
    have V := V_n
    clear V_n
    clear Y
    have Y := Y_n
    clear Y_n
    clear HB
    have HB := HB_n
    clear HB_n
    clear hb
    refine hK.out _ _ ⟨P.out, V.out, Y.out⟩ (fun hHeld => ?_)
    clear hK K
    refine norm_ (a' := ?_) ?_ ?_
    rotate_left
    · show Act.put _ (some 27) _ = _
      simp only [Act.put, List.setIfInBounds_toArray, List.set_cons_zero, List.set_cons_succ, i64_w, i32_w]
      rfl
    refine one_ (i := 6) (N := some 28) #[true, true, true, true, true, true, true, false, false, false, false, false] rfl rfl (by kernel_rfl) (by decide) (fun K hK => ?_)
    refine goes_ Try.func21 (by kernel_rfl) rfl #[.agg (A).toArray, .agg (B).toArray, .agg (D).toArray] (by rfl) rfl rfl (by (try simp only [List.map_toArray, List.map_cons, List.map_nil]); first | done | rfl) ?_
    with_reducible refine (HI.out _).mono ?_
    rintro e W_ ⟨rfl, hb⟩
    refine ⟨_, rfl, ?_⟩
    have P_n := Lib.hid (Blk.below P.out hb)
    have V_n := Lib.hid (Blk.below V.out hb)
    have Y_n := Lib.hid (Blk.below Y.out hb)
    have HB_n := Lib.hid (below_step HB.out hb)
    clear P
    have P := P_n
    clear P_n
    clear V
    have V := V_n
    clear V_n
    clear Y
    have Y := Y_n
    clear Y_n
    clear HB
    have HB := HB_n
    clear HB_n
    clear hb
    refine hK.out _ _ ⟨P.out, V.out, Y.out⟩ (fun hHeld => ?_)
    clear hK K
    refine norm_ (a' := ?_) ?_ ?_
    rotate_left
    · show Act.put _ (some 28) _ = _
      simp only [Act.put, List.setIfInBounds_toArray, List.set_cons_zero, List.set_cons_succ, i64_w, i32_w]
      rfl
    refine pure_ (i := 7) (N := some 21) (v := ?_) (a' := ?_) #[true, true, true, true, true, true, true, true, false, false, false, false] rfl rfl (by kernel_rfl) (fun _ _ _ h => h) (Or.inl ⟨by rfl, ?_⟩) ?_ ?_
    rotate_left
    · intro w'
      go_simp
      with_reducible rfl
    rotate_left
    · simp only [Act.put, List.setIfInBounds_toArray, List.set_cons_zero, List.set_cons_succ, i64_w, i32_w]
      rfl
    refine pure_ (i := 8) (N := some 29) (v := ?_) (a' := ?_) #[true, true, true, true, true, true, true, true, true, false, false, false] rfl rfl (by kernel_rfl) (fun _ _ _ h => h) (Or.inl ⟨by rfl, ?_⟩) ?_ ?_
    rotate_left
    · intro w'
      go_simp
      with_reducible rfl
    rotate_left
    · simp only [Act.put, List.setIfInBounds_toArray, List.set_cons_zero, List.set_cons_succ, i64_w, i32_w]
      rfl
    refine pure_ (i := 9) (N := some 30) (v := ?_) (a' := ?_) #[true, true, true, true, true, true, true, true, true, true, false, false] rfl rfl (by kernel_rfl) (fun _ _ _ h => h) (Or.inl ⟨by rfl, ?_⟩) ?_ ?_
    rotate_left
    · intro w'
      go_simp
      with_reducible rfl
    rotate_left
    · simp only [Act.put, List.setIfInBounds_toArray, List.set_cons_zero, List.set_cons_succ, i64_w, i32_w]
      rfl
    refine pure_ (i := 10) (N := some 9) (v := ?_) (a' := ?_) #[true, true, true, true, true, true, true, true, true, true, true, false] rfl rfl (by kernel_rfl) (fun _ _ _ h => h) (Or.inl ⟨by rfl, ?_⟩) ?_ ?_
    rotate_left
    · intro w'
      go_simp
      with_reducible rfl
    rotate_left
    · simp only [Act.put, List.setIfInBounds_toArray, List.set_cons_zero, List.set_cons_succ, i64_w, i32_w]
      rfl
    refine pure_ (i := 11) (N := some 10) (v := ?_) (a' := ?_) #[true, true, true, true, true, true, true, true, true, true, true, true] rfl rfl (by kernel_rfl) (fun _ _ _ h => h) (Or.inl ⟨by rfl, ?_⟩) ?_ ?_
    rotate_left
    · intro w'
      go_simp
      with_reducible rfl
    rotate_left
    · simp only [Act.put, List.setIfInBounds_toArray, List.set_cons_zero, List.set_cons_succ, i64_w, i32_w]
      rfl
    refine done_ (by kernel_rfl) ?_
    go_wp2
    go_ret
    exact ⟨rfl, HB.out⟩

end Go.Proofs.Ythjbeglmdifhdaa.Given

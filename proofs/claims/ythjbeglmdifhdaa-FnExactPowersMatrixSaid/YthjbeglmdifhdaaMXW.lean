/- Walks of functions that the print does not take. -/
import Derived.Test.YthjbeglmdifhdaaProg
import Derived.Below
import Derived.Deep.Draws
import Derived.Deep.AppendLies
import Derived.Maps.AppendAt
import Derived.OwnWalk
import Derived.Laws.BytesArg
import Derived.Laws.MakeOwn
import Derived.Laws.OwnMore
import Derived.Deep.OwnRows
import Derived.Tactics
import Derived.Lib.ConvBytes
import Derived.Laws.Slices
import Derived.WalkKit
import Derived.KernelRfl
import Derived.RowKit3
import Derived.Deep.LoopGhost
import Derived.Deep.QuietTactic
import Derived.BigQuiet
import Derived.WideLaws
import Derived.Deep.DeepCutAuto
import Derived.Deep.CutBlock
import Derived.Deep.RegionHeld3
import Derived.Laws.Rows
import Derived.Lib.AppendStr
import Derived.ArgAppend
import Derived.Laws.IdiomCopy
import Derived.OrdersHeld
import Derived.Laws.BitsLemmas
import Derived.RowKit
import Derived.Lib.Hide
import Derived.WalkSpells
import Derived.Test.YthjbeglmdifhdaaWWords
import Derived.Test.YthjbeglmdifhdaaWLast
import Derived.Test.YthjbeglmdifhdaaWTab
import Derived.Test.YthjbeglmdifhdaaWFour
import Derived.Test.YthjbeglmdifhdaaWQPut
import Derived.Test.YthjbeglmdifhdaaWApart
import Derived.Test.YthjbeglmdifhdaaWArr
import Derived.Test.YthjbeglmdifhdaaWZeros
import Derived.Test.YthjbeglmdifhdaaWFoot
import Derived.Test.YthjbeglmdifhdaaWKept
import Derived.Test.YthjbeglmdifhdaaWShare
import Derived.Test.YthjbeglmdifhdaaWN
import Derived.Test.YthjbeglmdifhdaaWFootNe
import Derived.Test.YthjbeglmdifhdaaWAt
import Derived.Test.YthjbeglmdifhdaaWEqStruct
import Derived.Test.YthjbeglmdifhdaaWRepsOne
import Derived.Test.YthjbeglmdifhdaaWInv
import Derived.Test.YthjbeglmdifhdaaWInvWords
import Derived.Test.YthjbeglmdifhdaaWGuard
import Derived.Test.YthjbeglmdifhdaaWNEv
import Derived.Test.YthjbeglmdifhdaaWMore
import Derived.Test.YthjbeglmdifhdaaN1
namespace Go.Proofs.Ythjbeglmdifhdaa.Given
open Go.RowKit Go.Proofs.YthjbeglmdifhdaaW.PrintWords Go.Proofs.YthjbeglmdifhdaaW.PrintLast Go.Proofs.YthjbeglmdifhdaaW.PrintMore Go.Proofs.Ythjbeglmdifhdaa.NimF Go.Proofs.Ythjbeglmdifhdaa.NimGo
set_option linter.unusedVariables false
set_option linter.unusedSimpArgs false
section
variable {P : Program} {ops : Array Oper} {rest : List Oper} {o : Oper} {a : Act} {Q : Exit → Act → World → Prop}
/-- a block and its cells -/
def Blk (w : World) (g : Nat) (t : TypeId) (L : List Value) : Prop := w.heap[g]? = some (.cells L.toArray t (0, 0))
theorem Blk.cell {w : World} {g : Nat} {t : TypeId} {L : List Value} (h : Blk w g t L) (i : Nat) : w.cell? ⟨g, i, none⟩ = L[i]? := by
  rw [blk_cell h]; simp
theorem Blk.frozen {w : World} {g : Nat} {t : TypeId} {L : List Value} (h : Blk w g t L) (i : Nat) : w.frozen? ⟨g, i, none⟩ = false := blk_frozen h i
theorem Blk.lt {w : World} {g : Nat} {t : TypeId} {L : List Value} (h : Blk w g t L) : g < w.heap.size := blk_lt h
theorem Blk.below {w w1 : World} {g : Nat} {t : TypeId} {L : List Value} (h : Blk w g t L) (hb : Below w.heap.size w w1) : Blk w1 g t L := blk_below h hb
theorem Blk.alloc {w : World} {g : Nat} {t : TypeId} {L : List Value} (h : Blk w g t L) (x : Obj) : Blk (w.alloc x) g t L := blk_alloc h x
theorem Blk.drewN {w : World} {g : Nat} {t : TypeId} {L : List Value} (h : Blk w g t L) (m : Nat) : Blk (w.drewN m) g t L := h
theorem Blk.drew {w : World} {g : Nat} {t : TypeId} {L : List Value} (h : Blk w g t L) : Blk w.drew g t L := h
theorem Blk.new (w : World) (t : TypeId) (L : List Value) : Blk (w.alloc (.cells L.toArray t)) w.heap.size t L := blk_new w _
theorem Blk.set {w : World} {g : Nat} {t : TypeId} {L : List Value} (h : Blk w g t L) (i : Nat) (u : Value) : Blk (w.setCell ⟨g, i, none⟩ u) g t (L.set i u) := by
  have := blk_set h i u
  rw [Blk, this]; simp
theorem Blk.far {w : World} {g g' : Nat} {t : TypeId} {L : List Value} (h : Blk w g t L) (hne : g ≠ g') (i : Nat) (u : Value) : Blk (w.setCell ⟨g', i, none⟩ u) g t L := blk_far h (p := ⟨g', i, none⟩) hne u
theorem add_at (g i j : Nat) : (⟨g, i, none⟩ : Addr).add j = ⟨g, i + j, none⟩ := by unfold Addr.add; split <;> simp_all
/-- some cells of a block, as a value -/
theorem wpList_ldseg (hgd : o.guard = none) (ty : TypeId) (x : Operand) (ho : o.op = .load ty x) (g off n : Nat) (hx : a.eval x = .pointer (some ⟨g, off, none⟩)) {w : World} (t : TypeId) (L : List Value) (d : TypeDesc) (hg : Blk w g t L)
    (hu : P.underlying ty = some d) (hd : (match d with | .struct _ | .array _ _ => true | _ => false) = true) (hi : (P.info? ty).map (·.size) = some n) (hfit : off + n ≤ L.length)
    (h : wpList P ops Q rest (a.put o.dst (.agg ((L.drop off).take n).toArray)) w) : wpList P ops Q (o :: rest) a w := by
  refine wpList_plain hgd fun K hK => ?_
  have hlen : ((L.drop off).take n).length = n := by rw [List.length_take, List.length_drop]; omega
  have hl : (loadCells ⟨g, off, none⟩ ((L.drop off).take n).length).run P w = .ok ((L.drop off).take n).toArray w :=
    run_loadCells_list (P := P) w ⟨g, off, none⟩ _ (fun j v hv => by
      rw [add_at, hg.cell]
      rw [List.getElem?_take] at hv
      by_cases hj : j < n
      · rw [if_pos hj, List.getElem?_drop] at hv; exact hv
      · rw [if_neg hj] at hv; cases hv)
  rw [hlen] at hl
  have hrun : (loadVar ty ⟨g, off, none⟩).run P w = .ok (.agg ((L.drop off).take n).toArray) w := by
    cases hq : P.info? ty with
    | none => simp [hq] at hi
    | some i =>
      have hs : i.size = n := by simpa [hq] using hi
      have hagg : (isAgg ty).run P w = .ok true w := by
        unfold isAgg
        rw [Sem.run_bind, run_underlying hu w]
        cases d <;> simp_all
      simp [loadVar, Sem.run_bind, hagg, sizeOf, typeInfo, hq, hs, hl]
  unfold Oper.wp execOp
  simp only [ho, hx, Instr.loadAt, Instr.sureAddr, Sem.run_bind, Sem.run_pure, Result.andThen_ok, hrun]
  exact hK _ _ h
/-- some cells of a block are written at once -/
theorem wpList_stseg (hgd : o.guard = none) (ty : TypeId) (p : Tmp) (x : Operand) (ho : o.op = .store ty (.tmp p) x) (hN : o.dst = none) (g off : Nat) (hx : a.eval (.tmp p) = .pointer (some ⟨g, off, none⟩)) (seg : List Value) (hy : a.eval x = .agg seg.toArray) {w : World} (t : TypeId) (L : List Value) (hg : Blk w g t L)
    (hi : (P.info? ty).map (·.size) = some seg.length) (hfit : off + seg.length ≤ L.length) (h1 : ∀ q ∈ seg, q.oneCell' = true)
    (h : ∀ w', Blk w' g t (L.take off ++ seg ++ L.drop (off + seg.length)) → (∀ k, k ≠ g → w'.heap[k]? = w.heap[k]?) → (∀ B w0, Below B w0 w → B ≤ g → Below B w0 w') → wpList P ops Q rest a w') : wpList P ops Q (o :: rest) a w := by
  refine wpList_plain hgd fun K hK => ?_
  have hrun := run_store_run (P := P) (w := w) (g := g) (o := off) (e := t) (cur := L.toArray) ty (.agg seg.toArray) seg hg (by simp [Value.cells]) hi (by simpa using hfit) h1
  obtain ⟨cur', b1, b2, b3⟩ := setCells_row seg off w L.toArray hg (by simpa using hfit)
  obtain ⟨s1, s2, s3, s4⟩ := setCells_same g seg off w
  unfold Oper.wp execOp
  simp only [ho, hx, hy, Sem.run_bind, hrun, Result.andThen_ok, Sem.run_pure]
  show K (a.put o.dst undef) (w.setCells g off seg)
  rw [hN]
  refine hK _ _ (h _ ?_ (fun k hk => setCells_far seg off k hk) (fun B w0 hb hB => ⟨s1.trans hb.os, s2.trans hb.tape, s3.trans hb.output, by rw [s4]; exact hb.size, fun i hi => (setCells_far seg off i (by omega)).trans (hb.block i hi)⟩))
  have e : cur' = (L.take off ++ seg ++ L.drop (off + seg.length)).toArray := by
    apply Array.toList_inj.1
    rw [b3]
  rw [Blk, b1, e]
theorem wpList_ldpart (hgd : o.guard = none) (ty : TypeId) (x : Operand) (ho : o.op = .load ty x) (g off n : Nat) (hx : a.eval x = .pointer (some ⟨g, off, none⟩)) (seg : List Value) {w : World} (t : TypeId) (L : List Value) (d : TypeDesc) (hg : Blk w g t L)
    (hu : P.underlying ty = some d) (hd : (match d with | .struct _ | .array _ _ => true | _ => false) = true) (hi : (P.info? ty).map (·.size) = some n) (hfit : off + n ≤ L.length) (hs : (L.drop off).take n = seg)
    (h : wpList P ops Q rest (a.put o.dst (.agg seg.toArray)) w) : wpList P ops Q (o :: rest) a w :=
  wpList_ldseg hgd ty x ho g off n hx t L d hg hu hd hi hfit (by rw [hs]; exact h)
theorem wpList_stpart (hgd : o.guard = none) (ty : TypeId) (p : Tmp) (x : Operand) (ho : o.op = .store ty (.tmp p) x) (hN : o.dst = none) (g off : Nat) (hx : a.eval (.tmp p) = .pointer (some ⟨g, off, none⟩)) (seg : List Value) (hy : a.eval x = .agg seg.toArray) {w : World} (t : TypeId) (L L' : List Value) (hg : Blk w g t L)
    (hi : (P.info? ty).map (·.size) = some seg.length) (hfit : off + seg.length ≤ L.length) (h1 : ∀ q ∈ seg, q.oneCell' = true) (hL : L.take off ++ seg ++ L.drop (off + seg.length) = L')
    (h : ∀ w', Blk w' g t L' → (∀ k, k ≠ g → w'.heap[k]? = w.heap[k]?) → (∀ B w0, Below B w0 w → B ≤ g → Below B w0 w') → wpList P ops Q rest a w') : wpList P ops Q (o :: rest) a w :=
  wpList_stseg hgd ty p x ho hN g off hx seg hy t L hg hi hfit h1 (fun w' hb => h w' (by rw [hL] at hb; exact hb))
theorem wpList_ldall (hgd : o.guard = none) (ty : TypeId) (x : Operand) (ho : o.op = .load ty x) (g : Nat) (hx : a.eval x = .pointer (some ⟨g, 0, none⟩)) {w : World} (t : TypeId) (L : List Value) (d : TypeDesc) (hg : Blk w g t L)
    (hu : P.underlying ty = some d) (hd : (match d with | .struct _ | .array _ _ => true | _ => false) = true) (hi : (P.info? ty).map (·.size) = some L.length)
    (h : wpList P ops Q rest (a.put o.dst (.agg L.toArray)) w) : wpList P ops Q (o :: rest) a w :=
  wpList_ldseg hgd ty x ho g 0 L.length hx t L d hg hu hd hi (by omega) (by simpa using h)
theorem wpList_stall (hgd : o.guard = none) (ty : TypeId) (p : Tmp) (x : Operand) (ho : o.op = .store ty (.tmp p) x) (hN : o.dst = none) (g : Nat) (hx : a.eval (.tmp p) = .pointer (some ⟨g, 0, none⟩)) (seg : List Value) (hy : a.eval x = .agg seg.toArray) {w : World} (t : TypeId) (L : List Value) (hg : Blk w g t L)
    (hi : (P.info? ty).map (·.size) = some seg.length) (hfit : seg.length = L.length) (h1 : ∀ q ∈ seg, q.oneCell' = true)
    (h : ∀ w', Blk w' g t seg → (∀ k, k ≠ g → w'.heap[k]? = w.heap[k]?) → (∀ B w0, Below B w0 w → B ≤ g → Below B w0 w') → wpList P ops Q rest a w') : wpList P ops Q (o :: rest) a w :=
  wpList_stseg hgd ty p x ho hN g 0 hx seg hy t L hg hi (by omega) h1 (fun w' hb => h w' (by
    have e : List.take 0 L ++ seg ++ List.drop (0 + seg.length) L = seg := by
      rw [List.take_zero, List.nil_append, Nat.zero_add, List.drop_eq_nil_of_le (by omega), List.append_nil]
    rw [e] at hb; exact hb))
theorem Blk.other {w w' : World} {g g' : Nat} {t : TypeId} {L : List Value} (h : Blk w g t L) (hf : ∀ k, k ≠ g' → w'.heap[k]? = w.heap[k]?) (hne : g ≠ g') : Blk w' g t L := (hf g hne).trans h
end
/-- numbers of 16 bits as cells -/
def U (l : List Int) : List Value := l.map (Value.int .u16)
theorem U_length (l : List Int) : (U l).length = l.length := by simp [U]
theorem U_get {l : List Int} {n : Nat} (h : n < l.length) : (U l)[n]? = some (.int .u16 (l.getD n 0)) := by simp [U, List.getD, h]
theorem U_set (l : List Int) (i : Nat) (x : Int) : (U l).set i (.int .u16 x) = U (l.set i x) := by simp [U, List.map_set]
theorem U_take (l : List Int) (n : Nat) : (U l).take n = U (l.take n) := by simp [U, List.map_take]
theorem U_drop (l : List Int) (n : Nat) : (U l).drop n = U (l.drop n) := by simp [U, List.map_drop]
theorem U_append (l l' : List Int) : U l ++ U l' = U (l ++ l') := by simp [U]
theorem U_one (l : List Int) : ∀ q ∈ U l, q.oneCell' = true := by
  intro q hq
  simp [U] at hq
  obtain ⟨x, _, rfl⟩ := hq
  rfl
/-- the cells of a matrix -/
def M (r c : Int) (l : List Int) : List Value := .int .i8 r :: .int .i8 c :: U l
theorem M_length (r c : Int) (l : List Int) : (M r c l).length = l.length + 2 := by simp [M, U_length]
theorem M_get {r c : Int} {l : List Int} {n : Nat} (h : n < l.length) : (M r c l)[n + 2]? = some (.int .u16 (l.getD n 0)) := by
  show (U l)[n]? = _; exact U_get h
theorem M_set (r c : Int) (l : List Int) (i : Nat) (x : Int) : (M r c l).set (i + 2) (.int .u16 x) = M r c (l.set i x) := by
  show _ :: _ :: (U l).set i _ = _; rw [U_set]; rfl
theorem M_one (r c : Int) (l : List Int) : ∀ q ∈ M r c l, q.oneCell' = true := by
  intro q hq
  simp only [M, List.mem_cons] at hq
  rcases hq with rfl | rfl | hq
  · rfl
  · rfl
  · exact U_one l q hq
theorem inf26 : (Try.prog.info? 26).map (·.size) = some 6 := by kernel_rfl
theorem inf27 : (Try.prog.info? 27).map (·.size) = some 36 := by kernel_rfl
theorem inf29 : (Try.prog.info? 29).map (·.size) = some 38 := by kernel_rfl
theorem inf37 : (Try.prog.info? 37).map (·.size) = some 6 := by kernel_rfl
theorem inf38 : (Try.prog.info? 38).map (·.size) = some 36 := by kernel_rfl
theorem inf40 : (Try.prog.info? 40).map (·.size) = some 38 := by kernel_rfl
theorem inf46 : (Try.prog.info? 46).map (·.size) = some 6 := by kernel_rfl
/-- the first so many of a list, zeros behind them -/
def pre (l : List Int) (k : Nat) : List Int := l.take k ++ List.replicate (l.length - k) 0
theorem pre_length (l : List Int) (k : Nat) (h : k ≤ l.length) : (pre l k).length = l.length := by
  unfold pre; rw [List.length_append, List.length_take, List.length_replicate]; omega
theorem pre_zero (l : List Int) : pre l 0 = List.replicate l.length 0 := by simp [pre]
theorem pre_all (l : List Int) : pre l l.length = l := by simp [pre]
theorem pre_set (l : List Int) (k : Nat) (h : k < l.length) : (pre l k).set k (l.getD k 0) = pre l (k + 1) := by
  unfold pre
  have e : l.length - k = (l.length - (k + 1)) + 1 := by omega
  have e2 : l.take (k + 1) = l.take k ++ [l[k]] := by rw [List.take_add_one, List.getElem?_eq_getElem h]; rfl
  rw [e, List.replicate_succ, List.set_append_right _ _ (by rw [List.length_take]; omega)]
  have e3 : l.getD k 0 = l[k] := by simp [List.getD, h]
  rw [List.length_take, Nat.min_eq_left (by omega), Nat.sub_self, List.set_cons_zero, e2, e3, List.append_assoc]
  rfl
theorem pre_seg (l : List Int) (k n : Nat) (h : k + n ≤ l.length) : (pre l k).take k ++ (l.drop k).take n ++ (pre l k).drop (k + n) = pre l (k + n) := by
  unfold pre
  have h1 : (l.take k).length = k := by rw [List.length_take]; omega
  have h2 : (l.take k ++ List.replicate (l.length - k) (0 : Int)).drop (k + n) = List.replicate (l.length - (k + n)) 0 := by
    rw [List.drop_append, List.drop_eq_nil_of_le (by omega), List.nil_append, h1, List.drop_replicate]
    congr 1
    omega
  rw [List.take_left' h1, h2, List.take_add]
theorem U_part (l : List Int) (off n : Nat) : ((U l).drop off).take n = U ((l.drop off).take n) := by rw [U_drop, U_take]
theorem U_pre_seg (l : List Int) (k n : Nat) (h : k + n ≤ l.length) : (U (pre l k)).take k ++ U ((l.drop k).take n) ++ (U (pre l k)).drop (k + (U ((l.drop k).take n)).length) = U (pre l (k + n)) := by
  have e : (U ((l.drop k).take n)).length = n := by rw [U_length, List.length_take, List.length_drop]; omega
  rw [e, U_take, U_drop, U_append, U_append, pre_seg l k n h]
theorem part_length (l : List Int) (k n : Nat) (h : k + n ≤ l.length) : ((l.drop k).take n).length = n := by rw [List.length_take, List.length_drop]; omega
theorem M_cells (r c : Int) (l : List Int) (n : Nat) (h : l.length = n) : ((M r c l).drop 2).take n = U l := by
  show (U l).take n = U l
  rw [List.take_of_length_le (by rw [U_length]; omega)]
theorem M_put (r c : Int) (l l' : List Int) (h : l'.length = l.length) : (M r c l).take 2 ++ U l' ++ (M r c l).drop (2 + (U l').length) = M r c l' := by
  rw [List.drop_eq_nil_of_le (by rw [M_length, U_length]; omega), List.append_nil]
  rfl

end Go.Proofs.Ythjbeglmdifhdaa.Given

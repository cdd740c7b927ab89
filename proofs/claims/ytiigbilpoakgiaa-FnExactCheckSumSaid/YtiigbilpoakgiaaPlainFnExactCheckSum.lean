/- The law FnExactCheckSum returns true for all arguments, as a statement on numbers and lists alone. -/
import Derived.Test.YtiigbilpoakgiaaRFnExactCheckSumx1
import Derived.Test.YtiigbilpoakgiaaN1
namespace Go.Proofs.Ytiigbilpoakgiaa.Pure
open Go.RowKit Go.Proofs.Ytiigbilpoakgiaa.RFnExactCheckSum Go.Proofs.YtiigbilpoakgiaaW.PrintWords Go.Proofs.YtiigbilpoakgiaaW.PrintLast Go.Proofs.YtiigbilpoakgiaaW.PrintMore Go.Proofs.Ytiigbilpoakgiaa.NimF Go.Proofs.Ytiigbilpoakgiaa.NimGo Go.Proofs.Ytiigbilpoakgiaa.Given
theorem st {a b : Nat} (ha : a < 65536) (hb : b < 65536) : spec_l01Times.f (a : Int) (b : Int) = some ((nm 4 a b : Nat) : Int) := nimTimes_nat ha hb

theorem it {a b : Nat} (ha : a < 65536) (hb : b < 65536) : impl_times.f (a : Int) (b : Int) = some ((nm 4 a b : Nat) : Int) := nimTimes_nat ha hb

theorem toWord_ev (l : List Int) (h : l.length ≤ 1048576) : ∃ K, ∀ k, K ≤ k → laws_toWord.f k l = some l :=
  to_ev (fun _ _ => rfl) (fun _ _ _ _ => rfl) l (by omega)
theorem eqWord_ev (l : List Int) (h : l.length ≤ 1048576) : ∃ K, ∀ k, K ≤ k → laws_eqWord.f k l l = some true :=
  eq_refl_ev (fun _ _ _ => rfl) (fun _ _ _ _ => rfl) l (by omega)

theorem getD_nat {l : List Int} (h : ∀ x ∈ l, (Lit.int .u16 x).wf = true) {i : Nat} (hi : i < l.length) : ∃ v : Nat, l.getD i 0 = (v : Int) ∧ v < 65536 := by
  have e : l.getD i 0 = l[i] := by simp [List.getD, hi]
  obtain ⟨v, hv, lv⟩ := wf_u16 (h _ (List.getElem_mem hi))
  exact ⟨v, e.trans hv, lv⟩

theorem sums_both (l : List Int) (wl : ∀ x ∈ l, (Lit.int .u16 x).wf = true) (hl : l.length ≤ 7) : ∀ (d i s t : Nat), i + d = l.length → s < 65536 → t < 65536 → ∃ r : Int × Int,
    Ev (fun k => spec_l06Sums.l0 k l (s : Int) (t : Int) (i : Int)) r ∧ Ev (fun k => impl_Word_checks.l0 k (s : Int) (t : Int) l (l.length : Int) (i : Int)) r := by
  intro d
  induction d with
  | zero =>
    intro i s t hi hs ht
    exact ⟨((s : Int), (t : Int)), Ev.step (f := fun _ => some ((s : Int), (t : Int))) (fun k => by simp only [spec_l06Sums.l0]; rw [if_neg (by omega)]) (Ev.now _),
      Ev.step (f := fun _ => some ((s : Int), (t : Int))) (fun k => by simp only [impl_Word_checks.l0]; rw [if_neg (by omega)]) (Ev.now _)⟩
  | succ d ih =>
    intro i s t hi hs ht
    obtain ⟨v, hv, lv⟩ := getD_nat wl (show i < l.length by omega)
    have hw : IntKind.u16.wrap (wrap64 ((i : Int) + 1)) = ((i + 1 : Nat) : Int) := by rw [w64s (by omega), wraps16n (by omega)]
    obtain ⟨r, h1, h2⟩ := ih (i + 1) (s ^^^ v) (t ^^^ nm 4 (i + 1) v) (by omega) (Nat.xor_lt_two_pow (n := 16) hs lv) (Nat.xor_lt_two_pow (n := 16) ht (nm4_lt _ _))
    refine ⟨r, Ev.step (f := fun k => spec_l06Sums.l0 k l ((s ^^^ v : Nat) : Int) ((t ^^^ nm 4 (i + 1) v : Nat) : Int) ((i + 1 : Nat) : Int)) (fun k => ?_) h1,
      Ev.step (f := fun k => impl_Word_checks.l0 k ((s ^^^ v : Nat) : Int) ((t ^^^ nm 4 (i + 1) v : Nat) : Int) l (l.length : Int) ((i + 1 : Nat) : Int)) (fun k => ?_) h2⟩
    · simp only [spec_l06Sums.l0]
      rw [if_pos (by omega), if_pos (by omega), hw, rd_nat, hv, st (by omega) lv, Option.bind_some, xor16 hs lv, xor16 ht (nm4_lt _ _), w64s (by omega)]
    · simp only [impl_Word_checks.l0]
      rw [if_pos (by omega), if_pos (by omega), if_pos (by omega), hw, rd_nat, hv, it (by omega) lv, Option.bind_some, xor16 hs lv, xor16 ht (nm4_lt _ _), w64s (by omega)]
theorem check_same (l : List Int) (wl : ∀ x ∈ l, (Lit.int .u16 x).wf = true) : ∃ K, ∃ r : Int × Int × Int, ∀ k, K ≤ k → spec_CheckSum.f k l = some r ∧ impl_CheckSum.f k l = some r := by
  unfold spec_CheckSum.f impl_CheckSum.f
  by_cases h7 : (l.length : Int) > 7
  · exact ⟨0, _, fun k _ => ⟨by rw [if_pos h7], by rw [if_pos h7]⟩⟩
  · obtain ⟨r, ⟨K1, h1⟩, ⟨K2, h2⟩⟩ := sums_both l wl (by omega) l.length 0 0 0 (by omega) (by omega) (by omega)
    refine ⟨K1 + K2, (r.1, r.2, 0), fun k hk => ⟨?_, ?_⟩⟩
    · have h1' : spec_l06Sums.f k l = some r := h1 k (by omega)
      rw [if_neg h7, h1', Option.bind_some]
    · have h2' : impl_Word_checks.f k l = some r := h2 k (by omega)
      rw [if_neg h7, h2', Option.bind_some]
theorem FnExactCheckSum : laws_FnExactCheckSum.Pure := by
  intro l _ _ wl
  by_cases hb : (l.length : Int) > 1048576
  · exact ⟨0, by unfold laws_FnExactCheckSum.f; rw [if_pos hb]⟩
  have hl : l.length ≤ 1048576 := by omega
  obtain ⟨K1, h1⟩ := toWord_ev l hl
  obtain ⟨K2, h2⟩ := eqWord_ev l hl
  obtain ⟨K3, r, h3⟩ := check_same l wl
  obtain ⟨K, hK⟩ : ∃ K, K = K1 + K2 + K3 := ⟨_, rfl⟩
  refine ⟨K + 1, ?_⟩
  unfold laws_FnExactCheckSum.f
  rw [if_neg hb]
  simp only [Option.bind_some, h1 (K + 1) (by omega), (h3 (K + 1) (by omega)).1, (h3 (K + 1) (by omega)).2, if_true, bne_self_eq_false, laws_FnExactCheckSum.j0, h1 K (by omega), h2 K (by omega), Bool.false_eq_true, if_false]

end Go.Proofs.Ytiigbilpoakgiaa.Pure

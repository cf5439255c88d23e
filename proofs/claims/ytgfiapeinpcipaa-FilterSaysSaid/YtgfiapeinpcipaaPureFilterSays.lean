/- The plain statement of the law FilterSays, without program and memory. No condition. -/
import Derived.Test.YtgfiapeinpcipaaMFx11
import Derived.Test.YtgfiapeinpcipaaPlainFilter
set_option linter.unusedVariables false
set_option linter.unusedSimpArgs false
namespace Go.Proofs.Ytgfiapeinpcipaa.Pure
open Go.RowKit Go.Proofs.Ytgfiapeinpcipaa.MF Go.Proofs.YtgfiapeinpcipaaW.PrintWords Go.Proofs.YtgfiapeinpcipaaW.PrintLast
theorem says_l1 (a1 : ByteArray) (f ones : List Int) (ho : ones.length ≤ 1000000) (want : Bool) (ps : List Int) (i : Nat) (hi : i < ps.length) (r : Bool) : ∀ (d j : Nat) (b : Bool), j + d = ones.length →
    Ev (fun k => forebearlaw11_FilterSays.l0 k a1 f ones (want && (b || (ones.drop j).contains ps[i])) ps (wrap64 ((i : Int) + 1))) r → Ev (fun k => forebearlaw11_FilterSays.l1 k a1 f ones want ps (i : Int) b (j : Int)) r := by
  intro d
  induction d with
  | zero =>
    intro j b hj he
    refine Ev.step (f := fun k => forebearlaw11_FilterSays.l0 k a1 f ones (want && b) ps (wrap64 ((i : Int) + 1))) (fun k => ?_) ?_
    · simp only [forebearlaw11_FilterSays.l1]
      rw [if_neg (by omega)]
      cases want
      · rw [if_neg (by simp)]; rfl
      · rw [if_pos rfl]; rfl
    · rw [List.drop_eq_nil_of_le (by omega)] at he
      simpa using he
  | succ d ih =>
    intro j b hj he
    have hjl : j < ones.length := by omega
    rw [List.drop_eq_getElem_cons hjl, List.contains_cons] at he
    have hw := wnat hjl (by omega)
    cases b
    · refine Ev.step (f := fun k => forebearlaw11_FilterSays.l1 k a1 f ones want ps (i : Int) (ones[j] == ps[i]) ((j + 1 : Nat) : Int)) (fun k => ?_) (ih (j + 1) _ (by omega) ?_)
      · simp only [forebearlaw11_FilterSays.l1]
        rw [if_pos (by omega), if_neg (by simp), if_pos (by omega), if_pos (by omega), if_pos (by omega), rd_nat hjl, rd_nat hi, hw]
      · have e : (ones[j] == ps[i]) = (ps[i] == ones[j]) := by rw [Bool.eq_iff_iff, beq_iff_eq, beq_iff_eq]; exact eq_comm
        rw [e]
        simpa using he
    · refine Ev.step (f := fun k => forebearlaw11_FilterSays.l1 k a1 f ones want ps (i : Int) true ((j + 1 : Nat) : Int)) (fun k => ?_) (ih (j + 1) true (by omega) ?_)
      · simp only [forebearlaw11_FilterSays.l1]
        rw [if_pos (by omega), if_pos (by trivial), hw]
      · simpa using he
theorem says_l0 (a1 : ByteArray) (f ones : List Int) (ho : ones.length ≤ 1000000) (ps : List Int) (hp : ps.length = 3) (may : Bool) (hm : Ev (fun k => filter_Maybe.f k f a1) may) : ∀ (d i : Nat) (want : Bool), i + d = ps.length → (want && (ps.drop i).all fun x => ones.contains x) = may →
    Ev (fun k => forebearlaw11_FilterSays.l0 k a1 f ones want ps (i : Int)) true := by
  intro d
  induction d with
  | zero =>
    intro i want hi he
    rw [List.drop_eq_nil_of_le (by omega)] at he
    refine Ev.step (f := fun k => (filter_Maybe.f k f a1).bind fun t325 => some (t325 == want)) (fun k => ?_) (Ev.bind hm ?_)
    · simp only [forebearlaw11_FilterSays.l0]
      rw [if_neg (by omega), if_pos (by omega)]
    · have : may = want := by rw [← he]; simp
      rw [this]
      simpa using Ev.now true
  | succ d ih =>
    intro i want hi he
    have hil : i < ps.length := by omega
    refine Ev.step (f := fun k => forebearlaw11_FilterSays.l1 k a1 f ones want ps (i : Int) false 0) (fun k => ?_) ?_
    · simp only [forebearlaw11_FilterSays.l0]
      rw [if_pos (by omega)]
    · refine says_l1 a1 f ones ho want ps i hil true _ 0 false (Nat.zero_add _) ?_
      rw [wnat hil (by omega), List.drop_zero, Bool.false_or]
      refine ih (i + 1) _ (by omega) ?_
      rw [List.drop_eq_getElem_cons hil, List.all_cons] at he
      rw [← he, Bool.and_assoc]
theorem FilterSays : forebearlaw11_FilterSays.Pure := by
  intro l0 a1 g g1
  refine Ev.rounds ?_
  unfold forebearlaw11_FilterSays.f
  refine Ev.bind awake_ev ?_
  refine Ev.congr (fun k => by rw [if_pos rfl]) ?_
  unfold forebearlaw11_few.f
  simp only [Option.bind_some]
  by_cases c : (l0.length : Int) ≤ 200
  · rw [decide_eq_true c]
    refine Ev.step (f := fun k => (forebearref11_Paths.f k l0).bind fun bt308 => ((filter_Make.f k l0).bind fun t312 => (if bt308.2 > 8 then (if (t312.length : Int) = 1 then (if 0 < (t312.length : Int) then (if (rd t312 0) = 2 then ((filter_Maybe.f k t312 a1).bind fun t316 => (some t316)) else (some false)) else (none)) else (some false)) else ((filter_Bits.f t312).bind fun t317 => ((forebearref11_Set.f k bt308.1 t317).bind fun t318 => ((filter_Bits.f t312).bind fun t321 => ((filter_Positions.f k a1 t321).bind fun t322 => (forebearlaw11_FilterSays.l0 k a1 t312 t318 true t322 0)))))))) (fun k => ?_) (Ev.bind (refpaths_ev l0 (by omega)) (Ev.bind (make_ev l0 (by omega) g.2.2) ?_))
    · simp only [forebearlaw11_FilterSays.j0]
      rw [if_neg (by simp)]
    · dsimp only
      have hlen := mkF_len l0 (by omega)
      have hmay := maybe_ev (mkF l0) (mkF_bytes l0) (by omega) a1 g1
      by_cases c2 : 8 < (good l0).length
      · have e : mkF l0 = [2] := by unfold mkF; rw [if_pos c2]
        have e0 : mayL [2] (posL (idP (bytesOf a1)) (bitsN [2])) = true := by
          rw [bits_two]; unfold posL; rw [if_pos (by omega)]; rfl
        rw [e, e0] at hmay
        rw [e]
        refine Ev.congr (f := fun k => (filter_Maybe.f k [2] a1).bind fun t316 => some t316) (fun k => ?_) (Ev.bind hmay (Ev.now true))
        rw [if_pos (by omega), if_pos (by simp), if_pos (by simp), if_pos (by simp [rd])]
      · have e : mkF l0 = rowS (inL (onesL (allB l0) ((8 * wide (allB l0).length : Nat) : Int))) (wide (allB l0).length) := by unfold mkF; rw [if_neg c2]
        have hw : 1 ≤ wide (allB l0).length := by unfold wide; omega
        have hbits : bitsN (mkF l0) = ((8 * wide (allB l0).length : Nat) : Int) := by rw [e, rowS_bits _ _ hw]
        have hB := bits_f (mkF l0) (by omega)
        rw [hbits] at hB hmay
        have hal := allB_len l0
        have hwl : wide (allB l0).length ≤ 20000 := by unfold wide; omega
        have hol := ones_len (allB l0) ((8 * wide (allB l0).length : Nat) : Int)
        have hm2 := may_row (inL (onesL (allB l0) ((8 * wide (allB l0).length : Nat) : Int))) (wide (allB l0).length) hw (idP (bytesOf a1))
        rw [← e, hbits] at hm2
        refine Ev.congr (fun k => by rw [if_neg (by omega), hB, Option.bind_some]) ?_
        refine Ev.bind (refset_ev (allB l0) (by omega) (fun p hp => by have := allB_size l0 p hp; omega) _ (by omega)) ?_
        simp only [Option.bind_some]
        refine Ev.bind (positions_ev a1 g1 _ (by omega)) ?_
        refine says_l0 a1 (mkF l0) _ (by omega) _ (posL_len _ _ (by omega)) _ hmay _ 0 true (Nat.zero_add _) ?_
        rw [hm2, List.drop_zero, Bool.true_and, Bool.eq_iff_iff, List.all_eq_true, List.all_eq_true]
        have hx : ∀ x ∈ posL (idP (bytesOf a1)) ((8 * wide (allB l0).length : Nat) : Int), inL (onesL (allB l0) ((8 * wide (allB l0).length : Nat) : Int)) x.toNat = (onesL (allB l0) ((8 * wide (allB l0).length : Nat) : Int)).contains x := by
          intro x hx
          have hr := posL_range _ _ x hx
          unfold inL
          rw [show ((x.toNat : Nat) : Int) = x from by omega]
        constructor
        · intro h x hx'; rw [hx x hx']; exact h x hx'
        · intro h x hx'; rw [← hx x hx']; exact h x hx'
  · rw [decide_eq_false c]
    refine Ev.step (f := fun k => (forebearlaw11_awake.f k).bind fun t307 => some t307) (fun k => ?_) (Ev.bind awake_ev (Ev.now true))
    simp only [forebearlaw11_FilterSays.j0]
    rw [if_pos (by simp)]
end Go.Proofs.Ytgfiapeinpcipaa.Pure

/- The fixed answers of layer 11, and which filters are one, in plain Lean. No condition. -/
import Derived.Test.YtgfiapeinpcipaaPlainMade
import Derived.Test.YtgfiapeinpcipaaMFx3
set_option linter.unusedVariables false
set_option linter.unusedSimpArgs false
namespace Go.Proofs.Ytgfiapeinpcipaa.Pure
open Go.RowKit Go.Proofs.Ytgfiapeinpcipaa.MF Go.Proofs.Ytgfiapeinpcipaa.Opening Go.Proofs.YtgfiapeinpcipaaW.PrintWords Go.Proofs.YtgfiapeinpcipaaW.PrintLast Go.Proofs.YtgfiapeinpcipaaW.PrintMore
theorem sd_rising {l : List ByteArray} (h : Rise (keys l)) : sd l = l := rise_ext (sd_rise l) h (mem_sd l)
theorem sd_nil : sd [] = [] := sd_rising (by unfold Rise; simp [keys])
theorem mkF_nil : mkF [] = [1, 0] := by
  have e1 : good [] = [] := by unfold good; rw [sd_nil]; rfl
  have e2 : allB [] = [] := by unfold allB; rw [List.flatMap_nil, sd_nil]
  unfold mkF
  rw [e1, e2]
  rfl
theorem good_len (l : List ByteArray) : (good l).length ≤ l.length := by
  have := sd_len l
  have := List.length_filter_le isB (sd l)
  unfold good; omega
theorem bits_two : bitsN [2] = 0 := rfl
theorem mkF_slash : bitsN (mkF [(⟨#[97, 47, 98]⟩ : ByteArray)]) = 24 := by
  have hg := good_len [(⟨#[97, 47, 98]⟩ : ByteArray)]
  have hk : partsK (key (⟨#[97, 47, 98]⟩ : ByteArray)) = [[97], [97, 47, 98]] := by decide
  have hp : partsB (⟨#[97, 47, 98]⟩ : ByteArray) = [ofK [97], ofK [97, 47, 98]] := by unfold partsB; rw [hk]; rfl
  have ha : allB [(⟨#[97, 47, 98]⟩ : ByteArray)] = [ofK [97], ofK [97, 47, 98]] := by
    unfold allB
    rw [List.flatMap_cons, List.flatMap_nil, List.append_nil, hp]
    refine sd_rising ?_
    show Rise [key (ofK [97]), key (ofK [97, 47, 98])]
    rw [key_ofK, key_ofK]
    unfold Rise
    decide
  unfold mkF
  rw [if_neg (by simp at hg; omega), ha, rowS_bits _ _ (by decide)]
  rfl
theorem mkF_bytes (l : List ByteArray) : ∀ y ∈ mkF l, 0 ≤ y ∧ y < 256 := by
  unfold mkF
  split
  · intro y hy; rw [List.mem_singleton.1 hy]; omega
  · exact rowS_bytes _ _
theorem mkF_len (l : List ByteArray) (h : l.length ≤ 2000) : (mkF l).length ≤ 1000000 := by
  unfold mkF
  split
  · simp
  · have := allB_len l
    rw [rowS_len]
    unfold wide; omega
theorem may_row (S : Nat → Bool) (w : Nat) (hw : 1 ≤ w) (id : Int) : mayL (rowS S w) (posL id (bitsN (rowS S w))) = (posL id ((8 * w : Nat) : Int)).all fun x => S x.toNat := by
  rw [rowS_bits S w hw]
  unfold mayL
  rw [Bool.eq_iff_iff, List.all_eq_true, List.all_eq_true]
  have hb : ∀ x ∈ posL id ((8 * w : Nat) : Int), bitAt (rowS S w) x = S x.toNat := by
    intro x hx
    have hr := posL_range _ _ x hx
    exact rowS_bit S w x hr.1 (by omega)
  constructor
  · intro h x hx; rw [← hb x hx]; exact h x hx
  · intro h x hx; rw [hb x hx]; exact h x hx
theorem awake_ev : Ev (fun k => forebearlaw11_awake.f k) true := by
  unfold forebearlaw11_awake.f
  refine Ev.bind (make_ev [] (by simp) (by simp)) ?_
  rw [mkF_nil]
  refine Ev.congr (f := fun k => (filter_Make.f k [(⟨#[97, 47, 98]⟩ : ByteArray)]).bind fun t172 => ((filter_Bits.f t172).bind fun t175 => (if t175 = 24 then ((filter_Maybe.f k (([2] : List Int)) (⟨#[97]⟩ : ByteArray)).bind fun t179 => (if t179 = true then ((filter_Positions.f k (⟨#[97]⟩ : ByteArray) 9).bind fun t180 => (if (t180.length : Int) = 3 then ((filter_Maybe.f k [1, 0] (⟨#[97]⟩ : ByteArray)).bind fun t183 => (some (!t183))) else (some false))) else (some false))) else (some false)))) (fun k => ?_) ?_
  · rw [if_pos (by simp), if_pos (by simp), if_pos (by simp [rd]), if_pos (by simp), if_pos (by simp [rd])]
  · have s1 : ((⟨#[97, 47, 98]⟩ : ByteArray)).size = 3 := rfl
    have s2 : ((⟨#[97]⟩ : ByteArray)).size = 1 := rfl
    refine Ev.bind (make_ev [(⟨#[97, 47, 98]⟩ : ByteArray)] (by simp) (by intro p hp; rw [List.mem_singleton.1 hp, s1]; omega)) ?_
    have hb := bits_f (mkF [(⟨#[97, 47, 98]⟩ : ByteArray)]) (by have := mkF_len [(⟨#[97, 47, 98]⟩ : ByteArray)] (by simp); omega)
    rw [mkF_slash] at hb
    rw [hb]
    simp only [Option.bind_some]
    refine Ev.congr (fun k => by rw [if_pos (by trivial)]) ?_
    refine Ev.bind (maybe_ev [2] (by simp) (by simp) (⟨#[97]⟩ : ByteArray) (by rw [s2]; omega)) ?_
    have e0 : mayL [2] (posL (idP (bytesOf (⟨#[97]⟩ : ByteArray))) (bitsN [2])) = true := by
      rw [bits_two]; unfold posL; rw [if_pos (by omega)]; rfl
    rw [e0]
    refine Ev.congr (fun k => by rw [if_pos rfl]) ?_
    refine Ev.bind (positions_ev (⟨#[97]⟩ : ByteArray) (by rw [s2]; omega) 9 (by omega)) ?_
    rw [posL_len _ _ (by omega)]
    refine Ev.congr (fun k => by rw [if_pos (by rfl)]) ?_
    refine Ev.bind (maybe_ev [1, 0] (by simp) (by simp) (⟨#[97]⟩ : ByteArray) (by rw [s2]; omega)) ?_
    have e1 : ([1, 0] : List Int) = rowS (fun _ => false) 1 := by rw [rowS_none]; rfl
    have e2 : mayL [1, 0] (posL (idP (bytesOf (⟨#[97]⟩ : ByteArray))) (bitsN [1, 0])) = false := by
      rw [e1, may_row _ _ (by omega)]
      unfold posL
      rw [if_neg (by omega)]
      rfl
    rw [e2]
    exact Ev.now true
theorem mkF_ext {l m : List ByteArray} (h : ∀ x, isB x = true → (x ∈ l ↔ x ∈ m)) : mkF l = mkF m := by
  have e1 : good l = good m := by
    rw [good_is, good_is]
    refine sd_ext fun x => ?_
    rw [List.mem_filter, List.mem_filter]
    constructor
    · rintro ⟨a, b⟩; exact ⟨(h x b).1 a, b⟩
    · rintro ⟨a, b⟩; exact ⟨(h x b).2 a, b⟩
  have e2 : allB l = allB m := by
    unfold allB
    refine sd_ext fun x => ?_
    rw [List.mem_flatMap, List.mem_flatMap]
    have hb : ∀ p, x ∈ partsB p → isB p = true := fun p hp => (partsB_some p).1 (List.length_pos_of_mem hp)
    constructor
    · rintro ⟨p, a, b⟩; exact ⟨p, (h p (hb p b)).1 a, b⟩
    · rintro ⟨p, a, b⟩; exact ⟨p, (h p (hb p b)).2 a, b⟩
  unfold mkF
  rw [e1, e2]
/-- A path of the filter is never missed. -/
theorem may_part (l : List ByteArray) (x : ByteArray) (h : x ∈ allB l) : mayL (mkF l) (posL (idP (bytesOf x)) (bitsN (mkF l))) = true := by
  unfold mkF
  by_cases c : 8 < (good l).length
  · rw [if_pos c, bits_two]; unfold posL; rw [if_pos (by omega)]; rfl
  · rw [if_neg c, may_row _ _ (by unfold wide; omega), List.all_eq_true]
    intro y hy
    have hr := posL_range _ _ y hy
    have : ((y.toNat : Nat) : Int) = y := by omega
    unfold inL
    rw [this, List.contains_iff_mem]
    exact List.mem_flatMap.2 ⟨x, h, hy⟩
end Go.Proofs.Ytgfiapeinpcipaa.Pure

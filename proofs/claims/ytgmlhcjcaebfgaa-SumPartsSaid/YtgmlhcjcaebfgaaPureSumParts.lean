/- The plain statement of the law SumParts, without program and memory: however bytes are cut into parts, their ID and their check sum are the same. No condition. -/
import Derived.Test.YtgmlhcjcaebfgaaMAx2
import Derived.Test.YtgmlhcjcaebfgaaPlainSum
namespace Go.Proofs.Ytgmlhcjcaebfgaa.Pure
open Go.RowKit Go.Proofs.Ytgmlhcjcaebfgaa.MA Go.Proofs.YtgmlhcjcaebfgaaW.PrintWords Go.Proofs.YtgmlhcjcaebfgaaW.PrintLast

theorem parts_l0 (a : Int) (ps : List (List Int)) (hps : ps.length ≤ 9223372036854775807) (hp : ∀ p ∈ ps, p.length ≤ 140737488351232) (hb : ∀ p ∈ ps, ∀ y ∈ p, 0 ≤ y ∧ y < 256) : ∀ (d i : Nat), i + d = ps.length → (ps.take i).flatten.length ≤ 100000 →
    Ev (fun k => forebearlaw01_SumParts.l0 k a ps (ps.take i).flatten (i : Int)) true := by
  intro d
  induction d with
  | zero =>
    intro i hi ha
    obtain rfl : i = ps.length := by omega
    rw [List.take_length] at ha ⊢
    refine Ev.step (f := fun k => (sum_ID.f k a ps).bind fun t134 => ((sum_ID_v1_1.f k a ps.flatten).bind fun t135 => (if t134 = t135 then ((sum_Check.f ps).bind fun t136 => ((sum_Check.f (([ps.flatten] : List (List Int)))).bind fun t140 => (some (t136 == t140)))) else (some false)))) (fun k => ?_) ?_
    · simp only [forebearlaw01_SumParts.l0]; rw [if_neg (by omega)]
    · refine Ev.bind (id_ev a ps hps (fun p hq => Nat.le_trans (hp p hq) (by decide))) ?_
      refine Ev.bind (f := fun k t135 => (if idOf a ps = t135 then ((sum_Check.f ps).bind fun t136 => ((sum_Check.f (([ps.flatten] : List (List Int)))).bind fun t140 => (some (t136 == t140)))) else (some false))) (id_ev a [ps.flatten] (by simp) (fun p hq => by rw [List.mem_singleton.1 hq]; omega)) ?_
      rw [if_pos (idOf_flatten a ps), check_eq ps hb, check_eq [ps.flatten] (fun p hq y hy => by
        rw [List.mem_singleton.1 hq] at hy
        obtain ⟨q, hq2, hy2⟩ := List.mem_flatten.1 hy
        exact hb q hq2 y hy2)]
      have h : (checkOf ps.flatten == checkOf [ps.flatten].flatten) = true := by simp
      simp only [Option.bind_some, h]
      exact Ev.now true
  | succ d ih =>
    intro i hi ha
    have hlt : i < ps.length := by omega
    have hpl := hp ps[i] (List.getElem_mem hlt)
    by_cases h1 : (ps[i].length : Int) > wrap64 (100000 - ((ps.take i).flatten.length : Int))
    · refine Ev.step (f := fun _ => some true) (fun k => ?_) (Ev.now true)
      simp only [forebearlaw01_SumParts.l0]
      rw [if_pos (by omega), if_pos (by omega), rdL_nat hlt, if_pos h1]
    · have h1' := h1
      unfold wrap64 at h1'
      by_cases h2 : (i : Int) ≥ 10000
      · refine Ev.step (f := fun _ => some true) (fun k => ?_) (Ev.now true)
        simp only [forebearlaw01_SumParts.l0]
        rw [if_pos (by omega), if_pos (by omega), rdL_nat hlt, if_neg h1, if_pos h2]
      · have ht : (ps.take (i + 1)).flatten = (ps.take i).flatten ++ ps[i] := by
          rw [List.take_succ_eq_append_getElem hlt, List.flatten_append]; simp
        refine Ev.step (f := fun k => forebearlaw01_SumParts.l0 k a ps (ps.take (i + 1)).flatten ((i + 1 : Nat) : Int)) (fun k => ?_) (ih (i + 1) (by omega) (by rw [ht, List.length_append]; omega))
        simp only [forebearlaw01_SumParts.l0]
        rw [if_pos (by omega), if_pos (by omega), rdL_nat hlt, if_neg h1, if_neg h2, if_pos (by omega), wrap_succ (by omega), ht]

theorem SumParts : forebearlaw01_SumParts.Pure := by
  intro a ps _ hl
  refine Ev.rounds ?_
  refine Ev.bind awake_ev ?_
  refine Ev.congr (fun k => if_pos rfl) ?_
  exact parts_l0 a ps hl.2.1 (fun p hp => by have := (hl.2.2 p hp).1; omega) (fun p hp => u8_range (hl.2.2 p hp).2.2) ps.length 0 (by omega) (by simp)

end Go.Proofs.Ytgmlhcjcaebfgaa.Pure

/- Laid by this claim's own program (myprint) out of the translation: functions that the laws of the group T reach, each as a plain function, with the proof that the Go code comes to it. No condition. -/
import Derived.Test.YtjnefjggmeieaaaMTx0
import Derived.Test.YtjnefjggmeieaaaMTx1
import Derived.Test.YtjnefjggmeieaaaMTx4
import Derived.Test.YtjnefjggmeieaaaMTx6
import Derived.Test.YtjnefjggmeieaaaMTx8
namespace Go.Proofs.Ytjnefjggmeieaaa.MT
open Go.Proofs.Ytjnefjggmeieaaa.Opening
open Go.RowKit Go.Proofs.YtjnefjggmeieaaaW.PrintWords Go.Proofs.YtjnefjggmeieaaaW.PrintLast Go.Proofs.YtjnefjggmeieaaaW.PrintMore
attribute [local go_sem] max2_int min2_int max_two min_two max_three min_three max_four min_four   -- for this text's walks alone
set_option linter.unusedVariables false
set_option linter.unusedSimpArgs false

attribute [local go_sem high] eqA51
/-! ### forebearlaw10_awake: function 8 -/
def forebearlaw10_awake.f (k : Nat)  : Option (Bool) := (some (([(⟨(⟨#[120]⟩ : ByteArray), 1⟩ : S38), (⟨(⟨#[121]⟩ : ByteArray), 2⟩ : S38)] : List (S38)) : List (S38))).bind fun y179 => ((some (([(⟨(⟨#[121]⟩ : ByteArray), 3⟩ : S38), (⟨(⟨#[122]⟩ : ByteArray), 1⟩ : S38)] : List (S38)) : List (S38))).bind fun y182 => ((tree_Diff.f k y179 y182 ([] : List ByteArray)).bind fun t185 => ((tree_Origin.f k y179 y182 (⟨#[122]⟩ : ByteArray)).bind fun bt188 => ((tree_Apply.f k y179 (([(⟨(⟨#[120]⟩ : ByteArray), 1, 0⟩ : S51)] : List (S51)))).bind fun bt193 => (if (t185.length : Int) = 3 then (if 0 < (t185.length : Int) then (if ((((rd_T51 t185 0).f0).toList) == ([120] : List UInt8) && (((rd_T51 t185 0).f1) == 1 && (((rd_T51 t185 0).f2) == 0))) = true then (if 2 < (t185.length : Int) then (if ((((rd_T51 t185 2).f0).toList) == ([122] : List UInt8) && (((rd_T51 t185 2).f1) == 0 && (((rd_T51 t185 2).f2) == 1))) = true then (if bt188.2 = true then (if bt188.1.toList = ([120] : List UInt8) then ((tree_Touched.f k (([(⟨(⟨#[112, 47, 113]⟩ : ByteArray), 0, 0⟩ : S51)] : List (S51)))).bind fun t202 => (if (t202.length : Int) = 2 then (if bt193.2 = 0 then (if (bt193.1.length : Int) = 1 then ((tree_Same.f k y179 y182 ([] : List ByteArray)).bind fun t205 => (some (!t205))) else (some false)) else (some false)) else (some false))) else (some false)) else (some false)) else (some false)) else (none)) else (some false)) else (none)) else (some false))))))
theorem forebearlaw10_awake.mono : ∀ k, LeO (forebearlaw10_awake.f k ) (forebearlaw10_awake.f (k + 1) ) := by
  intro  k
  unfold forebearlaw10_awake.f
  repeat' first
      | (with_reducible exact tree_Apply.mono _ _ _)
      | (with_reducible exact tree_Diff.mono _ _ _ _)
      | (with_reducible exact tree_Origin.mono _ _ _ _)
      | (with_reducible exact tree_Same.mono _ _ _ _)
      | (with_reducible exact tree_Touched.mono _ _)
      | (with_reducible exact LeO.refl _)
      | (with_reducible exact LeO.none _)
      | (with_reducible refine LeO.ite ?_ ?_)
      | (with_reducible refine LeO.bind ?_ (fun _ => ?_))
      | exact tree_Apply.mono _ _ _
      | exact tree_Diff.mono _ _ _ _
      | exact tree_Origin.mono _ _ _ _
      | exact tree_Same.mono _ _ _ _
      | exact tree_Touched.mono _ _
      | exact LeO.none _
      | refine LeO.ite ?_ ?_
      | refine LeO.bind ?_ (fun _ => ?_)
set_option maxHeartbeats 8000000 in
set_option maxRecDepth 100000 in
theorem forebearlaw10_awake.calls (k : Nat)  (r : Bool) (w : World) (h : forebearlaw10_awake.f k  = some r) (hr_ : r = true := by rfl) :
    Calls Try.prog 8 #[] w fun e w' => e = .returned (.bool r) ∧ Below w.heap.size w w' := by
  have hu38 := Try.underlying38
  have hu46 := Try.underlying46
  have hu51 := Try.underlying51
  have HB := Aside0.mk (Below.refl w.heap.size w)
  have HR_ := Aside0.mk hr_
  clear hr_
  have H : ((some (([(⟨(⟨#[120]⟩ : ByteArray), 1⟩ : S38), (⟨(⟨#[121]⟩ : ByteArray), 2⟩ : S38)] : List (S38)) : List (S38))).bind fun y179 => ((some (([(⟨(⟨#[121]⟩ : ByteArray), 3⟩ : S38), (⟨(⟨#[122]⟩ : ByteArray), 1⟩ : S38)] : List (S38)) : List (S38))).bind fun y182 => ((tree_Diff.f k y179 y182 ([] : List ByteArray)).bind fun t185 => ((tree_Origin.f k y179 y182 (⟨#[122]⟩ : ByteArray)).bind fun bt188 => ((tree_Apply.f k y179 (([(⟨(⟨#[120]⟩ : ByteArray), 1, 0⟩ : S51)] : List (S51)))).bind fun bt193 => (if (t185.length : Int) = 3 then (if 0 < (t185.length : Int) then (if ((((rd_T51 t185 0).f0).toList) == ([120] : List UInt8) && (((rd_T51 t185 0).f1) == 1 && (((rd_T51 t185 0).f2) == 0))) = true then (if 2 < (t185.length : Int) then (if ((((rd_T51 t185 2).f0).toList) == ([122] : List UInt8) && (((rd_T51 t185 2).f1) == 0 && (((rd_T51 t185 2).f2) == 1))) = true then (if bt188.2 = true then (if bt188.1.toList = ([120] : List UInt8) then ((tree_Touched.f k (([(⟨(⟨#[112, 47, 113]⟩ : ByteArray), 0, 0⟩ : S51)] : List (S51)))).bind fun t202 => (if (t202.length : Int) = 2 then (if bt193.2 = 0 then (if (bt193.1.length : Int) = 1 then ((tree_Same.f k y179 y182 ([] : List ByteArray)).bind fun t205 => (some (!t205))) else (some false)) else (some false)) else (some false))) else (some false)) else (some false)) else (some false)) else (none)) else (some false)) else (none)) else (some false))))))) = some r := h
  clear h
  obtain ⟨y179, hy179⟩ : ∃ y_ : List (S38), y_ = (([(⟨(⟨#[120]⟩ : ByteArray), 1⟩ : S38), (⟨(⟨#[121]⟩ : ByteArray), 2⟩ : S38)] : List (S38))) := ⟨_, rfl⟩
  replace H : ((some (([(⟨(⟨#[121]⟩ : ByteArray), 3⟩ : S38), (⟨(⟨#[122]⟩ : ByteArray), 1⟩ : S38)] : List (S38)) : List (S38))).bind fun y182 => ((tree_Diff.f k y179 y182 ([] : List ByteArray)).bind fun t185 => ((tree_Origin.f k y179 y182 (⟨#[122]⟩ : ByteArray)).bind fun bt188 => ((tree_Apply.f k y179 (([(⟨(⟨#[120]⟩ : ByteArray), 1, 0⟩ : S51)] : List (S51)))).bind fun bt193 => (if (t185.length : Int) = 3 then (if 0 < (t185.length : Int) then (if ((((rd_T51 t185 0).f0).toList) == ([120] : List UInt8) && (((rd_T51 t185 0).f1) == 1 && (((rd_T51 t185 0).f2) == 0))) = true then (if 2 < (t185.length : Int) then (if ((((rd_T51 t185 2).f0).toList) == ([122] : List UInt8) && (((rd_T51 t185 2).f1) == 0 && (((rd_T51 t185 2).f2) == 1))) = true then (if bt188.2 = true then (if bt188.1.toList = ([120] : List UInt8) then ((tree_Touched.f k (([(⟨(⟨#[112, 47, 113]⟩ : ByteArray), 0, 0⟩ : S51)] : List (S51)))).bind fun t202 => (if (t202.length : Int) = 2 then (if bt193.2 = 0 then (if (bt193.1.length : Int) = 1 then ((tree_Same.f k y179 y182 ([] : List ByteArray)).bind fun t205 => (some (!t205))) else (some false)) else (some false)) else (some false))) else (some false)) else (some false)) else (some false)) else (none)) else (some false)) else (none)) else (some false)))))) = some r := by first | (rw [hy179]; with_reducible exact H) | (have H2_ := (Option.bind_some _ _).symm.trans H; rw [hy179]; with_reducible exact H2_) | (have H2_ := (Option.bind_some _ _).symm.trans H; with_reducible exact H2_) | with_reducible exact H | (rw [hy179]; exact H) | exact H
  have Ny179 := Aside0.mk hy179
  clear hy179
  obtain ⟨y182, hy182⟩ : ∃ y_ : List (S38), y_ = (([(⟨(⟨#[121]⟩ : ByteArray), 3⟩ : S38), (⟨(⟨#[122]⟩ : ByteArray), 1⟩ : S38)] : List (S38))) := ⟨_, rfl⟩
  replace H : ((tree_Diff.f k y179 y182 ([] : List ByteArray)).bind fun t185 => ((tree_Origin.f k y179 y182 (⟨#[122]⟩ : ByteArray)).bind fun bt188 => ((tree_Apply.f k y179 (([(⟨(⟨#[120]⟩ : ByteArray), 1, 0⟩ : S51)] : List (S51)))).bind fun bt193 => (if (t185.length : Int) = 3 then (if 0 < (t185.length : Int) then (if ((((rd_T51 t185 0).f0).toList) == ([120] : List UInt8) && (((rd_T51 t185 0).f1) == 1 && (((rd_T51 t185 0).f2) == 0))) = true then (if 2 < (t185.length : Int) then (if ((((rd_T51 t185 2).f0).toList) == ([122] : List UInt8) && (((rd_T51 t185 2).f1) == 0 && (((rd_T51 t185 2).f2) == 1))) = true then (if bt188.2 = true then (if bt188.1.toList = ([120] : List UInt8) then ((tree_Touched.f k (([(⟨(⟨#[112, 47, 113]⟩ : ByteArray), 0, 0⟩ : S51)] : List (S51)))).bind fun t202 => (if (t202.length : Int) = 2 then (if bt193.2 = 0 then (if (bt193.1.length : Int) = 1 then ((tree_Same.f k y179 y182 ([] : List ByteArray)).bind fun t205 => (some (!t205))) else (some false)) else (some false)) else (some false))) else (some false)) else (some false)) else (some false)) else (none)) else (some false)) else (none)) else (some false))))) = some r := by first | (rw [hy182]; with_reducible exact H) | (have H2_ := (Option.bind_some _ _).symm.trans H; rw [hy182]; with_reducible exact H2_) | (have H2_ := (Option.bind_some _ _).symm.trans H; with_reducible exact H2_) | with_reducible exact H | (rw [hy182]; exact H) | exact H
  have Ny182 := Aside0.mk hy182
  clear hy182
  replace H := Option.bind_eq_some_iff.mp H
  obtain ⟨t185, A10, H⟩ := H
  replace H : ((tree_Origin.f k y179 y182 (⟨#[122]⟩ : ByteArray)).bind fun bt188 => ((tree_Apply.f k y179 (([(⟨(⟨#[120]⟩ : ByteArray), 1, 0⟩ : S51)] : List (S51)))).bind fun bt193 => (if (t185.length : Int) = 3 then (if 0 < (t185.length : Int) then (if ((((rd_T51 t185 0).f0).toList) == ([120] : List UInt8) && (((rd_T51 t185 0).f1) == 1 && (((rd_T51 t185 0).f2) == 0))) = true then (if 2 < (t185.length : Int) then (if ((((rd_T51 t185 2).f0).toList) == ([122] : List UInt8) && (((rd_T51 t185 2).f1) == 0 && (((rd_T51 t185 2).f2) == 1))) = true then (if bt188.2 = true then (if bt188.1.toList = ([120] : List UInt8) then ((tree_Touched.f k (([(⟨(⟨#[112, 47, 113]⟩ : ByteArray), 0, 0⟩ : S51)] : List (S51)))).bind fun t202 => (if (t202.length : Int) = 2 then (if bt193.2 = 0 then (if (bt193.1.length : Int) = 1 then ((tree_Same.f k y179 y182 ([] : List ByteArray)).bind fun t205 => (some (!t205))) else (some false)) else (some false)) else (some false))) else (some false)) else (some false)) else (some false)) else (none)) else (some false)) else (none)) else (some false)))) = some r := H
  have A1 := Aside0.mk A10
  clear A10
  replace H := Option.bind_eq_some_iff.mp H
  obtain ⟨⟨t188, t189⟩, A20, H⟩ := H
  replace H : ((tree_Apply.f k y179 (([(⟨(⟨#[120]⟩ : ByteArray), 1, 0⟩ : S51)] : List (S51)))).bind fun bt193 => (if (t185.length : Int) = 3 then (if 0 < (t185.length : Int) then (if ((((rd_T51 t185 0).f0).toList) == ([120] : List UInt8) && (((rd_T51 t185 0).f1) == 1 && (((rd_T51 t185 0).f2) == 0))) = true then (if 2 < (t185.length : Int) then (if ((((rd_T51 t185 2).f0).toList) == ([122] : List UInt8) && (((rd_T51 t185 2).f1) == 0 && (((rd_T51 t185 2).f2) == 1))) = true then (if t189 = true then (if t188.toList = ([120] : List UInt8) then ((tree_Touched.f k (([(⟨(⟨#[112, 47, 113]⟩ : ByteArray), 0, 0⟩ : S51)] : List (S51)))).bind fun t202 => (if (t202.length : Int) = 2 then (if bt193.2 = 0 then (if (bt193.1.length : Int) = 1 then ((tree_Same.f k y179 y182 ([] : List ByteArray)).bind fun t205 => (some (!t205))) else (some false)) else (some false)) else (some false))) else (some false)) else (some false)) else (some false)) else (none)) else (some false)) else (none)) else (some false))) = some r := H
  have A2 := Aside0.mk A20
  clear A20
  obtain ⟨y190, hy190⟩ : ∃ y_ : List (S51), y_ = (([(⟨(⟨#[120]⟩ : ByteArray), 1, 0⟩ : S51)] : List (S51))) := ⟨_, rfl⟩
  replace H : ((tree_Apply.f k y179 y190).bind fun bt193 => (if (t185.length : Int) = 3 then (if 0 < (t185.length : Int) then (if ((((rd_T51 t185 0).f0).toList) == ([120] : List UInt8) && (((rd_T51 t185 0).f1) == 1 && (((rd_T51 t185 0).f2) == 0))) = true then (if 2 < (t185.length : Int) then (if ((((rd_T51 t185 2).f0).toList) == ([122] : List UInt8) && (((rd_T51 t185 2).f1) == 0 && (((rd_T51 t185 2).f2) == 1))) = true then (if t189 = true then (if t188.toList = ([120] : List UInt8) then ((tree_Touched.f k (([(⟨(⟨#[112, 47, 113]⟩ : ByteArray), 0, 0⟩ : S51)] : List (S51)))).bind fun t202 => (if (t202.length : Int) = 2 then (if bt193.2 = 0 then (if (bt193.1.length : Int) = 1 then ((tree_Same.f k y179 y182 ([] : List ByteArray)).bind fun t205 => (some (!t205))) else (some false)) else (some false)) else (some false))) else (some false)) else (some false)) else (some false)) else (none)) else (some false)) else (none)) else (some false))) = some r := by first | (rw [hy190]; with_reducible exact H) | (have H2_ := (Option.bind_some _ _).symm.trans H; rw [hy190]; with_reducible exact H2_) | (have H2_ := (Option.bind_some _ _).symm.trans H; with_reducible exact H2_) | with_reducible exact H | (rw [hy190]; exact H) | exact H
  have Ny190 := Aside0.mk hy190
  clear hy190
  replace H := Option.bind_eq_some_iff.mp H
  obtain ⟨⟨t193, t194⟩, A30, H⟩ := H
  replace H : (if (t185.length : Int) = 3 then (if 0 < (t185.length : Int) then (if ((((rd_T51 t185 0).f0).toList) == ([120] : List UInt8) && (((rd_T51 t185 0).f1) == 1 && (((rd_T51 t185 0).f2) == 0))) = true then (if 2 < (t185.length : Int) then (if ((((rd_T51 t185 2).f0).toList) == ([122] : List UInt8) && (((rd_T51 t185 2).f1) == 0 && (((rd_T51 t185 2).f2) == 1))) = true then (if t189 = true then (if t188.toList = ([120] : List UInt8) then ((tree_Touched.f k (([(⟨(⟨#[112, 47, 113]⟩ : ByteArray), 0, 0⟩ : S51)] : List (S51)))).bind fun t202 => (if (t202.length : Int) = 2 then (if t194 = 0 then (if (t193.length : Int) = 1 then ((tree_Same.f k y179 y182 ([] : List ByteArray)).bind fun t205 => (some (!t205))) else (some false)) else (some false)) else (some false))) else (some false)) else (some false)) else (some false)) else (none)) else (some false)) else (none)) else (some false)) = some r := H
  have A3 := Aside0.mk A30
  clear A30
  by_cases c4 : (t185.length : Int) = 3
  · rw [if_pos c4] at H
    have c4b0 : ((t185.length : Int) == 3) = true := beq_iff_eq.mpr c4
    have c4b1 : ((t185.length : Int) != 3) = false := bne_eq_false_iff_eq.mpr c4
    clear c4
    by_cases c5 : 0 < (t185.length : Int)
    · rw [if_pos c5] at H
      have c5b0 : decide (0 < (t185.length : Int)) = true := decide_eq_true c5
      have c5b1 : decide (0 < t185.length) = true := decide_eq_true (by omega)
      clear c5
      by_cases c6 : ((((rd_T51 t185 0).f0).toList) == ([120] : List UInt8) && (((rd_T51 t185 0).f1) == 1 && (((rd_T51 t185 0).f2) == 0))) = true
      · rw [if_pos c6] at H
        have c6b0 : ((((rd_T51 t185 0).f0).toList) == ([120] : List UInt8) && (((rd_T51 t185 0).f1) == 1 && (((rd_T51 t185 0).f2) == 0))) = true := c6
        (try (have c6b1 : decide ((((rd_T51 t185 0).f0).toList) = ([120] : List UInt8) && (((rd_T51 t185 0).f1) == 1 && (((rd_T51 t185 0).f2) == 0))) = true := by simpa using c6))
        (try (have c6b2 : ((((rd_T51 t185 0).f0).toList) == ([120] : List UInt8) && (((rd_T51 t185 0).f1) == 1 && (((rd_T51 t185 0).f2) == 0))) = true := by simpa using c6))
        (try (have c6b3 : ([120] : List UInt8) && (((rd_T51 t185 0).f1) == 1 && (((rd_T51 t185 0).f2) == 0)) = (((rd_T51 t185 0).f0).toList) := (eq_of_beq (by simpa using c6)).symm))
        clear c6
        by_cases c7 : 2 < (t185.length : Int)
        · rw [if_pos c7] at H
          have c7b0 : decide (2 < (t185.length : Int)) = true := decide_eq_true c7
          have c7b1 : decide (2 < t185.length) = true := decide_eq_true (by omega)
          clear c7
          by_cases c8 : ((((rd_T51 t185 2).f0).toList) == ([122] : List UInt8) && (((rd_T51 t185 2).f1) == 0 && (((rd_T51 t185 2).f2) == 1))) = true
          · rw [if_pos c8] at H
            have c8b0 : ((((rd_T51 t185 2).f0).toList) == ([122] : List UInt8) && (((rd_T51 t185 2).f1) == 0 && (((rd_T51 t185 2).f2) == 1))) = true := c8
            (try (have c8b1 : decide ((((rd_T51 t185 2).f0).toList) = ([122] : List UInt8) && (((rd_T51 t185 2).f1) == 0 && (((rd_T51 t185 2).f2) == 1))) = true := by simpa using c8))
            (try (have c8b2 : ((((rd_T51 t185 2).f0).toList) == ([122] : List UInt8) && (((rd_T51 t185 2).f1) == 0 && (((rd_T51 t185 2).f2) == 1))) = true := by simpa using c8))
            (try (have c8b3 : ([122] : List UInt8) && (((rd_T51 t185 2).f1) == 0 && (((rd_T51 t185 2).f2) == 1)) = (((rd_T51 t185 2).f0).toList) := (eq_of_beq (by simpa using c8)).symm))
            clear c8
            by_cases c9 : t189 = true
            · subst c9
              have H1 : (if t188.toList = ([120] : List UInt8) then ((tree_Touched.f k (([(⟨(⟨#[112, 47, 113]⟩ : ByteArray), 0, 0⟩ : S51)] : List (S51)))).bind fun t202 => (if (t202.length : Int) = 2 then (if t194 = 0 then (if (t193.length : Int) = 1 then ((tree_Same.f k y179 y182 ([] : List ByteArray)).bind fun t205 => (some (!t205))) else (some false)) else (some false)) else (some false))) else (some false)) = some r := by rw [if_pos rfl] at H; exact H
              clear H
              have H := H1
              clear H1
              by_cases c10 : t188.toList = ([120] : List UInt8)
              · rw [if_pos c10] at H
                have c10b0 : (t188.toList == ([120] : List UInt8)) = true := beq_iff_eq.mpr c10
                have c10b1 : (t188.toList != ([120] : List UInt8)) = false := bne_eq_false_iff_eq.mpr c10
                clear c10
                obtain ⟨y199, hy199⟩ : ∃ y_ : List (S51), y_ = (([(⟨(⟨#[112, 47, 113]⟩ : ByteArray), 0, 0⟩ : S51)] : List (S51))) := ⟨_, rfl⟩
                replace H : ((tree_Touched.f k y199).bind fun t202 => (if (t202.length : Int) = 2 then (if t194 = 0 then (if (t193.length : Int) = 1 then ((tree_Same.f k y179 y182 ([] : List ByteArray)).bind fun t205 => (some (!t205))) else (some false)) else (some false)) else (some false))) = some r := by first | (rw [hy199]; with_reducible exact H) | (have H2_ := (Option.bind_some _ _).symm.trans H; rw [hy199]; with_reducible exact H2_) | (have H2_ := (Option.bind_some _ _).symm.trans H; with_reducible exact H2_) | with_reducible exact H | (rw [hy199]; exact H) | exact H
                have Ny199 := Aside0.mk hy199
                clear hy199
                replace H := Option.bind_eq_some_iff.mp H
                obtain ⟨t202, A110, H⟩ := H
                replace H : (if (t202.length : Int) = 2 then (if t194 = 0 then (if (t193.length : Int) = 1 then ((tree_Same.f k y179 y182 ([] : List ByteArray)).bind fun t205 => (some (!t205))) else (some false)) else (some false)) else (some false)) = some r := H
                have A11 := Aside0.mk A110
                clear A110
                by_cases c12 : (t202.length : Int) = 2
                · rw [if_pos c12] at H
                  have c12b0 : ((t202.length : Int) == 2) = true := beq_iff_eq.mpr c12
                  have c12b1 : ((t202.length : Int) != 2) = false := bne_eq_false_iff_eq.mpr c12
                  clear c12
                  by_cases c13 : t194 = 0
                  · rw [if_pos c13] at H
                    have c13b0 : (t194 == 0) = true := beq_iff_eq.mpr c13
                    have c13b1 : (t194 != 0) = false := bne_eq_false_iff_eq.mpr c13
                    clear c13
                    by_cases c14 : (t193.length : Int) = 1
                    · rw [if_pos c14] at H
                      have c14b0 : ((t193.length : Int) == 1) = true := beq_iff_eq.mpr c14
                      have c14b1 : ((t193.length : Int) != 1) = false := bne_eq_false_iff_eq.mpr c14
                      clear c14
                      replace H := Option.bind_eq_some_iff.mp H
                      obtain ⟨t205, A150, H⟩ := H
                      replace H : (some (!t205)) = some r := H
                      have A15 := Aside0.mk A150
                      clear A150
                      obtain rfl := Option.some.inj H
                      go_enter Try.func8, Try.ntmps8
                      go_wp2_with (first | ((with_reducible refine gate_dst (N := 10) rfl ?_); (try (refine gate_guard (by rfl) ?_; dsimp only)); refine Kd.R_lit k38 _ 38 ?hg (N := 10) ?hd (xs := ([(⟨(⟨#[120]⟩ : ByteArray), 1⟩ : S38), (⟨(⟨#[121]⟩ : ByteArray), 2⟩ : S38)] : List (S38))) (inner := [.string (⟨#[120]⟩ : ByteArray), .int .u64 1, .string (⟨#[121]⟩ : ByteArray), .int .u64 2]) (ok := fun _ => True) (okp := fun _ => True) ?hr ?hp (fun _ hk => hk) trivial (Below.refl _ _) (Nat.le_refl _) (by simp) ?_; (case hd => rfl); (case hg => rfl); (case hr => first | (go_simp; done) | (go_simp; rfl)); (case hp => exact (Reps.c2 (show Kd.M k38 _ _ _ (⟨(⟨#[120]⟩ : ByteArray), 1⟩ : S38) [.string (⟨#[120]⟩ : ByteArray), .int .u64 1] from (k38_mkM _ _ _ (⟨(⟨#[120]⟩ : ByteArray), 1⟩ : S38) )) (Reps.c2 (show Kd.M k38 _ _ _ (⟨(⟨#[121]⟩ : ByteArray), 2⟩ : S38) [.string (⟨#[121]⟩ : ByteArray), .int .u64 2] from (k38_mkM _ _ _ (⟨(⟨#[121]⟩ : ByteArray), 2⟩ : S38) )) (Reps.none _ _)))); intro v180 w16 ho17 hb hg_ hnew_; clear hg_ hnew_; (first | rw [← Ny179.out] at ho17 | (simp only [Int.reduceToNat] at ho17; rw [← Ny179.out] at ho17)); have n0_ := Aside0.mk (Kd.R_lower ho17 (below_size (by repeat (first | (with_reducible first | exact HB.out | apply below_alloc | apply pw_below_drewN | apply below_drew1) | exact HB.out)))); have n1_ := Aside0.mk (below_step (by repeat (first | (with_reducible first | exact HB.out | apply below_alloc | apply pw_below_drewN | apply below_drew1) | exact HB.out)) hb); clear HB; have HO181 := n0_; have HB := n1_; clear n0_ n1_; clear hb ho17) | ((with_reducible refine gate_dst (N := 13) rfl ?_); (try (refine gate_guard (by rfl) ?_; dsimp only)); refine Kd.R_lit k38 _ 38 ?hg (N := 13) ?hd (xs := ([(⟨(⟨#[121]⟩ : ByteArray), 3⟩ : S38), (⟨(⟨#[122]⟩ : ByteArray), 1⟩ : S38)] : List (S38))) (inner := [.string (⟨#[121]⟩ : ByteArray), .int .u64 3, .string (⟨#[122]⟩ : ByteArray), .int .u64 1]) (ok := fun _ => True) (okp := fun _ => True) ?hr ?hp (fun _ hk => hk) trivial (Below.refl _ _) (Nat.le_refl _) (by simp) ?_; (case hd => rfl); (case hg => rfl); (case hr => first | (go_simp; done) | (go_simp; rfl)); (case hp => exact (Reps.c2 (show Kd.M k38 _ _ _ (⟨(⟨#[121]⟩ : ByteArray), 3⟩ : S38) [.string (⟨#[121]⟩ : ByteArray), .int .u64 3] from (k38_mkM _ _ _ (⟨(⟨#[121]⟩ : ByteArray), 3⟩ : S38) )) (Reps.c2 (show Kd.M k38 _ _ _ (⟨(⟨#[122]⟩ : ByteArray), 1⟩ : S38) [.string (⟨#[122]⟩ : ByteArray), .int .u64 1] from (k38_mkM _ _ _ (⟨(⟨#[122]⟩ : ByteArray), 1⟩ : S38) )) (Reps.none _ _)))); intro v183 w18 ho19 hb hg_ hnew_; clear hg_ hnew_; (first | rw [← Ny182.out] at ho19 | (simp only [Int.reduceToNat] at ho19; rw [← Ny182.out] at ho19)); have n0_ := Aside0.mk (Kd.R_elder' (by (with_reducible repeat (first | apply Kd.R_alloc | apply Kd.R_drewN | apply Kd.R_drew)); exact HO181.out) (Kd.R_base ho19) hb); have n1_ := Aside0.mk (Kd.R_lower (Kd.R_new' ho19 (Kd.R_lt (by (with_reducible repeat (first | apply Kd.R_alloc | apply Kd.R_drewN | apply Kd.R_drew)); exact HO181.out))) (below_size (by repeat (first | (with_reducible first | exact HB.out | apply below_alloc | apply pw_below_drewN | apply below_drew1) | exact HB.out)))); have n2_ := Aside0.mk (below_step (by repeat (first | (with_reducible first | exact HB.out | apply below_alloc | apply pw_below_drewN | apply below_drew1) | exact HB.out)) hb); clear HO181; clear HB; have HO181 := n0_; have HO184 := n1_; have HB := n2_; clear n0_ n1_ n2_; clear hb ho19; obtain ⟨Ao20, co20, eo20⟩ := Kd.R_slice HO181.out; subst eo20; obtain ⟨Ao21, co21, eo21⟩ := Kd.R_slice HO184.out; subst eo21) | ((with_reducible refine gate_callee (f := 15) rfl ?_); refine goesL_ (some 17) rfl rfl Try.func15 (by kernel_rfl) rfl #[.slice Ao20 y179.length co20, .slice Ao21 y182.length co21, .agg #[.slice none 0 0]] rfl (by (try simp only [List.map_toArray, List.map_cons, List.map_nil]); first | done | rfl | (simp only [List.length_drop, List.length_take]; rfl)) ?_; (refine (tree_Diff.calls k _ _ y179 _ _ y182 _ _ ([] : List ByteArray) t185 _ ?side1 ?side2 ?side3 ?side4 ?side5 ?side6 A1.out).mono ?_); (case side1 => repeat (first | exact (Kd.R_reads' HO181.out).2.2 | (with_reducible refine Kd.C_alloc ?_ _) | (with_reducible refine Kd.C_drewN ?_ _) | (with_reducible refine Kd.C_drew ?_))); (case side2 => exact (Kd.R_reads' HO181.out).2.1); (case side3 => repeat (first | exact (Kd.R_reads' HO184.out).2.2 | (with_reducible refine Kd.C_alloc ?_ _) | (with_reducible refine Kd.C_drewN ?_ _) | (with_reducible refine Kd.C_drew ?_))); (case side4 => exact (Kd.R_reads' HO184.out).2.1); (case side5 => exact Kd.C_nil _ _); (case side6 => exact Nat.le_refl _); rintro e w22 ⟨v186, rfl, ho0, hb⟩; refine ⟨_, rfl, ?_⟩; have n0_ := Aside0.mk (Kd.R_below (by (with_reducible repeat (first | apply Kd.R_alloc | apply Kd.R_drewN | apply Kd.R_drew)); exact HO181.out) hb); have n1_ := Aside0.mk (Kd.R_below (by (with_reducible repeat (first | apply Kd.R_alloc | apply Kd.R_drewN | apply Kd.R_drew)); exact HO184.out) hb); have n2_ := Aside0.mk (Kd.R_lower ho0 (below_size (by repeat (first | (with_reducible first | exact HB.out | apply below_alloc | apply pw_below_drewN | apply below_drew1) | exact HB.out)))); have n3_ := Aside0.mk (below_step (by repeat (first | (with_reducible first | exact HB.out | apply below_alloc | apply pw_below_drewN | apply below_drew1) | exact HB.out)) hb); clear HO181; clear HO184; clear HB; have HO181 := n0_; have HO184 := n1_; have HO187 := n2_; have HB := n3_; clear n0_ n1_ n2_ n3_; (try clear hb); (try clear hb2); (try clear hk); (try clear hi); (try clear ho0)) | ((with_reducible refine gate_callee (f := 13) rfl ?_); refine goesL_ (some 21) rfl rfl Try.func13 (by kernel_rfl) rfl #[.slice Ao20 y179.length co20, .slice Ao21 y182.length co21, .string (⟨#[122]⟩ : ByteArray)] rfl (by (try simp only [List.map_toArray, List.map_cons, List.map_nil]); first | done | rfl | (simp only [List.length_drop, List.length_take]; rfl)) ?_; (with_reducible refine (tree_Origin.calls k _ _ y179 _ _ y182 (⟨#[122]⟩ : ByteArray) t188 true _ ?side1 ?side2 ?side3 ?side4 A2.out).mono ?_); (case side1 => repeat (first | exact (Kd.R_reads' HO181.out).2.2 | (with_reducible refine Kd.C_alloc ?_ _) | (with_reducible refine Kd.C_drewN ?_ _) | (with_reducible refine Kd.C_drew ?_))); (case side2 => exact (Kd.R_reads' HO181.out).2.1); (case side3 => repeat (first | exact (Kd.R_reads' HO184.out).2.2 | (with_reducible refine Kd.C_alloc ?_ _) | (with_reducible refine Kd.C_drewN ?_ _) | (with_reducible refine Kd.C_drew ?_))); (case side4 => exact (Kd.R_reads' HO184.out).2.1); rintro e w23 ⟨rfl, hb⟩; refine ⟨_, rfl, ?_⟩; have n0_ := Aside0.mk (Kd.R_below (by (with_reducible repeat (first | apply Kd.R_alloc | apply Kd.R_drewN | apply Kd.R_drew)); exact HO181.out) hb); have n1_ := Aside0.mk (Kd.R_below (by (with_reducible repeat (first | apply Kd.R_alloc | apply Kd.R_drewN | apply Kd.R_drew)); exact HO184.out) hb); have n2_ := Aside0.mk (Kd.R_below (by (with_reducible repeat (first | apply Kd.R_alloc | apply Kd.R_drewN | apply Kd.R_drew)); exact HO187.out) hb); have n3_ := Aside0.mk (below_step (by repeat (first | (with_reducible first | exact HB.out | apply below_alloc | apply pw_below_drewN | apply below_drew1) | exact HB.out)) hb); clear HO181; clear HO184; clear HO187; clear HB; have HO181 := n0_; have HO184 := n1_; have HO187 := n2_; have HB := n3_; clear n0_ n1_ n2_ n3_; (try clear hb); (try clear hb2); (try clear hk); (try clear hi)) | ((with_reducible refine gate_dst (N := 27) rfl ?_); (try (refine gate_guard (by rfl) ?_; dsimp only)); refine Kd.R_lit k51 _ 51 ?hg (N := 27) ?hd (xs := ([(⟨(⟨#[120]⟩ : ByteArray), 1, 0⟩ : S51)] : List (S51))) (inner := [.string (⟨#[120]⟩ : ByteArray), .int .u64 1, .int .u64 0]) (ok := fun _ => True) (okp := fun _ => True) ?hr ?hp (fun _ hk => hk) trivial (Below.refl _ _) (Nat.le_refl _) (by simp) ?_; (case hd => rfl); (case hg => rfl); (case hr => first | (go_simp; done) | (go_simp; rfl)); (case hp => exact (Reps.c3 (show Kd.M k51 _ _ _ (⟨(⟨#[120]⟩ : ByteArray), 1, 0⟩ : S51) [.string (⟨#[120]⟩ : ByteArray), .int .u64 1, .int .u64 0] from (k51_mkM _ _ _ (⟨(⟨#[120]⟩ : ByteArray), 1, 0⟩ : S51) )) (Reps.none _ _))); intro v191 w24 ho25 hb hg_ hnew_; clear hg_ hnew_; (first | rw [← Ny190.out] at ho25 | (simp only [Int.reduceToNat] at ho25; rw [← Ny190.out] at ho25)); have n0_ := Aside0.mk (Kd.R_below (by (with_reducible repeat (first | apply Kd.R_alloc | apply Kd.R_drewN | apply Kd.R_drew)); exact HO181.out) hb); have n1_ := Aside0.mk (Kd.R_below (by (with_reducible repeat (first | apply Kd.R_alloc | apply Kd.R_drewN | apply Kd.R_drew)); exact HO184.out) hb); have n2_ := Aside0.mk (Kd.R_elder' (by (with_reducible repeat (first | apply Kd.R_alloc | apply Kd.R_drewN | apply Kd.R_drew)); exact HO187.out) (Kd.R_base ho25) hb); have n3_ := Aside0.mk (Kd.R_lower (Kd.R_new' ho25 (Kd.R_lt (by (with_reducible repeat (first | apply Kd.R_alloc | apply Kd.R_drewN | apply Kd.R_drew)); exact HO187.out))) (below_size (by repeat (first | (with_reducible first | exact HB.out | apply below_alloc | apply pw_below_drewN | apply below_drew1) | exact HB.out)))); have n4_ := Aside0.mk (below_step (by repeat (first | (with_reducible first | exact HB.out | apply below_alloc | apply pw_below_drewN | apply below_drew1) | exact HB.out)) hb); clear HO181; clear HO184; clear HO187; clear HB; have HO181 := n0_; have HO184 := n1_; have HO187 := n2_; have HO192 := n3_; have HB := n4_; clear n0_ n1_ n2_ n3_ n4_; clear hb ho25; obtain ⟨Ao26, co26, eo26⟩ := Kd.R_slice HO192.out; subst eo26) | ((with_reducible refine gate_callee (f := 16) rfl ?_); refine goesL_ (some 28) rfl rfl Try.func16 (by kernel_rfl) rfl #[.slice Ao20 y179.length co20, .slice Ao26 y190.length co26] rfl (by (try simp only [List.map_toArray, List.map_cons, List.map_nil]); first | done | rfl | (simp only [List.length_drop, List.length_take]; rfl)) ?_; (with_reducible refine (tree_Apply.calls k _ _ y179 _ _ y190 t193 t194 _ ?side1 ?side2 ?side3 ?side4 A3.out).mono ?_); (case side1 => repeat (first | exact (Kd.R_reads' HO181.out).2.2 | (with_reducible refine Kd.C_alloc ?_ _) | (with_reducible refine Kd.C_drewN ?_ _) | (with_reducible refine Kd.C_drew ?_))); (case side2 => exact (Kd.R_reads' HO181.out).2.1); (case side3 => repeat (first | exact (Kd.R_reads' HO192.out).2.2 | (with_reducible refine Kd.C_alloc ?_ _) | (with_reducible refine Kd.C_drewN ?_ _) | (with_reducible refine Kd.C_drew ?_))); (case side4 => exact (Kd.R_reads' HO192.out).2.1); rintro e w27 ⟨v195, rfl, ho0, hb⟩; refine ⟨_, rfl, ?_⟩; have n0_ := Aside0.mk (Kd.R_elder' (by (with_reducible repeat (first | apply Kd.R_alloc | apply Kd.R_drewN | apply Kd.R_drew)); exact HO181.out) (Kd.R_base ho0) hb); have n1_ := Aside0.mk (Kd.R_elder' (by (with_reducible repeat (first | apply Kd.R_alloc | apply Kd.R_drewN | apply Kd.R_drew)); exact HO184.out) (Kd.R_base ho0) hb); have n2_ := Aside0.mk (Kd.R_below (by (with_reducible repeat (first | apply Kd.R_alloc | apply Kd.R_drewN | apply Kd.R_drew)); exact HO187.out) hb); have n3_ := Aside0.mk (Kd.R_below (by (with_reducible repeat (first | apply Kd.R_alloc | apply Kd.R_drewN | apply Kd.R_drew)); exact HO192.out) hb); have n4_ := Aside0.mk (Kd.R_lower (Kd.R_new' (Kd.R_new' ho0 (Kd.R_lt (by (with_reducible repeat (first | apply Kd.R_alloc | apply Kd.R_drewN | apply Kd.R_drew)); exact HO181.out))) (Kd.R_lt (by (with_reducible repeat (first | apply Kd.R_alloc | apply Kd.R_drewN | apply Kd.R_drew)); exact HO184.out))) (below_size (by repeat (first | (with_reducible first | exact HB.out | apply below_alloc | apply pw_below_drewN | apply below_drew1) | exact HB.out)))); have n5_ := Aside0.mk (below_step (by repeat (first | (with_reducible first | exact HB.out | apply below_alloc | apply pw_below_drewN | apply below_drew1) | exact HB.out)) hb); clear HO181; clear HO184; clear HO187; clear HO192; clear HB; have HO181 := n0_; have HO184 := n1_; have HO187 := n2_; have HO192 := n3_; have HO196 := n4_; have HB := n5_; clear n0_ n1_ n2_ n3_ n4_ n5_; (try clear hb); (try clear hb2); (try clear hk); (try clear hi); (try clear ho0); obtain ⟨Ao28, co28, eo28⟩ := Kd.R_slice HO187.out; subst eo28; have p197 : 0 ≤ (0 : Int) := (by omega); have q197 : 0 < (t185.length : Int) := of_decide_eq_true (by first | (with_reducible assumption) | assumption); obtain ⟨ad197, e197, hx197_0, hx197_1, hx197_2⟩ := at_T51 (Kd.R_reads' HO187.out).2.2 0 p197 q197; cases e197; have qi197 : (0 < t185.length) = True := eq_true (by omega); (try rw [show ((0 : Int)).toNat = 0 from rfl] at hx197_0); (try rw [show 0 * 3 = 0 from rfl] at hx197_0); (try rw [Addr.add_zero'] at hx197_0); (try rw [show ((0 : Int)).toNat = 0 from rfl] at hx197_1); (try rw [show 0 * 3 = 0 from rfl] at hx197_1); (try rw [Addr.add_zero'] at hx197_1); (try rw [show ((0 : Int)).toNat = 0 from rfl] at hx197_2); (try rw [show 0 * 3 = 0 from rfl] at hx197_2); (try rw [Addr.add_zero'] at hx197_2); replace p197 := eq_true p197; replace q197 := eq_true q197; have p198 : 0 ≤ (2 : Int) := (by omega); have q198 : 2 < (t185.length : Int) := of_decide_eq_true (by first | (with_reducible assumption) | assumption); obtain ⟨ad198, e198, hx198_0, hx198_1, hx198_2⟩ := at_T51 (Kd.R_reads' HO187.out).2.2 2 p198 q198; obtain rfl : ad197 = ad198 := (by injection e198); (try simp only [show (2 : Int).toNat = 2 from rfl, Nat.reduceMul, Nat.reduceEqDiff, Go.Addr.add, ↓reduceIte] at hx198_0); (try simp only [show (2 : Int).toNat = 2 from rfl, Nat.reduceMul, Nat.reduceEqDiff, Go.Addr.add, ↓reduceIte] at hx198_1); (try simp only [show (2 : Int).toNat = 2 from rfl, Nat.reduceMul, Nat.reduceEqDiff, Go.Addr.add, ↓reduceIte] at hx198_2); have qi198 : (2 < t185.length) = True := eq_true (by omega); (try rw [show ((2 : Int)).toNat = 2 from rfl] at hx198_0); (try rw [show 2 * 3 = 6 from rfl] at hx198_0); (try rw [show ((2 : Int)).toNat = 2 from rfl] at hx198_1); (try rw [show 2 * 3 = 6 from rfl] at hx198_1); (try rw [show ((2 : Int)).toNat = 2 from rfl] at hx198_2); (try rw [show 2 * 3 = 6 from rfl] at hx198_2); replace p198 := eq_true p198; replace q198 := eq_true q198) | ((with_reducible refine gate_dst (N := 57) rfl ?_); (try (refine gate_guard (by rfl) ?_; dsimp only)); refine Kd.R_lit k51 _ 51 ?hg (N := 57) ?hd (xs := ([(⟨(⟨#[112, 47, 113]⟩ : ByteArray), 0, 0⟩ : S51)] : List (S51))) (inner := [.string (⟨#[112, 47, 113]⟩ : ByteArray), .int .u64 0, .int .u64 0]) (ok := fun _ => True) (okp := fun _ => True) ?hr ?hp (fun _ hk => hk) trivial (Below.refl _ _) (Nat.le_refl _) (by simp) ?_; (case hd => rfl); (case hg => rfl); (case hr => first | (go_simp; done) | (go_simp; rfl)); (case hp => exact (Reps.c3 (show Kd.M k51 _ _ _ (⟨(⟨#[112, 47, 113]⟩ : ByteArray), 0, 0⟩ : S51) [.string (⟨#[112, 47, 113]⟩ : ByteArray), .int .u64 0, .int .u64 0] from (k51_mkM _ _ _ (⟨(⟨#[112, 47, 113]⟩ : ByteArray), 0, 0⟩ : S51) )) (Reps.none _ _))); intro v200 w29 ho30 hb hg_ hnew_; clear hg_ hnew_; (first | rw [← Ny199.out] at ho30 | (simp only [Int.reduceToNat] at ho30; rw [← Ny199.out] at ho30)); have n0_ := Aside0.mk (Kd.R_below (by (with_reducible repeat (first | apply Kd.R_alloc | apply Kd.R_drewN | apply Kd.R_drew)); exact HO181.out) hb); have n1_ := Aside0.mk (Kd.R_below (by (with_reducible repeat (first | apply Kd.R_alloc | apply Kd.R_drewN | apply Kd.R_drew)); exact HO184.out) hb); have n2_ := Aside0.mk (Kd.R_elder' (by (with_reducible repeat (first | apply Kd.R_alloc | apply Kd.R_drewN | apply Kd.R_drew)); exact HO187.out) (Kd.R_base ho30) hb); have n3_ := Aside0.mk (Kd.R_elder' (by (with_reducible repeat (first | apply Kd.R_alloc | apply Kd.R_drewN | apply Kd.R_drew)); exact HO192.out) (Kd.R_base ho30) hb); have n4_ := Aside0.mk (Kd.R_below (by (with_reducible repeat (first | apply Kd.R_alloc | apply Kd.R_drewN | apply Kd.R_drew)); exact HO196.out) hb); have n5_ := Aside0.mk (Kd.R_lower (Kd.R_new' (Kd.R_new' ho30 (Kd.R_lt (by (with_reducible repeat (first | apply Kd.R_alloc | apply Kd.R_drewN | apply Kd.R_drew)); exact HO187.out))) (Kd.R_lt (by (with_reducible repeat (first | apply Kd.R_alloc | apply Kd.R_drewN | apply Kd.R_drew)); exact HO192.out))) (below_size (by repeat (first | (with_reducible first | exact HB.out | apply below_alloc | apply pw_below_drewN | apply below_drew1) | exact HB.out)))); have n6_ := Aside0.mk (below_step (by repeat (first | (with_reducible first | exact HB.out | apply below_alloc | apply pw_below_drewN | apply below_drew1) | exact HB.out)) hb); clear HO181; clear HO184; clear HO187; clear HO192; clear HO196; clear HB; have HO181 := n0_; have HO184 := n1_; have HO187 := n2_; have HO192 := n3_; have HO196 := n4_; have HO201 := n5_; have HB := n6_; clear n0_ n1_ n2_ n3_ n4_ n5_ n6_; clear hb ho30; obtain ⟨Ao31, co31, eo31⟩ := Kd.R_slice HO201.out; subst eo31) | (go_at_call 20; (with_reducible refine (tree_Touched.calls k _ _ y199 t202 _ ?side1 ?side2 A11.out).mono ?_); (case side1 => repeat (first | exact (Kd.R_reads' HO201.out).2.2 | (with_reducible refine Kd.C_alloc ?_ _) | (with_reducible refine Kd.C_drewN ?_ _) | (with_reducible refine Kd.C_drew ?_))); (case side2 => exact (Kd.R_reads' HO201.out).2.1); rintro e w32 ⟨v203, rfl, ho0, hb⟩; have n0_ := Aside0.mk (Kd.R_below (by (with_reducible repeat (first | apply Kd.R_alloc | apply Kd.R_drewN | apply Kd.R_drew)); exact HO181.out) hb); have n1_ := Aside0.mk (Kd.R_below (by (with_reducible repeat (first | apply Kd.R_alloc | apply Kd.R_drewN | apply Kd.R_drew)); exact HO184.out) hb); have n2_ := Aside0.mk (Kd.R_below (by (with_reducible repeat (first | apply Kd.R_alloc | apply Kd.R_drewN | apply Kd.R_drew)); exact HO187.out) hb); have n3_ := Aside0.mk (Kd.R_below (by (with_reducible repeat (first | apply Kd.R_alloc | apply Kd.R_drewN | apply Kd.R_drew)); exact HO192.out) hb); have n4_ := Aside0.mk (Kd.R_below (by (with_reducible repeat (first | apply Kd.R_alloc | apply Kd.R_drewN | apply Kd.R_drew)); exact HO196.out) hb); have n5_ := Aside0.mk (Kd.R_below (by (with_reducible repeat (first | apply Kd.R_alloc | apply Kd.R_drewN | apply Kd.R_drew)); exact HO201.out) hb); have n6_ := Aside0.mk (Kd.R_lower ho0 (below_size (by repeat (first | (with_reducible first | exact HB.out | apply below_alloc | apply pw_below_drewN | apply below_drew1) | exact HB.out)))); have n7_ := Aside0.mk (below_step (by repeat (first | (with_reducible first | exact HB.out | apply below_alloc | apply pw_below_drewN | apply below_drew1) | exact HB.out)) hb); clear HO181; clear HO184; clear HO187; clear HO192; clear HO196; clear HO201; clear HB; have HO181 := n0_; have HO184 := n1_; have HO187 := n2_; have HO192 := n3_; have HO196 := n4_; have HO201 := n5_; have HO204 := n6_; have HB := n7_; clear n0_ n1_ n2_ n3_ n4_ n5_ n6_ n7_; (try clear hb); (try clear hb2); (try clear hk); (try clear hi); (try clear ho0); obtain ⟨Ao33, co33, eo33⟩ := Kd.R_slice HO204.out; subst eo33; obtain ⟨Ao34, co34, eo34⟩ := Kd.R_slice HO196.out; subst eo34) | (go_at_call 26; (refine (tree_Same.calls k _ _ y179 _ _ y182 _ _ ([] : List ByteArray) t205 _ ?side1 ?side2 ?side3 ?side4 ?side5 ?side6 A15.out).mono ?_); (case side1 => repeat (first | exact (Kd.R_reads' HO181.out).2.2 | (with_reducible refine Kd.C_alloc ?_ _) | (with_reducible refine Kd.C_drewN ?_ _) | (with_reducible refine Kd.C_drew ?_))); (case side2 => exact (Kd.R_reads' HO181.out).2.1); (case side3 => repeat (first | exact (Kd.R_reads' HO184.out).2.2 | (with_reducible refine Kd.C_alloc ?_ _) | (with_reducible refine Kd.C_drewN ?_ _) | (with_reducible refine Kd.C_drew ?_))); (case side4 => exact (Kd.R_reads' HO184.out).2.1); (case side5 => exact Kd.C_nil _ _); (case side6 => exact Nat.le_refl _); rintro e w35 ⟨rfl, hb⟩; have n0_ := Aside0.mk (Kd.R_below (by (with_reducible repeat (first | apply Kd.R_alloc | apply Kd.R_drewN | apply Kd.R_drew)); exact HO181.out) hb); have n1_ := Aside0.mk (Kd.R_below (by (with_reducible repeat (first | apply Kd.R_alloc | apply Kd.R_drewN | apply Kd.R_drew)); exact HO184.out) hb); have n2_ := Aside0.mk (Kd.R_below (by (with_reducible repeat (first | apply Kd.R_alloc | apply Kd.R_drewN | apply Kd.R_drew)); exact HO187.out) hb); have n3_ := Aside0.mk (Kd.R_below (by (with_reducible repeat (first | apply Kd.R_alloc | apply Kd.R_drewN | apply Kd.R_drew)); exact HO192.out) hb); have n4_ := Aside0.mk (Kd.R_below (by (with_reducible repeat (first | apply Kd.R_alloc | apply Kd.R_drewN | apply Kd.R_drew)); exact HO196.out) hb); have n5_ := Aside0.mk (Kd.R_below (by (with_reducible repeat (first | apply Kd.R_alloc | apply Kd.R_drewN | apply Kd.R_drew)); exact HO201.out) hb); have n6_ := Aside0.mk (Kd.R_below (by (with_reducible repeat (first | apply Kd.R_alloc | apply Kd.R_drewN | apply Kd.R_drew)); exact HO204.out) hb); have n7_ := Aside0.mk (below_step (by repeat (first | (with_reducible first | exact HB.out | apply below_alloc | apply pw_below_drewN | apply below_drew1) | exact HB.out)) hb); clear HO181; clear HO184; clear HO187; clear HO192; clear HO196; clear HO201; clear HO204; clear HB; have HO181 := n0_; have HO184 := n1_; have HO187 := n2_; have HO192 := n3_; have HO196 := n4_; have HO201 := n5_; have HO204 := n6_; have HB := n7_; clear n0_ n1_ n2_ n3_ n4_ n5_ n6_ n7_; (try clear hb); (try clear hb2); (try clear hk); (try clear hi)))
                      go_ret
                      exact ⟨by first | rfl | (simp [errW_none, errW_some] <;> rfl) | (simp [*, errW_none, errW_some] <;> rfl), by repeat (first | (with_reducible first | exact HB.out | apply below_alloc | apply pw_below_drewN | apply below_drew1) | exact HB.out)⟩
                    · rw [if_neg c14] at H
                      have c14b0 : ((t193.length : Int) == 1) = false := beq_eq_false_iff_ne.mpr c14
                      have c14b1 : ((t193.length : Int) != 1) = true := bne_iff_ne.mpr c14
                      exact absurd (Option.some.inj H) (by rw [HR_.out]; decide)
                  · rw [if_neg c13] at H
                    have c13b0 : (t194 == 0) = false := beq_eq_false_iff_ne.mpr c13
                    have c13b1 : (t194 != 0) = true := bne_iff_ne.mpr c13
                    exact absurd (Option.some.inj H) (by rw [HR_.out]; decide)
                · rw [if_neg c12] at H
                  have c12b0 : ((t202.length : Int) == 2) = false := beq_eq_false_iff_ne.mpr c12
                  have c12b1 : ((t202.length : Int) != 2) = true := bne_iff_ne.mpr c12
                  exact absurd (Option.some.inj H) (by rw [HR_.out]; decide)
              · rw [if_neg c10] at H
                have c10b0 : (t188.toList == ([120] : List UInt8)) = false := beq_eq_false_iff_ne.mpr c10
                have c10b1 : (t188.toList != ([120] : List UInt8)) = true := bne_iff_ne.mpr c10
                exact absurd (Option.some.inj H) (by rw [HR_.out]; decide)
            · replace c9 := Bool.eq_false_iff.mpr c9
              subst c9
              have H1 : (some false) = some r := by rw [if_neg (show ¬ (false = true) by decide)] at H; exact H
              clear H
              have H := H1
              clear H1
              exact absurd (Option.some.inj H) (by rw [HR_.out]; decide)
          · rw [if_neg c8] at H
            have c8b0 : ((((rd_T51 t185 2).f0).toList) == ([122] : List UInt8) && (((rd_T51 t185 2).f1) == 0 && (((rd_T51 t185 2).f2) == 1))) = false := by simpa using c8
            (try (have c8b1 : decide ((((rd_T51 t185 2).f0).toList) = ([122] : List UInt8) && (((rd_T51 t185 2).f1) == 0 && (((rd_T51 t185 2).f2) == 1))) = false := by simpa using c8))
            (try (have c8b2 : ((((rd_T51 t185 2).f0).toList) == ([122] : List UInt8) && (((rd_T51 t185 2).f1) == 0 && (((rd_T51 t185 2).f2) == 1))) = false := by simpa using c8))
            (try (have c8b3 : ¬ ((((rd_T51 t185 2).f0).toList) = ([122] : List UInt8) && (((rd_T51 t185 2).f1) == 0 && (((rd_T51 t185 2).f2) == 1))) := by simpa using c8))
            clear c8
            exact absurd (Option.some.inj H) (by rw [HR_.out]; decide)
        · rw [if_neg c7] at H
          exact absurd H (by simp)
      · rw [if_neg c6] at H
        have c6b0 : ((((rd_T51 t185 0).f0).toList) == ([120] : List UInt8) && (((rd_T51 t185 0).f1) == 1 && (((rd_T51 t185 0).f2) == 0))) = false := by simpa using c6
        (try (have c6b1 : decide ((((rd_T51 t185 0).f0).toList) = ([120] : List UInt8) && (((rd_T51 t185 0).f1) == 1 && (((rd_T51 t185 0).f2) == 0))) = false := by simpa using c6))
        (try (have c6b2 : ((((rd_T51 t185 0).f0).toList) == ([120] : List UInt8) && (((rd_T51 t185 0).f1) == 1 && (((rd_T51 t185 0).f2) == 0))) = false := by simpa using c6))
        (try (have c6b3 : ¬ ((((rd_T51 t185 0).f0).toList) = ([120] : List UInt8) && (((rd_T51 t185 0).f1) == 1 && (((rd_T51 t185 0).f2) == 0))) := by simpa using c6))
        clear c6
        exact absurd (Option.some.inj H) (by rw [HR_.out]; decide)
    · rw [if_neg c5] at H
      exact absurd H (by simp)
  · rw [if_neg c4] at H
    have c4b0 : ((t185.length : Int) == 3) = false := beq_eq_false_iff_ne.mpr c4
    have c4b1 : ((t185.length : Int) != 3) = true := bne_iff_ne.mpr c4
    exact absurd (Option.some.inj H) (by rw [HR_.out]; decide)
/-! ### forebearlaw08_Entries: function 12 -/
def forebearlaw08_Entries.l0 : Nat → List (S38) → List (S76) → Int → Option ((List (S76)))
  | 0, _, _, _ => none
  | k + 1, x0, x3, x4 => if x4 < (x0.length : Int) then (if 0 ≤ x4 then (if x3.length < 5864062014805 then (forebearlaw08_Entries.l0 k x0 (x3 ++ [(⟨(rd_T38 x0 x4).f0, (rd_T38 x0 x4).f1⟩ : S76)]) (wrap64 (x4 + 1))) else (none)) else (none)) else (some x3)
def forebearlaw08_Entries.f (k : Nat) (l0 : List (S38)) : Option ((List (S76))) := forebearlaw08_Entries.l0 k l0 ([] : List (S76)) 0
theorem forebearlaw08_Entries.mono_l : ∀ k, (∀ y0 y1 y2, LeO (forebearlaw08_Entries.l0 k y0 y1 y2) (forebearlaw08_Entries.l0 (k + 1) y0 y1 y2))
  | 0 => fun _ _ _ r h => by simp [forebearlaw08_Entries.l0] at h
  | k + 1 => by
    have ih0 := forebearlaw08_Entries.mono_l k
    · intro y0 y1 y2
      unfold forebearlaw08_Entries.l0
      repeat' first
      | (with_reducible exact ih0 _ _ _)
      | (with_reducible exact LeO.refl _)
      | (with_reducible exact LeO.none _)
      | (with_reducible refine LeO.ite ?_ ?_)
      | (with_reducible refine LeO.bind ?_ (fun _ => ?_))
      | exact ih0 _ _ _
      | exact LeO.none _
      | refine LeO.ite ?_ ?_
      | refine LeO.bind ?_ (fun _ => ?_)
theorem forebearlaw08_Entries.mono : ∀ a0 k, LeO (forebearlaw08_Entries.f k a0) (forebearlaw08_Entries.f (k + 1) a0) := by
  intro a0 k
  have ih0 := forebearlaw08_Entries.mono_l k
  unfold forebearlaw08_Entries.f
  repeat' first
      | (with_reducible exact ih0 _ _ _)
      | (with_reducible exact LeO.refl _)
      | (with_reducible exact LeO.none _)
      | (with_reducible refine LeO.ite ?_ ?_)
      | (with_reducible refine LeO.bind ?_ (fun _ => ?_))
      | exact ih0 _ _ _
      | exact LeO.none _
      | refine LeO.ite ?_ ?_
      | refine LeO.bind ?_ (fun _ => ?_)
def forebearlaw08_Entries.T5 : Bool × List (List Nat × List Nat) := (true, [([], []), ([], []), ([], []), ([1, 2], [1, 2]), ([3], [3]), ([4], [4]), ([], []), ([], []), ([6, 7], [6, 7]), ([8], [8]), ([9], [9]), ([5, 10], [5, 10]), ([11], [11]), ([0, 12], [0, 12]), ([13, 13, 0, 1, 2, 3, 4, 5, 6, 7, 8, 9, 10, 11, 12, 13], [0, 13])])
def forebearlaw08_Entries.B5 : List Nat := [0, 0, 0, 6, 14, 30, 0, 0, 192, 448, 960, 2046, 4094, 8191, 16383]
theorem forebearlaw08_Entries.tab5 : rtab .any (opsOf Try.f12 5) = forebearlaw08_Entries.T5 := by kernel_rfl
theorem forebearlaw08_Entries.bits5 : waitsOk forebearlaw08_Entries.T5.2 forebearlaw08_Entries.B5 = true := by kernel_rfl
set_option maxHeartbeats 8000000 in
set_option maxRecDepth 100000 in
theorem forebearlaw08_Entries.calls (k : Nat) (A0 : Option Addr) (c0 : Nat) (l0 : List (S38)) (r : List (S76)) (w : World) (hr0 : Kd.C k38 w A0 l0.length l0) (hc0 : l0.length ≤ c0) (h : forebearlaw08_Entries.f k l0 = some r) :
    Calls Try.prog 12 #[.slice A0 l0.length c0] w fun e w' => ∃ v0_ : Value, e = .returned (v0_) ∧ Kd.R k76 76 w' w.heap.size (fun _ => True) v0_ r ∧ Below w.heap.size w w' := by
  have hu76 := Try.underlying76
  have HR0 := Aside0.mk hr0
  have HC0 := Aside0.mk hc0
  clear hr0 hc0
  have HB := Aside0.mk (Below.refl w.heap.size w)
  have H : (forebearlaw08_Entries.l0 k l0 ([] : List (S76)) 0) = some r := h
  clear h
  have H' := Aside0.mk H
  clear H
  go_enter Try.func12, Try.ntmps12
  go_wp2
  go_loopg [3, 4] k (fun kq v3 v4 w' => ∃ (x3_1 : List (S76)) (x4_1 : Int), v4 = .int .i64 x4_1 ∧ Aside0 (forebearlaw08_Entries.l0 kq l0 x3_1 x4_1 = some r) ∧ Aside0 (kq ≤ k) ∧ Aside0 (Kd.R k76 76 w' w.heap.size (fun _ => True) v3 x3_1) ∧ Aside0 (Below w.heap.size w w'))
  case atStart => exact ⟨(([] : List (S76))), (0), (by first | rfl | (simp; done) | (simp [*]; done)), H', ⟨Nat.le_refl _⟩, ⟨by first | exact Kd.R_nil _ _ _ _ _ | exact Kd.N_nil _ _ _ _ _ | exact Kd.V_nil _ _ _ _ _ | exact Kd.Q_nil _ _ _ _ _ | exact Kd.S_nil _ _ _ _ _⟩, ⟨by repeat (first | (with_reducible first | exact HB.out | apply below_alloc | apply pw_below_drewN | apply below_drew1) | exact HB.out)⟩⟩
  case round =>
    clear H'
    try clear c1
    obtain ⟨x3_1, x4_1, rfl, HA, HK1, HO_3, HB⟩ := hrel
    cases gk with
    | zero => exact absurd HA.out (by simp [forebearlaw08_Entries.l0])
    | succ k1 =>
      have H := HA.out
      clear HA
      simp only [forebearlaw08_Entries.l0] at H
      by_cases c2 : x4_1 < (l0.length : Int)
      · rw [if_pos c2] at H
        have c2b0 : decide (x4_1 < (l0.length : Int)) = true := decide_eq_true c2
        clear c2
        by_cases c3 : 0 ≤ x4_1
        · rw [if_pos c3] at H
          have c3b0 : decide (0 ≤ x4_1) = true := decide_eq_true c3
          clear c3
          by_cases c4 : x3_1.length < 5864062014805
          · rw [if_pos c4] at H
            have LMc4 := Aside0.mk c4
            clear c4
            obtain ⟨y208, hy208⟩ : ∃ y_ : List (S76), y_ = (x3_1 ++ [(⟨(rd_T38 l0 x4_1).f0, (rd_T38 l0 x4_1).f1⟩ : S76)]) := ⟨_, rfl⟩
            replace H : (forebearlaw08_Entries.l0 k1 l0 y208 (wrap64 (x4_1 + 1))) = some r := by first | (rw [hy208]; with_reducible exact H) | (have H2_ := (Option.bind_some _ _).symm.trans H; rw [hy208]; with_reducible exact H2_) | (have H2_ := (Option.bind_some _ _).symm.trans H; with_reducible exact H2_) | with_reducible exact H | (rw [hy208]; exact H) | exact H
            have Ny208 := Aside0.mk hy208
            clear hy208
            have H' := Aside0.mk H
            clear H
            try go_wp2
            have n0_ := Aside0.mk (Kd.R_drew HO_3.out)
            have n1_ := Aside0.mk (below_drew1 HB.out)
            clear HO_3
            clear HB
            have HO_3 := n0_
            have HB := n1_
            clear n0_ n1_
            have p206 : 0 ≤ (x4_1 : Int) := of_decide_eq_true (by first | (with_reducible assumption) | assumption)
            have q206 : x4_1 < (l0.length : Int) := of_decide_eq_true (by first | (with_reducible assumption) | assumption)
            obtain ⟨ad206, e206, hx206_0, hx206_1⟩ := at_T38 HR0.out x4_1 p206 q206
            have hw206_1 := hx206_1
            have hw206_0 := hx206_0
            cases e206
            try replace hx206_0 := (HB.out.cell (World.block_lt_of_cell? w _ hx206_0)).trans hx206_0
            try replace hx206_1 := (HB.out.cell (World.block_lt_of_cell? w _ hx206_1)).trans hx206_1
            replace p206 := eq_true p206
            replace q206 := eq_true q206
            have p207 : 0 ≤ (x4_1 : Int) := of_decide_eq_true (by first | (with_reducible assumption) | assumption)
            have q207 : x4_1 < (l0.length : Int) := of_decide_eq_true (by first | (with_reducible assumption) | assumption)
            obtain ⟨ad207, e207, hx207_0, hx207_1⟩ := at_T38 HR0.out x4_1 p207 q207
            have hw207_1 := hx207_1
            have hw207_0 := hx207_0
            obtain rfl : ad206 = ad207 := (by injection e207)
            try replace hx207_0 := (HB.out.cell (World.block_lt_of_cell? w _ hx207_0)).trans hx207_0
            try replace hx207_1 := (HB.out.cell (World.block_lt_of_cell? w _ hx207_1)).trans hx207_1
            replace p207 := eq_true p207
            replace q207 := eq_true q207
            refine start_ (n := 15) (S := fun w' => w'.cell? (ad206.add ((x4_1).toNat * 2)) = some (.string ((rd_T38 l0 x4_1).f0)) ∧ w'.cell? ⟨(ad206.add ((x4_1).toNat * 2)).block, (ad206.add ((x4_1).toNat * 2)).off + 1, none⟩ = some (.int .u64 ((rd_T38 l0 x4_1).f1)) ∧ w'.cell? (ad206.add ((x4_1).toNat * 2)) = some (.string ((rd_T38 l0 x4_1).f0)) ∧ w'.cell? ⟨(ad206.add ((x4_1).toNat * 2)).block, (ad206.add ((x4_1).toNat * 2)).off + 1, none⟩ = some (.int .u64 ((rd_T38 l0 x4_1).f1))) (ds := []) #[false, false, false, false, false, false, false, false, false, false, false, false, false, false, false] (by kernel_rfl) rfl rfl ⟨((HB.out.cell (World.block_lt_of_cell? w _ hw206_0)).trans hw206_0), ((HB.out.cell (World.block_lt_of_cell? w _ hw206_1)).trans hw206_1), ((HB.out.cell (World.block_lt_of_cell? w _ hw207_0)).trans hw207_0), ((HB.out.cell (World.block_lt_of_cell? w _ hw207_1)).trans hw207_1)⟩ (fun hHeld => ?_); refine with_tabW forebearlaw08_Entries.tab5 forebearlaw08_Entries.bits5 (fun HT_ HW_ => ?_)
            generalize wr.drew = w5 at HO_3 HB hx206_0 hx206_1 hx207_0 hx207_1 hHeld ⊢
            refine pure_ (i := 0) (N := some 11) (v := ?_) (a' := ?_) #[true, false, false, false, false, false, false, false, false, false, false, false, false, false, false] rfl rfl (any_of HT_.out (by kernel_rfl)) (fun _ _ _ h => h) (Or.inl ⟨by rfl, ?_⟩) ?_ ?_
            rotate_left
            · intro w'
              go_simp
              with_reducible rfl
            rotate_left
            · simp only [Act.put, List.setIfInBounds_toArray, List.set_cons_zero, List.set_cons_succ, i64_w, i32_w]
              rfl
            refine pure_ (i := 1) (N := some 12) (v := ?_) (a' := ?_) #[true, true, false, false, false, false, false, false, false, false, false, false, false, false, false] rfl rfl (any_of HT_.out (by kernel_rfl)) (fun _ _ _ h => h) (Or.inl ⟨by rfl, ?_⟩) ?_ ?_
            rotate_left
            · intro w'
              go_simp
              with_reducible rfl
            rotate_left
            · simp only [Act.put, List.setIfInBounds_toArray, List.set_cons_zero, List.set_cons_succ, i64_w, i32_w]
              rfl
            refine pure_ (i := 2) (N := some 13) (v := ?_) (a' := ?_) #[true, true, true, false, false, false, false, false, false, false, false, false, false, false, false] rfl rfl (any_of HT_.out (by kernel_rfl)) (fun _ _ _ h => h) (Or.inl ⟨by rfl, ?_⟩) ?_ ?_
            rotate_left
            · intro w'
              go_simp
              with_reducible rfl
            rotate_left
            · simp only [Act.put, List.setIfInBounds_toArray, List.set_cons_zero, List.set_cons_succ, i64_w, i32_w]
              rfl
            refine pure_ (i := 3) (N := some 14) (v := ?_) (a' := ?_) #[true, true, true, true, false, false, false, false, false, false, false, false, false, false, false] rfl rfl (any_of HT_.out (by kernel_rfl)) (fun _ _ _ h => h) (Or.inl ⟨by rfl, ?_⟩) ?_ ?_
            rotate_left
            · intro w'
              go_simp
              with_reducible rfl
            rotate_left
            · simp only [Act.put, List.setIfInBounds_toArray, List.set_cons_zero, List.set_cons_succ, i64_w, i32_w]
              rfl
            refine pure_ (i := 4) (N := some 15) (v := ?_) (a' := ?_) #[true, true, true, true, true, false, false, false, false, false, false, false, false, false, false] rfl rfl (any_of HT_.out (by kernel_rfl)) (fun _ _ _ h => h) (Or.inl ⟨by rfl, ?_⟩) ?_ ?_
            rotate_left
            · intro w'
              go_simp
              with_reducible rfl
            rotate_left
            · simp only [Act.put, List.setIfInBounds_toArray, List.set_cons_zero, List.set_cons_succ, i64_w, i32_w]
              rfl
            refine pure_ (i := 6) (N := some 17) (v := ?_) (a' := ?_) #[true, true, true, true, true, false, true, false, false, false, false, false, false, false, false] rfl rfl (any_of HT_.out (by kernel_rfl)) (fun _ _ _ h => h) (Or.inl ⟨by rfl, ?_⟩) ?_ ?_
            rotate_left
            · intro w'
              go_simp
              with_reducible rfl
            rotate_left
            · simp only [Act.put, List.setIfInBounds_toArray, List.set_cons_zero, List.set_cons_succ, i64_w, i32_w]
              rfl
            refine pure_ (i := 7) (N := some 18) (v := ?_) (a' := ?_) #[true, true, true, true, true, false, true, true, false, false, false, false, false, false, false] rfl rfl (any_of HT_.out (by kernel_rfl)) (fun _ _ _ h => h) (Or.inl ⟨by rfl, ?_⟩) ?_ ?_
            rotate_left
            · intro w'
              go_simp
              with_reducible rfl
            rotate_left
            · simp only [Act.put, List.setIfInBounds_toArray, List.set_cons_zero, List.set_cons_succ, i64_w, i32_w]
              rfl
            refine pure_ (i := 8) (N := some 19) (v := ?_) (a' := ?_) #[true, true, true, true, true, false, true, true, true, false, false, false, false, false, false] rfl rfl (any_of HT_.out (by kernel_rfl)) (fun _ _ _ h => h) (Or.inl ⟨by rfl, ?_⟩) ?_ ?_
            rotate_left
            · intro w'
              go_simp
              with_reducible rfl
            rotate_left
            · simp only [Act.put, List.setIfInBounds_toArray, List.set_cons_zero, List.set_cons_succ, i64_w, i32_w]
              rfl
            refine pure_ (i := 9) (N := some 20) (v := ?_) (a' := ?_) #[true, true, true, true, true, false, true, true, true, true, false, false, false, false, false] rfl rfl (any_of HT_.out (by kernel_rfl)) (fun _ _ _ h => h) (Or.inl ⟨by rfl, ?_⟩) ?_ ?_
            rotate_left
            · intro w'
              go_simp
              with_reducible rfl
            rotate_left
            · simp only [Act.put, List.setIfInBounds_toArray, List.set_cons_zero, List.set_cons_succ, i64_w, i32_w]
              rfl
            refine take_ (i := 5) (N := some 16) (v := ?_) (a' := ?_) #[true, true, true, true, true, true, true, true, true, true, false, false, false, false, false] rfl rfl (take_ofW HT_.out HW_.out (by kernel_rfl)) (fun _ _ _ h => h) (Or.inl ⟨by rfl, ?_⟩) hHeld ?_ ?_
            rotate_left
            · rintro w' ⟨s0, s1, s2, s3⟩
              go_simp
              with_reducible rfl
            rotate_left
            · simp only [Act.put, List.setIfInBounds_toArray, List.set_cons_zero, List.set_cons_succ, i64_w, i32_w]
              rfl
            refine take_ (i := 10) (N := some 21) (v := ?_) (a' := ?_) #[true, true, true, true, true, true, true, true, true, true, true, false, false, false, false] rfl rfl (take_ofW HT_.out HW_.out (by kernel_rfl)) (fun _ _ _ h => h) (Or.inl ⟨by rfl, ?_⟩) hHeld ?_ ?_
            rotate_left
            · rintro w' ⟨s0, s1, s2, s3⟩
              go_simp
              with_reducible rfl
            rotate_left
            · simp only [Act.put, List.setIfInBounds_toArray, List.set_cons_zero, List.set_cons_succ, i64_w, i32_w]
              rfl
            refine pure_ (i := 11) (N := some 22) (v := ?_) (a' := ?_) #[true, true, true, true, true, true, true, true, true, true, true, true, false, false, false] rfl rfl (any_of HT_.out (by kernel_rfl)) (fun _ _ _ h => h) (Or.inl ⟨by rfl, ?_⟩) ?_ ?_
            rotate_left
            · intro w'
              go_simp
              with_reducible rfl
            rotate_left
            · simp only [Act.put, List.setIfInBounds_toArray, List.set_cons_zero, List.set_cons_succ, i64_w, i32_w]
              rfl
            refine one_ (i := 12) (N := some 23) #[true, true, true, true, true, true, true, true, true, true, true, true, true, false, false] rfl rfl (one_of HT_.out (by kernel_rfl)) (by decide) (fun K hK => ?_)
            refine value_ (w1 := ?_) (v := ?_) (by rfl) rfl ?_ ?_
            rotate_left 2
            · go_simp
              constructor
              · rfl
              · rfl
            refine hK.out _ _ ⟨(World.cell?_alloc_lt _ _ _ (World.block_lt_of_cell? _ _ (((HB.out.cell (World.block_lt_of_cell? w _ hw206_0)).trans hw206_0)))).trans (((HB.out.cell (World.block_lt_of_cell? w _ hw206_0)).trans hw206_0)), (World.cell?_alloc_lt _ _ _ (World.block_lt_of_cell? _ _ (((HB.out.cell (World.block_lt_of_cell? w _ hw206_1)).trans hw206_1)))).trans (((HB.out.cell (World.block_lt_of_cell? w _ hw206_1)).trans hw206_1)), (World.cell?_alloc_lt _ _ _ (World.block_lt_of_cell? _ _ (((HB.out.cell (World.block_lt_of_cell? w _ hw207_0)).trans hw207_0)))).trans (((HB.out.cell (World.block_lt_of_cell? w _ hw207_0)).trans hw207_0)), (World.cell?_alloc_lt _ _ _ (World.block_lt_of_cell? _ _ (((HB.out.cell (World.block_lt_of_cell? w _ hw207_1)).trans hw207_1)))).trans (((HB.out.cell (World.block_lt_of_cell? w _ hw207_1)).trans hw207_1))⟩ (fun hHeld => ?_)
            clear hK K
            refine norm_ (a' := ?_) ?_ ?_
            rotate_left
            · show Act.put _ (some 23) _ = _
              simp only [Act.put, List.setIfInBounds_toArray, List.set_cons_zero, List.set_cons_succ, i64_w, i32_w]
              rfl
            refine one_ (i := 13) (N := some 24) #[true, true, true, true, true, true, true, true, true, true, true, true, true, true, false] rfl rfl (one_of HT_.out (by kernel_rfl)) (by decide) (fun K hK => ?_)
            refine Kd.R_append_step k76 (w0 := w) w.heap.size (by rfl) (.tmp 11) (.tmp 23) 29 76 (.agg #[(.string ⟨#[]⟩), (.int .u64 0)]) 24 rfl Try.underlying29 info76 rfl (by decide) (by omega) u3 x3_1 (⟨(rd_T38 l0 x4_1).f0, (rd_T38 l0 x4_1).f1⟩ : S76) [.string ((rd_T38 l0 x4_1).f0), .int .u64 ((rd_T38 l0 x4_1).f1)] (fun _ => True) (fun _ => False) rfl rfl ?aP (fun _ hk => hk.elim) ?aF ?aO ?aB ?aS ?aL ?_
            (case aP => exact k76_mkM _ _ _ (⟨(rd_T38 l0 x4_1).f0, (rd_T38 l0 x4_1).f1⟩ : S76))
            (case aB => exact (by repeat (first | (with_reducible first | exact HB.out | apply below_alloc | apply pw_below_drewN | apply below_drew1) | exact HB.out)))
            (case aF => exact (fun _ _ => trivial))
            (case aO => exact (by (with_reducible repeat (first | apply Kd.R_alloc | apply Kd.R_drewN | apply Kd.R_drew)); exact HO_3.out))
            (case aS => exact (below_size (by repeat (first | (with_reducible first | exact HB.out | apply below_alloc | apply pw_below_drewN | apply below_drew1) | exact HB.out))))
            (case aL => have := LMc4.out; omega)
            intro v209 w6 ho hb hg hat
            rw [← Ny208.out] at ho
            have n0_ := Aside0.mk (hb)
            have n1_ := Aside0.mk (ho)
            clear HB
            clear HO_3
            have HB := n0_
            have HO210 := n1_
            clear n0_ n1_
            clear ho hb hg hat
            refine hK.out _ _ ⟨((HB.out.cell (World.block_lt_of_cell? w _ hw206_0)).trans hw206_0), ((HB.out.cell (World.block_lt_of_cell? w _ hw206_1)).trans hw206_1), ((HB.out.cell (World.block_lt_of_cell? w _ hw207_0)).trans hw207_0), ((HB.out.cell (World.block_lt_of_cell? w _ hw207_1)).trans hw207_1)⟩ (fun hHeld => ?_)
            clear hK K
            refine norm_ (a' := ?_) ?_ ?_
            rotate_left
            · show Act.put _ (some 24) _ = _
              simp only [Act.put, List.setIfInBounds_toArray, List.set_cons_zero, List.set_cons_succ, i64_w, i32_w]
              rfl
            refine pure_ (i := 14) (N := some 3) (v := ?_) (a' := ?_) #[true, true, true, true, true, true, true, true, true, true, true, true, true, true, true] rfl rfl (any_of HT_.out (by kernel_rfl)) (fun _ _ _ h => h) (Or.inl ⟨by rfl, ?_⟩) ?_ ?_
            rotate_left
            · intro w'
              go_simp
              with_reducible rfl
            rotate_left
            · simp only [Act.put, List.setIfInBounds_toArray, List.set_cons_zero, List.set_cons_succ, i64_w, i32_w]
              rfl
            refine done_ (done_of HT_.out (by kernel_rfl)) ?_
            try go_wp2
            go_roundg k1
            case measure => have := HK1.out; omega
            case rel => exact ⟨(y208), (wrap64 (x4_1 + 1)), (by first | rfl | (simp; done) | (simp [*]; done)), H', ⟨by have := HK1.out; omega⟩, ⟨by (with_reducible repeat (first | apply Kd.R_alloc | apply Kd.R_drewN | apply Kd.R_drew)); exact HO210.out⟩, ⟨by repeat (first | (with_reducible first | exact HB.out | apply below_alloc | apply pw_below_drewN | apply below_drew1) | exact HB.out)⟩⟩
          · rw [if_neg c4] at H
            exact absurd H (by simp)
        · rw [if_neg c3] at H
          exact absurd H (by simp)
      · rw [if_neg c2] at H
        have c2b0 : decide (x4_1 < (l0.length : Int)) = false := decide_eq_false c2
        clear c2
        obtain rfl := Option.some.inj H
        go_wp2
        go_ret
        exact ⟨_, by first | rfl | (simp [errW_none, errW_some] <;> rfl) | (simp [*, errW_none, errW_some] <;> rfl), by (with_reducible repeat (first | apply Kd.R_alloc | apply Kd.R_drewN | apply Kd.R_drew)); exact HO_3.out, by repeat (first | (with_reducible first | exact HB.out | apply below_alloc | apply pw_below_drewN | apply below_drew1) | exact HB.out)⟩

/-! ### forebearref03_Names: function 40 -/
def forebearref03_Names.l0 : Nat → ByteArray → List ByteArray → Int → Option (List ByteArray)
  | 0, _, _, _ => none
  | k + 1, x0, x3, x4 => if x4 < (x0.size : Int) then (if 0 ≤ x4 then (if (bt x0 x4) = 47 then (if x3.length < 8796093022208 then (forebearref03_Names.l0 k x0 (x3 ++ [(⟨#[]⟩ : ByteArray)]) (wrap64 (x4 + 1))) else none)
     else (if 0 < x3.length then (if (x3.getD (x3.length - 1) ByteArray.empty).size < 140737488355328 then (forebearref03_Names.l0 k x0 (x3.set (x3.length - 1) (x3.getD (x3.length - 1) ByteArray.empty ++ oneB (bt x0 x4))) (wrap64 (x4 + 1))) else none) else none)) else none) else some x3
def forebearref03_Names.f (k : Nat) (a0 : ByteArray) : Option (List ByteArray) := forebearref03_Names.l0 k a0 [(⟨#[]⟩ : ByteArray)] 0
theorem forebearref03_Names.mono_l : ∀ k, ∀ y0 y1 y2, LeO (forebearref03_Names.l0 k y0 y1 y2) (forebearref03_Names.l0 (k + 1) y0 y1 y2)
  | 0 => fun _ _ _ r h => by simp [forebearref03_Names.l0] at h
  | k + 1 => by
    have ih0 := forebearref03_Names.mono_l k
    intro y0 y1 y2
    unfold forebearref03_Names.l0
    repeat' first
    | (with_reducible exact ih0 _ _ _)
    | (with_reducible exact LeO.refl _)
    | (with_reducible exact LeO.none _)
    | (with_reducible refine LeO.ite ?_ ?_)
    | (with_reducible refine LeO.bind ?_ (fun _ => ?_))
    | exact ih0 _ _ _
    | exact LeO.none _
    | refine LeO.ite ?_ ?_
    | refine LeO.bind ?_ (fun _ => ?_)
theorem forebearref03_Names.mono : ∀ a0 k, LeO (forebearref03_Names.f k a0) (forebearref03_Names.f (k + 1) a0) := fun a0 k => forebearref03_Names.mono_l k _ _ _
set_option maxHeartbeats 8000000 in
set_option maxRecDepth 100000 in
theorem forebearref03_Names.calls (k : Nat) (a0 : ByteArray) (r : List ByteArray) (w : World) (h : forebearref03_Names.f k a0 = some r) :
    Calls Try.prog 40 #[.string a0] w fun e w' => ∃ v0_ : Value, e = .returned (v0_) ∧ Kd.R Kd.string 9 w' w.heap.size (fun _ => True) v0_ r ∧ Below w.heap.size w w' := by
  have HB := Aside0.mk (Below.refl w.heap.size w)
  have H' := Aside0.mk (show forebearref03_Names.l0 k a0 [(⟨#[]⟩ : ByteArray)] 0 = some r from h)
  clear h
  go_enter Try.func40, Try.ntmps40
  go_wp2
  go_loopg [3, 4] k (fun kq v3 v4 w' => ∃ (x3_1 : List ByteArray) (x4_1 : Int), v4 = .int .i64 x4_1 ∧ Aside0 (forebearref03_Names.l0 kq a0 x3_1 x4_1 = some r) ∧ Aside0 (kq ≤ k) ∧ Aside0 (Kd.R Kd.string 9 w' w.heap.size (fun _ => True) v3 x3_1) ∧ Aside0 (Below w.heap.size w w'))
  case atStart => exact ⟨[(⟨#[]⟩ : ByteArray)], 0, rfl, H', ⟨Nat.le_refl _⟩, ⟨Kd.R_of_own (World.ownsRow_lit (size := 1) w #[.string ⟨#[]⟩] 1 (Nat.le_refl _) (by decide) (by simp)) (fun _ _ => trivial)⟩, ⟨below_alloc HB.out _⟩⟩
  case round =>
    clear H'
    obtain ⟨x3_1, x4_1, rfl, HA, HK1, HO_3, HB⟩ := hrel
    cases gk with
    | zero => exact absurd HA.out (by simp [forebearref03_Names.l0])
    | succ k1 =>
      have H := HA.out
      clear HA
      simp only [forebearref03_Names.l0] at H
      by_cases c4 : x4_1 < (a0.size : Int)
      · rw [if_pos c4] at H
        have c4b0 : decide (x4_1 < (a0.size : Int)) = true := decide_eq_true c4
        clear c4
        by_cases c5 : 0 ≤ x4_1
        · rw [if_pos c5] at H
          have c5b0 : decide (0 ≤ x4_1) = true := decide_eq_true c5
          clear c5
          have p7 : 0 ≤ (x4_1 : Int) := of_decide_eq_true (by first | (with_reducible assumption) | assumption)
          have q7 : x4_1 < (a0.size : Int) := of_decide_eq_true (by first | (with_reducible assumption) | assumption)
          have hx7 := bt_at a0 x4_1
          by_cases c8 : (bt a0 x4_1) = 47
          · rw [if_pos c8] at H
            have c8b0 : ((bt a0 x4_1) == 47) = true := beq_iff_eq.mpr c8
            clear c8
            by_cases c11 : x3_1.length < 8796093022208
            · rw [if_pos c11] at H
              have LMc11 := Aside0.mk c11
              clear c11
              have H' := Aside0.mk H
              clear H
              replace p7 := eq_true p7
              replace q7 := eq_true q7
              go_wp2_with (first | ((with_reducible refine gate_builtin (b := .append) (xs := #[.tmp 16, .tmp 17]) rfl ?_); at_builtin; refine Kd.R_append Kd.string (w0 := w) w.heap.size rfl (.tmp 16) (.tmp 17) 34 9 (.string ⟨#[]⟩) 16 rfl Try.underlying34 info9 rfl (by decide) (by omega) u3 x3_1 (⟨#[]⟩ : ByteArray) [.string ⟨#[]⟩] (fun _ => True) (fun _ => False) rfl rfl ?aP (fun _ hk => hk.elim) ?aF ?aO ?aB ?aS ?aL ?_; (case aP => exact rfl); (case aB => exact (by repeat (first | (with_reducible first | exact HB.out | apply below_alloc | apply pw_below_drewN | apply below_drew1) | exact HB.out))); (case aF => exact (fun _ _ => trivial)); (case aO => exact (by (with_reducible repeat (first | apply Kd.R_alloc | apply Kd.R_drewN | apply Kd.R_drew)); exact HO_3.out)); (case aS => exact (below_size (by repeat (first | (with_reducible first | exact HB.out | apply below_alloc | apply pw_below_drewN | apply below_drew1) | exact HB.out)))); (case aL => have := LMc11.out; omega); intro v104 w12 ho hb hg hat; have n0_ := Aside0.mk (hb); have n1_ := Aside0.mk (ho); clear HB; clear HO_3; have HB := n0_; have HO105 := n1_; clear n0_ n1_; clear ho hb hg hat))
              go_roundg k1
              case measure => have := HK1.out; omega
              case rel => exact ⟨(x3_1 ++ [(⟨#[]⟩ : ByteArray)]), (wrap64 (x4_1 + 1)), (by first | rfl | (simp; done) | (simp [*]; done)), H', ⟨by have := HK1.out; omega⟩, ⟨by (with_reducible repeat (first | apply Kd.R_alloc | apply Kd.R_drewN | apply Kd.R_drew)); exact HO105.out⟩, ⟨by repeat (first | (with_reducible first | exact HB.out | apply below_alloc | apply pw_below_drewN | apply below_drew1) | exact HB.out)⟩⟩
            · rw [if_neg c11] at H
              exact absurd H (by simp)
          · rw [if_neg c8] at H
            have c8b0 : ((bt a0 x4_1) == 47) = false := beq_eq_false_iff_ne.mpr c8
            clear c8
            by_cases c12 : 0 < x3_1.length
            · rw [if_pos c12] at H
              by_cases c13 : (x3_1.getD (x3_1.length - 1) ByteArray.empty).size < 140737488355328
              · rw [if_pos c13] at H
                have H' := Aside0.mk H
                clear H
                have hmax := R_len_le HO_3.out
                obtain ⟨ad, cap, hu3⟩ := Kd.R_slice1 HO_3.out c12
                subst hu3
                obtain ⟨g, rfl⟩ := Kd.R_head HO_3.out
                obtain ⟨hcell, hfr⟩ := Kd.R_cell ByteArray.empty HO_3.out ((x3_1.length - 1 : Nat) : Int) (by omega) (by omega)
                simp only [rdOf, Int.toNat_natCast] at hcell hfr
                have hlt := World.block_lt_of_cell? _ _ hcell
                simp only at hlt
                obtain ⟨n, hn⟩ : ∃ n : Nat, n + 1 = x3_1.length := ⟨x3_1.length - 1, by omega⟩
                have hn' : x3_1.length - 1 = n := by omega
                rw [hn'] at hcell hfr H' c13
                rw [← hn] at HO_3 hmax
                rw [← hn]
                clear hn'
                have HN := Aside0.mk hn
                clear hn
                have hcv : (convert 84 9 (.slice (some ⟨wr.heap.size, 0, none⟩) 1 1)).run Try.prog ((wr.alloc (.cells #[.int .u8 (bt a0 x4_1)] 5)).drew) = .ok (.string (oneB (bt a0 x4_1))) ((wr.alloc (.cells #[.int .u8 (bt a0 x4_1)] 5)).drew) :=
                  own_string (P := Try.prog) Try.underlying84 Try.underlying5 Try.underlying9 (pw_own_below (World.ownsRow_lit (base := 0) (e := 5) (size := 1) wr #[.int .u8 (bt a0 x4_1)] 1 (Nat.zero_le _) (by decide) (by simp)) (below_drew (Below.refl _ _)))
                have hadd := fun (W : World) => run_string_add_sum (P := Try.prog) (w := W) (x3_1[n]?.getD ByteArray.empty) (oneB (bt a0 x4_1)) (by
                  have h1 : (oneB (bt a0 x4_1)).size = 1 := rfl
                  rw [List.getD_eq_getElem?_getD] at c13
                  omega)
                have e1 : IntKind.i64.wrap (n : Int) = (n : Int) := IntWalk.i64_in _ (by omega)
                have e5 : 0 ≤ (n : Int) := by omega
                go_wp2
                go_region
                go_wp2
                go_roundg k1
                case measure => have := HK1.out; omega
                case rel =>
                  have HO := HO_3.out
                  rw [HN.out] at HO
                  obtain ⟨hput, hgr⟩ := Kd.R_put HO (n : Int) (x3_1.getD n ByteArray.empty ++ oneB (bt a0 x4_1))
                  rw [Int.toNat_natCast] at hput hgr
                  rw [← List.getD_eq_getElem?_getD, HN.out]
                  refine ⟨_, _, rfl, H', ⟨by have := HK1.out; omega⟩, ⟨Kd.R_drew (Kd.R_alloc hput _)⟩, ⟨below_drew (below_alloc (pw_below_grown HB.out (some g) (below_size HB.out) hgr (fun k hk => ?_)) _)⟩⟩
                  obtain rfl := Option.some.inj hk
                  exact Kd.R_base HO _ rfl
              · rw [if_neg c13] at H
                exact absurd H (by simp)
            · rw [if_neg c12] at H
              exact absurd H (by simp)
        · rw [if_neg c5] at H
          exact absurd H (by simp)
      · rw [if_neg c4] at H
        have c4b0 : decide (x4_1 < (a0.size : Int)) = false := decide_eq_false c4
        clear c4
        obtain rfl := Option.some.inj H
        go_wp2
        go_ret
        exact ⟨_, by first | rfl | (simp [errW_none, errW_some] <;> rfl) | (simp [*, errW_none, errW_some] <;> rfl), by (with_reducible repeat (first | apply Kd.R_alloc | apply Kd.R_drewN | apply Kd.R_drew)); exact HO_3.out, by repeat (first | (with_reducible first | exact HB.out | apply below_alloc | apply pw_below_drewN | apply below_drew1) | exact HB.out)⟩

end Go.Proofs.Ytjnefjggmeieaaa.MT

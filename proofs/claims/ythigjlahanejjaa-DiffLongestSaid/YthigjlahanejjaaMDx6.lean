/- Laid by this claim's own program (myprint) out of the translation: functions that the laws of the group D reach, each as a plain function, with the proof that the Go code comes to it. No condition. -/
import Derived.Test.YthigjlahanejjaaMDx0
import Derived.Test.YthigjlahanejjaaMDx1
import Derived.Test.YthigjlahanejjaaMDx3
import Derived.Test.YthigjlahanejjaaMDx4
import Derived.Test.YthigjlahanejjaaMDx5
namespace Go.Proofs.Ythigjlahanejjaa.MD
open Go.Proofs.Ythigjlahanejjaa.Opening
open Go.RowKit Go.Proofs.YthigjlahanejjaaW.PrintWords Go.Proofs.YthigjlahanejjaaW.PrintLast Go.Proofs.YthigjlahanejjaaW.PrintMore
attribute [local go_sem] max2_int min2_int max_two min_two max_three min_three max_four min_four   -- for this text's walks alone
set_option linter.unusedVariables false
set_option linter.unusedSimpArgs false

attribute [local go_sem high] eqA39
/-! ### forebearlaw05_awake: function 12 -/
def forebearlaw05_awake.f (k : Nat)  : Option (Bool) := (diff_Match.f k (([(⟨#[97]⟩ : ByteArray), (⟨#[98]⟩ : ByteArray), (⟨#[99]⟩ : ByteArray)] : List ByteArray)) (([(⟨#[98]⟩ : ByteArray), (⟨#[120]⟩ : ByteArray), (⟨#[99]⟩ : ByteArray)] : List ByteArray))).bind fun bt170 => ((diff_Hunks.f k (([(⟨#[97]⟩ : ByteArray)] : List ByteArray)) (([(⟨#[98]⟩ : ByteArray)] : List ByteArray))).bind fun bt180 => ((diff_Apply.f k (([(⟨#[97]⟩ : ByteArray)] : List ByteArray)) (([(⟨0, 0, (([(⟨#[97]⟩ : ByteArray)] : List ByteArray)), (([(⟨#[98]⟩ : ByteArray), (⟨#[99]⟩ : ByteArray)] : List ByteArray))⟩ : S46)] : List (S46)))).bind fun bt196 => (if bt170.2 = 0 then (if bt180.2 = 0 then (if bt196.2 = 0 then (if (bt170.1.length : Int) = 2 then (if 0 < (bt170.1.length : Int) then (if (((rd_T39 bt170.1 0).f0) == 1 && (((rd_T39 bt170.1 0).f1) == 0)) = true then (if 1 < (bt170.1.length : Int) then (if (((rd_T39 bt170.1 1).f0) == 2 && (((rd_T39 bt170.1 1).f1) == 2)) = true then (if (bt180.1.length : Int) = 1 then (some ((bt196.1.length : Int) == 2)) else (some false)) else (some false)) else (none)) else (some false)) else (none)) else (some false)) else (some false)) else (some false)) else (some false))))
theorem forebearlaw05_awake.mono : ∀ k, LeO (forebearlaw05_awake.f k ) (forebearlaw05_awake.f (k + 1) ) := by
 intro  k
 unfold forebearlaw05_awake.f
 repeat' first
   | (with_reducible exact diff_Apply.mono _ _ _)
   | (with_reducible exact diff_Hunks.mono _ _ _)
   | (with_reducible exact diff_Match.mono _ _ _)
   | (with_reducible exact LeO.refl _)
   | (with_reducible exact LeO.none _)
   | (with_reducible refine LeO.ite ?_ ?_)
   | (with_reducible refine LeO.bind ?_ (fun _ => ?_))
   | exact diff_Apply.mono _ _ _
   | exact diff_Hunks.mono _ _ _
   | exact diff_Match.mono _ _ _
   | exact LeO.none _
   | refine LeO.ite ?_ ?_
   | refine LeO.bind ?_ (fun _ => ?_)
set_option maxHeartbeats 8000000 in
set_option maxRecDepth 100000 in
theorem forebearlaw05_awake.calls (k : Nat)  (r : Bool) (w : World) (h : forebearlaw05_awake.f k  = some r) :
  Calls Try.prog 12 #[] w fun e w' => e = .returned (.bool r) ∧ Below w.heap.size w w' := by
 have hu46 := Try.underlying46
 have hu39 := Try.underlying39
 have HB := Aside0.mk (Below.refl w.heap.size w)
 have H : ((diff_Match.f k (([(⟨#[97]⟩ : ByteArray), (⟨#[98]⟩ : ByteArray), (⟨#[99]⟩ : ByteArray)] : List ByteArray)) (([(⟨#[98]⟩ : ByteArray), (⟨#[120]⟩ : ByteArray), (⟨#[99]⟩ : ByteArray)] : List ByteArray))).bind fun bt170 => ((diff_Hunks.f k (([(⟨#[97]⟩ : ByteArray)] : List ByteArray)) (([(⟨#[98]⟩ : ByteArray)] : List ByteArray))).bind fun bt180 => ((diff_Apply.f k (([(⟨#[97]⟩ : ByteArray)] : List ByteArray)) (([(⟨0, 0, (([(⟨#[97]⟩ : ByteArray)] : List ByteArray)), (([(⟨#[98]⟩ : ByteArray), (⟨#[99]⟩ : ByteArray)] : List ByteArray))⟩ : S46)] : List (S46)))).bind fun bt196 => (if bt170.2 = 0 then (if bt180.2 = 0 then (if bt196.2 = 0 then (if (bt170.1.length : Int) = 2 then (if 0 < (bt170.1.length : Int) then (if (((rd_T39 bt170.1 0).f0) == 1 && (((rd_T39 bt170.1 0).f1) == 0)) = true then (if 1 < (bt170.1.length : Int) then (if (((rd_T39 bt170.1 1).f0) == 2 && (((rd_T39 bt170.1 1).f1) == 2)) = true then (if (bt180.1.length : Int) = 1 then (some ((bt196.1.length : Int) == 2)) else (some false)) else (some false)) else (none)) else (some false)) else (none)) else (some false)) else (some false)) else (some false)) else (some false))))) = some r := h
 clear h
 obtain ⟨y164, hy164⟩ : ∃ y_ : List ByteArray, y_ = (([(⟨#[97]⟩ : ByteArray), (⟨#[98]⟩ : ByteArray), (⟨#[99]⟩ : ByteArray)] : List ByteArray)) := ⟨_, rfl⟩
 replace H : ((diff_Match.f k y164 (([(⟨#[98]⟩ : ByteArray), (⟨#[120]⟩ : ByteArray), (⟨#[99]⟩ : ByteArray)] : List ByteArray))).bind fun bt170 => ((diff_Hunks.f k (([(⟨#[97]⟩ : ByteArray)] : List ByteArray)) (([(⟨#[98]⟩ : ByteArray)] : List ByteArray))).bind fun bt180 => ((diff_Apply.f k (([(⟨#[97]⟩ : ByteArray)] : List ByteArray)) (([(⟨0, 0, (([(⟨#[97]⟩ : ByteArray)] : List ByteArray)), (([(⟨#[98]⟩ : ByteArray), (⟨#[99]⟩ : ByteArray)] : List ByteArray))⟩ : S46)] : List (S46)))).bind fun bt196 => (if bt170.2 = 0 then (if bt180.2 = 0 then (if bt196.2 = 0 then (if (bt170.1.length : Int) = 2 then (if 0 < (bt170.1.length : Int) then (if (((rd_T39 bt170.1 0).f0) == 1 && (((rd_T39 bt170.1 0).f1) == 0)) = true then (if 1 < (bt170.1.length : Int) then (if (((rd_T39 bt170.1 1).f0) == 2 && (((rd_T39 bt170.1 1).f1) == 2)) = true then (if (bt180.1.length : Int) = 1 then (some ((bt196.1.length : Int) == 2)) else (some false)) else (some false)) else (none)) else (some false)) else (none)) else (some false)) else (some false)) else (some false)) else (some false))))) = some r := by first | (rw [hy164]; with_reducible exact H) | (have H2_ := (Option.bind_some _ _).symm.trans H; rw [hy164]; with_reducible exact H2_) | (have H2_ := (Option.bind_some _ _).symm.trans H; with_reducible exact H2_) | with_reducible exact H | (rw [hy164]; exact H) | exact H
 have Ny164 := Aside0.mk hy164
 clear hy164
 obtain ⟨y167, hy167⟩ : ∃ y_ : List ByteArray, y_ = (([(⟨#[98]⟩ : ByteArray), (⟨#[120]⟩ : ByteArray), (⟨#[99]⟩ : ByteArray)] : List ByteArray)) := ⟨_, rfl⟩
 replace H : ((diff_Match.f k y164 y167).bind fun bt170 => ((diff_Hunks.f k (([(⟨#[97]⟩ : ByteArray)] : List ByteArray)) (([(⟨#[98]⟩ : ByteArray)] : List ByteArray))).bind fun bt180 => ((diff_Apply.f k (([(⟨#[97]⟩ : ByteArray)] : List ByteArray)) (([(⟨0, 0, (([(⟨#[97]⟩ : ByteArray)] : List ByteArray)), (([(⟨#[98]⟩ : ByteArray), (⟨#[99]⟩ : ByteArray)] : List ByteArray))⟩ : S46)] : List (S46)))).bind fun bt196 => (if bt170.2 = 0 then (if bt180.2 = 0 then (if bt196.2 = 0 then (if (bt170.1.length : Int) = 2 then (if 0 < (bt170.1.length : Int) then (if (((rd_T39 bt170.1 0).f0) == 1 && (((rd_T39 bt170.1 0).f1) == 0)) = true then (if 1 < (bt170.1.length : Int) then (if (((rd_T39 bt170.1 1).f0) == 2 && (((rd_T39 bt170.1 1).f1) == 2)) = true then (if (bt180.1.length : Int) = 1 then (some ((bt196.1.length : Int) == 2)) else (some false)) else (some false)) else (none)) else (some false)) else (none)) else (some false)) else (some false)) else (some false)) else (some false))))) = some r := by first | (rw [hy167]; with_reducible exact H) | (have H2_ := (Option.bind_some _ _).symm.trans H; rw [hy167]; with_reducible exact H2_) | (have H2_ := (Option.bind_some _ _).symm.trans H; with_reducible exact H2_) | with_reducible exact H | (rw [hy167]; exact H) | exact H
 have Ny167 := Aside0.mk hy167
 clear hy167
 replace H := Option.bind_eq_some_iff.mp H
 obtain ⟨⟨t170, t171⟩, A10, H⟩ := H
 replace H : ((diff_Hunks.f k (([(⟨#[97]⟩ : ByteArray)] : List ByteArray)) (([(⟨#[98]⟩ : ByteArray)] : List ByteArray))).bind fun bt180 => ((diff_Apply.f k (([(⟨#[97]⟩ : ByteArray)] : List ByteArray)) (([(⟨0, 0, (([(⟨#[97]⟩ : ByteArray)] : List ByteArray)), (([(⟨#[98]⟩ : ByteArray), (⟨#[99]⟩ : ByteArray)] : List ByteArray))⟩ : S46)] : List (S46)))).bind fun bt196 => (if t171 = 0 then (if bt180.2 = 0 then (if bt196.2 = 0 then (if (t170.length : Int) = 2 then (if 0 < (t170.length : Int) then (if (((rd_T39 t170 0).f0) == 1 && (((rd_T39 t170 0).f1) == 0)) = true then (if 1 < (t170.length : Int) then (if (((rd_T39 t170 1).f0) == 2 && (((rd_T39 t170 1).f1) == 2)) = true then (if (bt180.1.length : Int) = 1 then (some ((bt196.1.length : Int) == 2)) else (some false)) else (some false)) else (none)) else (some false)) else (none)) else (some false)) else (some false)) else (some false)) else (some false)))) = some r := H
 have A1 := Aside0.mk A10
 clear A10
 obtain ⟨y174, hy174⟩ : ∃ y_ : List ByteArray, y_ = (([(⟨#[97]⟩ : ByteArray)] : List ByteArray)) := ⟨_, rfl⟩
 replace H : ((diff_Hunks.f k y174 (([(⟨#[98]⟩ : ByteArray)] : List ByteArray))).bind fun bt180 => ((diff_Apply.f k (([(⟨#[97]⟩ : ByteArray)] : List ByteArray)) (([(⟨0, 0, (([(⟨#[97]⟩ : ByteArray)] : List ByteArray)), (([(⟨#[98]⟩ : ByteArray), (⟨#[99]⟩ : ByteArray)] : List ByteArray))⟩ : S46)] : List (S46)))).bind fun bt196 => (if t171 = 0 then (if bt180.2 = 0 then (if bt196.2 = 0 then (if (t170.length : Int) = 2 then (if 0 < (t170.length : Int) then (if (((rd_T39 t170 0).f0) == 1 && (((rd_T39 t170 0).f1) == 0)) = true then (if 1 < (t170.length : Int) then (if (((rd_T39 t170 1).f0) == 2 && (((rd_T39 t170 1).f1) == 2)) = true then (if (bt180.1.length : Int) = 1 then (some ((bt196.1.length : Int) == 2)) else (some false)) else (some false)) else (none)) else (some false)) else (none)) else (some false)) else (some false)) else (some false)) else (some false)))) = some r := by first | (rw [hy174]; with_reducible exact H) | (have H2_ := (Option.bind_some _ _).symm.trans H; rw [hy174]; with_reducible exact H2_) | (have H2_ := (Option.bind_some _ _).symm.trans H; with_reducible exact H2_) | with_reducible exact H | (rw [hy174]; exact H) | exact H
 have Ny174 := Aside0.mk hy174
 clear hy174
 obtain ⟨y177, hy177⟩ : ∃ y_ : List ByteArray, y_ = (([(⟨#[98]⟩ : ByteArray)] : List ByteArray)) := ⟨_, rfl⟩
 replace H : ((diff_Hunks.f k y174 y177).bind fun bt180 => ((diff_Apply.f k (([(⟨#[97]⟩ : ByteArray)] : List ByteArray)) (([(⟨0, 0, (([(⟨#[97]⟩ : ByteArray)] : List ByteArray)), (([(⟨#[98]⟩ : ByteArray), (⟨#[99]⟩ : ByteArray)] : List ByteArray))⟩ : S46)] : List (S46)))).bind fun bt196 => (if t171 = 0 then (if bt180.2 = 0 then (if bt196.2 = 0 then (if (t170.length : Int) = 2 then (if 0 < (t170.length : Int) then (if (((rd_T39 t170 0).f0) == 1 && (((rd_T39 t170 0).f1) == 0)) = true then (if 1 < (t170.length : Int) then (if (((rd_T39 t170 1).f0) == 2 && (((rd_T39 t170 1).f1) == 2)) = true then (if (bt180.1.length : Int) = 1 then (some ((bt196.1.length : Int) == 2)) else (some false)) else (some false)) else (none)) else (some false)) else (none)) else (some false)) else (some false)) else (some false)) else (some false)))) = some r := by first | (rw [hy177]; with_reducible exact H) | (have H2_ := (Option.bind_some _ _).symm.trans H; rw [hy177]; with_reducible exact H2_) | (have H2_ := (Option.bind_some _ _).symm.trans H; with_reducible exact H2_) | with_reducible exact H | (rw [hy177]; exact H) | exact H
 have Ny177 := Aside0.mk hy177
 clear hy177
 replace H := Option.bind_eq_some_iff.mp H
 obtain ⟨⟨t180, t181⟩, A20, H⟩ := H
 replace H : ((diff_Apply.f k (([(⟨#[97]⟩ : ByteArray)] : List ByteArray)) (([(⟨0, 0, (([(⟨#[97]⟩ : ByteArray)] : List ByteArray)), (([(⟨#[98]⟩ : ByteArray), (⟨#[99]⟩ : ByteArray)] : List ByteArray))⟩ : S46)] : List (S46)))).bind fun bt196 => (if t171 = 0 then (if t181 = 0 then (if bt196.2 = 0 then (if (t170.length : Int) = 2 then (if 0 < (t170.length : Int) then (if (((rd_T39 t170 0).f0) == 1 && (((rd_T39 t170 0).f1) == 0)) = true then (if 1 < (t170.length : Int) then (if (((rd_T39 t170 1).f0) == 2 && (((rd_T39 t170 1).f1) == 2)) = true then (if (t180.length : Int) = 1 then (some ((bt196.1.length : Int) == 2)) else (some false)) else (some false)) else (none)) else (some false)) else (none)) else (some false)) else (some false)) else (some false)) else (some false))) = some r := H
 have A2 := Aside0.mk A20
 clear A20
 obtain ⟨y184, hy184⟩ : ∃ y_ : List ByteArray, y_ = (([(⟨#[97]⟩ : ByteArray)] : List ByteArray)) := ⟨_, rfl⟩
 replace H : ((diff_Apply.f k y184 (([(⟨0, 0, (([(⟨#[97]⟩ : ByteArray)] : List ByteArray)), (([(⟨#[98]⟩ : ByteArray), (⟨#[99]⟩ : ByteArray)] : List ByteArray))⟩ : S46)] : List (S46)))).bind fun bt196 => (if t171 = 0 then (if t181 = 0 then (if bt196.2 = 0 then (if (t170.length : Int) = 2 then (if 0 < (t170.length : Int) then (if (((rd_T39 t170 0).f0) == 1 && (((rd_T39 t170 0).f1) == 0)) = true then (if 1 < (t170.length : Int) then (if (((rd_T39 t170 1).f0) == 2 && (((rd_T39 t170 1).f1) == 2)) = true then (if (t180.length : Int) = 1 then (some ((bt196.1.length : Int) == 2)) else (some false)) else (some false)) else (none)) else (some false)) else (none)) else (some false)) else (some false)) else (some false)) else (some false))) = some r := by first | (rw [hy184]; with_reducible exact H) | (have H2_ := (Option.bind_some _ _).symm.trans H; rw [hy184]; with_reducible exact H2_) | (have H2_ := (Option.bind_some _ _).symm.trans H; with_reducible exact H2_) | with_reducible exact H | (rw [hy184]; exact H) | exact H
 have Ny184 := Aside0.mk hy184
 clear hy184
 obtain ⟨y187, hy187⟩ : ∃ y_ : List ByteArray, y_ = (([(⟨#[97]⟩ : ByteArray)] : List ByteArray)) := ⟨_, rfl⟩
 replace H : ((diff_Apply.f k y184 (([(⟨0, 0, y187, (([(⟨#[98]⟩ : ByteArray), (⟨#[99]⟩ : ByteArray)] : List ByteArray))⟩ : S46)] : List (S46)))).bind fun bt196 => (if t171 = 0 then (if t181 = 0 then (if bt196.2 = 0 then (if (t170.length : Int) = 2 then (if 0 < (t170.length : Int) then (if (((rd_T39 t170 0).f0) == 1 && (((rd_T39 t170 0).f1) == 0)) = true then (if 1 < (t170.length : Int) then (if (((rd_T39 t170 1).f0) == 2 && (((rd_T39 t170 1).f1) == 2)) = true then (if (t180.length : Int) = 1 then (some ((bt196.1.length : Int) == 2)) else (some false)) else (some false)) else (none)) else (some false)) else (none)) else (some false)) else (some false)) else (some false)) else (some false))) = some r := by first | (rw [hy187]; with_reducible exact H) | (have H2_ := (Option.bind_some _ _).symm.trans H; rw [hy187]; with_reducible exact H2_) | (have H2_ := (Option.bind_some _ _).symm.trans H; with_reducible exact H2_) | with_reducible exact H | (rw [hy187]; exact H) | exact H
 have Ny187 := Aside0.mk hy187
 clear hy187
 obtain ⟨y190, hy190⟩ : ∃ y_ : List ByteArray, y_ = (([(⟨#[98]⟩ : ByteArray), (⟨#[99]⟩ : ByteArray)] : List ByteArray)) := ⟨_, rfl⟩
 replace H : ((diff_Apply.f k y184 (([(⟨0, 0, y187, y190⟩ : S46)] : List (S46)))).bind fun bt196 => (if t171 = 0 then (if t181 = 0 then (if bt196.2 = 0 then (if (t170.length : Int) = 2 then (if 0 < (t170.length : Int) then (if (((rd_T39 t170 0).f0) == 1 && (((rd_T39 t170 0).f1) == 0)) = true then (if 1 < (t170.length : Int) then (if (((rd_T39 t170 1).f0) == 2 && (((rd_T39 t170 1).f1) == 2)) = true then (if (t180.length : Int) = 1 then (some ((bt196.1.length : Int) == 2)) else (some false)) else (some false)) else (none)) else (some false)) else (none)) else (some false)) else (some false)) else (some false)) else (some false))) = some r := by first | (rw [hy190]; with_reducible exact H) | (have H2_ := (Option.bind_some _ _).symm.trans H; rw [hy190]; with_reducible exact H2_) | (have H2_ := (Option.bind_some _ _).symm.trans H; with_reducible exact H2_) | with_reducible exact H | (rw [hy190]; exact H) | exact H
 have Ny190 := Aside0.mk hy190
 clear hy190
 obtain ⟨y193, hy193⟩ : ∃ y_ : List (S46), y_ = (([(⟨0, 0, y187, y190⟩ : S46)] : List (S46))) := ⟨_, rfl⟩
 replace H : ((diff_Apply.f k y184 y193).bind fun bt196 => (if t171 = 0 then (if t181 = 0 then (if bt196.2 = 0 then (if (t170.length : Int) = 2 then (if 0 < (t170.length : Int) then (if (((rd_T39 t170 0).f0) == 1 && (((rd_T39 t170 0).f1) == 0)) = true then (if 1 < (t170.length : Int) then (if (((rd_T39 t170 1).f0) == 2 && (((rd_T39 t170 1).f1) == 2)) = true then (if (t180.length : Int) = 1 then (some ((bt196.1.length : Int) == 2)) else (some false)) else (some false)) else (none)) else (some false)) else (none)) else (some false)) else (some false)) else (some false)) else (some false))) = some r := by first | (rw [hy193]; with_reducible exact H) | (have H2_ := (Option.bind_some _ _).symm.trans H; rw [hy193]; with_reducible exact H2_) | (have H2_ := (Option.bind_some _ _).symm.trans H; with_reducible exact H2_) | with_reducible exact H | (rw [hy193]; exact H) | exact H
 have Ny193 := Aside0.mk hy193
 clear hy193
 replace H := Option.bind_eq_some_iff.mp H
 obtain ⟨⟨t196, t197⟩, A30, H⟩ := H
 replace H : (if t171 = 0 then (if t181 = 0 then (if t197 = 0 then (if (t170.length : Int) = 2 then (if 0 < (t170.length : Int) then (if (((rd_T39 t170 0).f0) == 1 && (((rd_T39 t170 0).f1) == 0)) = true then (if 1 < (t170.length : Int) then (if (((rd_T39 t170 1).f0) == 2 && (((rd_T39 t170 1).f1) == 2)) = true then (if (t180.length : Int) = 1 then (some ((t196.length : Int) == 2)) else (some false)) else (some false)) else (none)) else (some false)) else (none)) else (some false)) else (some false)) else (some false)) else (some false)) = some r := H
 have A3 := Aside0.mk A30
 clear A30
 refine (Classical.em (t171 = 0)).elim (fun c4 => ?gp1) (fun c4 => ?gn1)
 case' gp1 =>
  rw [if_pos c4] at H
  have c4b0 : (t171 == 0) = true := beq_iff_eq.mpr c4
  have c4b1 : (t171 != 0) = false := bne_eq_false_iff_eq.mpr c4
  clear c4
  refine (Classical.em (t181 = 0)).elim (fun c5 => ?gp2) (fun c5 => ?gn2)
  case' gp2 =>
   rw [if_pos c5] at H
   have c5b0 : (t181 == 0) = true := beq_iff_eq.mpr c5
   have c5b1 : (t181 != 0) = false := bne_eq_false_iff_eq.mpr c5
   clear c5
   refine (Classical.em (t197 = 0)).elim (fun c6 => ?gp3) (fun c6 => ?gn3)
   case' gp3 =>
    rw [if_pos c6] at H
    have c6b0 : (t197 == 0) = true := beq_iff_eq.mpr c6
    have c6b1 : (t197 != 0) = false := bne_eq_false_iff_eq.mpr c6
    clear c6
    refine (Classical.em ((t170.length : Int) = 2)).elim (fun c7 => ?gp4) (fun c7 => ?gn4)
    case' gp4 =>
     rw [if_pos c7] at H
     have c7b0 : ((t170.length : Int) == 2) = true := beq_iff_eq.mpr c7
     have c7b1 : ((t170.length : Int) != 2) = false := bne_eq_false_iff_eq.mpr c7
     clear c7
     refine (Classical.em (0 < (t170.length : Int))).elim (fun c8 => ?gp5) (fun c8 => ?gn5)
     case' gp5 =>
      rw [if_pos c8] at H
      have c8b0 : decide (0 < (t170.length : Int)) = true := decide_eq_true c8
      have c8b1 : decide (0 < t170.length) = true := decide_eq_true (by omega)
      clear c8
      refine (Classical.em ((((rd_T39 t170 0).f0) == 1 && (((rd_T39 t170 0).f1) == 0)) = true)).elim (fun c9 => ?gp6) (fun c9 => ?gn6)
      case' gp6 =>
       rw [if_pos c9] at H
       have c9b0 : (((rd_T39 t170 0).f0) == 1 && (((rd_T39 t170 0).f1) == 0)) = true := c9
       (try (have c9b1 : decide (((rd_T39 t170 0).f0) = 1 && (((rd_T39 t170 0).f1) == 0)) = true := by simpa using c9))
       (try (have c9b2 : (((rd_T39 t170 0).f0) == 1 && (((rd_T39 t170 0).f1) == 0)) = true := by simpa using c9))
       (try (have c9b3 : 1 && (((rd_T39 t170 0).f1) == 0) = ((rd_T39 t170 0).f0) := (eq_of_beq (by simpa using c9)).symm))
       clear c9
       refine (Classical.em (1 < (t170.length : Int))).elim (fun c10 => ?gp7) (fun c10 => ?gn7)
       case' gp7 =>
        rw [if_pos c10] at H
        have c10b0 : decide (1 < (t170.length : Int)) = true := decide_eq_true c10
        have c10b1 : decide (1 < t170.length) = true := decide_eq_true (by omega)
        clear c10
        refine (Classical.em ((((rd_T39 t170 1).f0) == 2 && (((rd_T39 t170 1).f1) == 2)) = true)).elim (fun c11 => ?gp8) (fun c11 => ?gn8)
        case' gp8 =>
         rw [if_pos c11] at H
         have c11b0 : (((rd_T39 t170 1).f0) == 2 && (((rd_T39 t170 1).f1) == 2)) = true := c11
         (try (have c11b1 : decide (((rd_T39 t170 1).f0) = 2 && (((rd_T39 t170 1).f1) == 2)) = true := by simpa using c11))
         (try (have c11b2 : (((rd_T39 t170 1).f0) == 2 && (((rd_T39 t170 1).f1) == 2)) = true := by simpa using c11))
         (try (have c11b3 : 2 && (((rd_T39 t170 1).f1) == 2) = ((rd_T39 t170 1).f0) := (eq_of_beq (by simpa using c11)).symm))
         clear c11
         refine (Classical.em ((t180.length : Int) = 1)).elim (fun c12 => ?gp9) (fun c12 => ?gn9)
         case' gp9 =>
          rw [if_pos c12] at H
          have c12b0 : ((t180.length : Int) == 1) = true := beq_iff_eq.mpr c12
          have c12b1 : ((t180.length : Int) != 1) = false := bne_eq_false_iff_eq.mpr c12
          clear c12
          obtain rfl := Option.some.inj H
         case' gn9 =>
          rw [if_neg c12] at H
          have c12b0 : ((t180.length : Int) == 1) = false := beq_eq_false_iff_ne.mpr c12
          have c12b1 : ((t180.length : Int) != 1) = true := bne_iff_ne.mpr c12
          obtain rfl := Option.some.inj H
        case' gn8 =>
         rw [if_neg c11] at H
         have c11b0 : (((rd_T39 t170 1).f0) == 2 && (((rd_T39 t170 1).f1) == 2)) = false := by simpa using c11
         (try (have c11b1 : decide (((rd_T39 t170 1).f0) = 2 && (((rd_T39 t170 1).f1) == 2)) = false := by simpa using c11))
         (try (have c11b2 : (((rd_T39 t170 1).f0) == 2 && (((rd_T39 t170 1).f1) == 2)) = false := by simpa using c11))
         (try (have c11b3 : ¬ (((rd_T39 t170 1).f0) = 2 && (((rd_T39 t170 1).f1) == 2)) := by simpa using c11))
         clear c11
         obtain rfl := Option.some.inj H
       case' gn7 =>
        rw [if_neg c10] at H
        exact absurd H (by simp)
      case' gn6 =>
       rw [if_neg c9] at H
       have c9b0 : (((rd_T39 t170 0).f0) == 1 && (((rd_T39 t170 0).f1) == 0)) = false := by simpa using c9
       (try (have c9b1 : decide (((rd_T39 t170 0).f0) = 1 && (((rd_T39 t170 0).f1) == 0)) = false := by simpa using c9))
       (try (have c9b2 : (((rd_T39 t170 0).f0) == 1 && (((rd_T39 t170 0).f1) == 0)) = false := by simpa using c9))
       (try (have c9b3 : ¬ (((rd_T39 t170 0).f0) = 1 && (((rd_T39 t170 0).f1) == 0)) := by simpa using c9))
       clear c9
       obtain rfl := Option.some.inj H
     case' gn5 =>
      rw [if_neg c8] at H
      exact absurd H (by simp)
    case' gn4 =>
     rw [if_neg c7] at H
     have c7b0 : ((t170.length : Int) == 2) = false := beq_eq_false_iff_ne.mpr c7
     have c7b1 : ((t170.length : Int) != 2) = true := bne_iff_ne.mpr c7
     obtain rfl := Option.some.inj H
   case' gn3 =>
    rw [if_neg c6] at H
    have c6b0 : (t197 == 0) = false := beq_eq_false_iff_ne.mpr c6
    have c6b1 : (t197 != 0) = true := bne_iff_ne.mpr c6
    obtain rfl := Option.some.inj H
  case' gn2 =>
   rw [if_neg c5] at H
   have c5b0 : (t181 == 0) = false := beq_eq_false_iff_ne.mpr c5
   have c5b1 : (t181 != 0) = true := bne_iff_ne.mpr c5
   obtain rfl := Option.some.inj H
 case' gn1 =>
  rw [if_neg c4] at H
  have c4b0 : (t171 == 0) = false := beq_eq_false_iff_ne.mpr c4
  have c4b1 : (t171 != 0) = true := bne_iff_ne.mpr c4
  obtain rfl := Option.some.inj H
 all_goals
  go_enter Try.func12, Try.ntmps12
  go_wp2_with (first | ((with_reducible refine gate_dst (N := 8) rfl ?_); (try (refine gate_guard (by rfl) ?_; dsimp only)); refine Kd.R_lit Kd.string _ 9 ?hg (N := 8) ?hd (xs := ([(⟨#[97]⟩ : ByteArray), (⟨#[98]⟩ : ByteArray), (⟨#[99]⟩ : ByteArray)] : List ByteArray)) (inner := [.string (⟨#[97]⟩ : ByteArray), .string (⟨#[98]⟩ : ByteArray), .string (⟨#[99]⟩ : ByteArray)]) (ok := fun _ => True) (okp := fun _ => True) ?hr ?hp (fun _ hk => hk) trivial (Below.refl _ _) (Nat.le_refl _) (by simp) ?_; (case hd => rfl); (case hg => rfl); (case hr => first | (go_simp; done) | (go_simp; rfl)); (case hp => exact (Reps.one (show Kd.M Kd.string _ _ _ (⟨#[97]⟩ : ByteArray) [.string (⟨#[97]⟩ : ByteArray)] from rfl) (Reps.one (show Kd.M Kd.string _ _ _ (⟨#[98]⟩ : ByteArray) [.string (⟨#[98]⟩ : ByteArray)] from rfl) (Reps.one (show Kd.M Kd.string _ _ _ (⟨#[99]⟩ : ByteArray) [.string (⟨#[99]⟩ : ByteArray)] from rfl) (Reps.none _ _))))); intro v165 w13 ho14 hb hg_ hnew_; clear hg_ hnew_; (first | rw [← Ny164.out] at ho14 | (simp only [Int.reduceToNat] at ho14; rw [← Ny164.out] at ho14)); have n0_ := Aside0.mk (Kd.R_lower ho14 (below_size (by repeat (first | (with_reducible first | exact HB.out | apply below_alloc | apply pw_below_drewN | apply below_drew1) | exact HB.out)))); have n1_ := Aside0.mk (below_step (by repeat (first | (with_reducible first | exact HB.out | apply below_alloc | apply pw_below_drewN | apply below_drew1) | exact HB.out)) hb); clear HB; have HO166 := n0_; have HB := n1_; clear n0_ n1_; clear hb ho14) | ((with_reducible refine gate_dst (N := 9) rfl ?_); (try (refine gate_guard (by rfl) ?_; dsimp only)); refine Kd.R_lit Kd.string _ 9 ?hg (N := 9) ?hd (xs := ([(⟨#[98]⟩ : ByteArray), (⟨#[120]⟩ : ByteArray), (⟨#[99]⟩ : ByteArray)] : List ByteArray)) (inner := [.string (⟨#[98]⟩ : ByteArray), .string (⟨#[120]⟩ : ByteArray), .string (⟨#[99]⟩ : ByteArray)]) (ok := fun _ => True) (okp := fun _ => True) ?hr ?hp (fun _ hk => hk) trivial (Below.refl _ _) (Nat.le_refl _) (by simp) ?_; (case hd => rfl); (case hg => rfl); (case hr => first | (go_simp; done) | (go_simp; rfl)); (case hp => exact (Reps.one (show Kd.M Kd.string _ _ _ (⟨#[98]⟩ : ByteArray) [.string (⟨#[98]⟩ : ByteArray)] from rfl) (Reps.one (show Kd.M Kd.string _ _ _ (⟨#[120]⟩ : ByteArray) [.string (⟨#[120]⟩ : ByteArray)] from rfl) (Reps.one (show Kd.M Kd.string _ _ _ (⟨#[99]⟩ : ByteArray) [.string (⟨#[99]⟩ : ByteArray)] from rfl) (Reps.none _ _))))); intro v168 w15 ho16 hb hg_ hnew_; clear hg_ hnew_; (first | rw [← Ny167.out] at ho16 | (simp only [Int.reduceToNat] at ho16; rw [← Ny167.out] at ho16)); have n0_ := Aside0.mk (Kd.R_elder' (by (with_reducible repeat (first | apply Kd.R_alloc | apply Kd.R_drewN | apply Kd.R_drew)); exact HO166.out) (Kd.R_base ho16) hb); have n1_ := Aside0.mk (Kd.R_lower (Kd.R_new' ho16 (Kd.R_lt (by (with_reducible repeat (first | apply Kd.R_alloc | apply Kd.R_drewN | apply Kd.R_drew)); exact HO166.out))) (below_size (by repeat (first | (with_reducible first | exact HB.out | apply below_alloc | apply pw_below_drewN | apply below_drew1) | exact HB.out)))); have n2_ := Aside0.mk (below_step (by repeat (first | (with_reducible first | exact HB.out | apply below_alloc | apply pw_below_drewN | apply below_drew1) | exact HB.out)) hb); clear HO166; clear HB; have HO166 := n0_; have HO169 := n1_; have HB := n2_; clear n0_ n1_ n2_; clear hb ho16; obtain ⟨Ao17, co17, eo17⟩ := Kd.R_slice HO166.out; subst eo17; obtain ⟨Ao18, co18, eo18⟩ := Kd.R_slice HO169.out; subst eo18) | ((with_reducible refine gate_callee (f := 13) rfl ?_); refine goesL_ (some 10) rfl rfl Try.func13 (by kernel_rfl) rfl #[.slice Ao17 y164.length co17, .slice Ao18 y167.length co18] rfl (by (try simp only [List.map_toArray, List.map_cons, List.map_nil]); first | done | rfl | (simp only [List.length_drop, List.length_take]; rfl)) ?_; (with_reducible refine (diff_Match.calls k _ _ y164 _ _ y167 t170 t171 _ ?side1 ?side2 ?side3 ?side4 A1.out).mono ?_); (case side1 => repeat (first | exact (Kd.R_reads' HO166.out).2.2 | (with_reducible refine Kd.C_alloc ?_ _) | (with_reducible refine Kd.C_drewN ?_ _) | (with_reducible refine Kd.C_drew ?_))); (case side2 => exact (Kd.R_reads' HO166.out).2.1); (case side3 => repeat (first | exact (Kd.R_reads' HO169.out).2.2 | (with_reducible refine Kd.C_alloc ?_ _) | (with_reducible refine Kd.C_drewN ?_ _) | (with_reducible refine Kd.C_drew ?_))); (case side4 => exact (Kd.R_reads' HO169.out).2.1); rintro e w19 ⟨v172, rfl, ho0, hb⟩; refine ⟨_, rfl, ?_⟩; have n0_ := Aside0.mk (Kd.R_below (by (with_reducible repeat (first | apply Kd.R_alloc | apply Kd.R_drewN | apply Kd.R_drew)); exact HO166.out) hb); have n1_ := Aside0.mk (Kd.R_below (by (with_reducible repeat (first | apply Kd.R_alloc | apply Kd.R_drewN | apply Kd.R_drew)); exact HO169.out) hb); have n2_ := Aside0.mk (Kd.R_lower ho0 (below_size (by repeat (first | (with_reducible first | exact HB.out | apply below_alloc | apply pw_below_drewN | apply below_drew1) | exact HB.out)))); have n3_ := Aside0.mk (below_step (by repeat (first | (with_reducible first | exact HB.out | apply below_alloc | apply pw_below_drewN | apply below_drew1) | exact HB.out)) hb); clear HO166; clear HO169; clear HB; have HO166 := n0_; have HO169 := n1_; have HO173 := n2_; have HB := n3_; clear n0_ n1_ n2_ n3_; (try clear hb); (try clear hb2); (try clear hk); (try clear hi); (try clear ho0)) | ((with_reducible refine gate_dst (N := 14) rfl ?_); (try (refine gate_guard (by rfl) ?_; dsimp only)); refine Kd.R_lit Kd.string _ 9 ?hg (N := 14) ?hd (xs := ([(⟨#[97]⟩ : ByteArray)] : List ByteArray)) (inner := [.string (⟨#[97]⟩ : ByteArray)]) (ok := fun _ => True) (okp := fun _ => True) ?hr ?hp (fun _ hk => hk) trivial (Below.refl _ _) (Nat.le_refl _) (by simp) ?_; (case hd => rfl); (case hg => rfl); (case hr => first | (go_simp; done) | (go_simp; rfl)); (case hp => exact (Reps.one (show Kd.M Kd.string _ _ _ (⟨#[97]⟩ : ByteArray) [.string (⟨#[97]⟩ : ByteArray)] from rfl) (Reps.none _ _))); intro v175 w20 ho21 hb hg_ hnew_; clear hg_ hnew_; (first | rw [← Ny174.out] at ho21 | (simp only [Int.reduceToNat] at ho21; rw [← Ny174.out] at ho21)); have n0_ := Aside0.mk (Kd.R_elder' (by (with_reducible repeat (first | apply Kd.R_alloc | apply Kd.R_drewN | apply Kd.R_drew)); exact HO166.out) (Kd.R_base ho21) hb); have n1_ := Aside0.mk (Kd.R_elder' (by (with_reducible repeat (first | apply Kd.R_alloc | apply Kd.R_drewN | apply Kd.R_drew)); exact HO169.out) (Kd.R_base ho21) hb); have n2_ := Aside0.mk (Kd.R_below (by (with_reducible repeat (first | apply Kd.R_alloc | apply Kd.R_drewN | apply Kd.R_drew)); exact HO173.out) hb); have n3_ := Aside0.mk (Kd.R_lower (Kd.R_new' (Kd.R_new' ho21 (Kd.R_lt (by (with_reducible repeat (first | apply Kd.R_alloc | apply Kd.R_drewN | apply Kd.R_drew)); exact HO166.out))) (Kd.R_lt (by (with_reducible repeat (first | apply Kd.R_alloc | apply Kd.R_drewN | apply Kd.R_drew)); exact HO169.out))) (below_size (by repeat (first | (with_reducible first | exact HB.out | apply below_alloc | apply pw_below_drewN | apply below_drew1) | exact HB.out)))); have n4_ := Aside0.mk (below_step (by repeat (first | (with_reducible first | exact HB.out | apply below_alloc | apply pw_below_drewN | apply below_drew1) | exact HB.out)) hb); clear HO166; clear HO169; clear HO173; clear HB; have HO166 := n0_; have HO169 := n1_; have HO173 := n2_; have HO176 := n3_; have HB := n4_; clear n0_ n1_ n2_ n3_ n4_; clear hb ho21) | ((with_reducible refine gate_dst (N := 15) rfl ?_); (try (refine gate_guard (by rfl) ?_; dsimp only)); refine Kd.R_lit Kd.string _ 9 ?hg (N := 15) ?hd (xs := ([(⟨#[98]⟩ : ByteArray)] : List ByteArray)) (inner := [.string (⟨#[98]⟩ : ByteArray)]) (ok := fun _ => True) (okp := fun _ => True) ?hr ?hp (fun _ hk => hk) trivial (Below.refl _ _) (Nat.le_refl _) (by simp) ?_; (case hd => rfl); (case hg => rfl); (case hr => first | (go_simp; done) | (go_simp; rfl)); (case hp => exact (Reps.one (show Kd.M Kd.string _ _ _ (⟨#[98]⟩ : ByteArray) [.string (⟨#[98]⟩ : ByteArray)] from rfl) (Reps.none _ _))); intro v178 w22 ho23 hb hg_ hnew_; clear hg_ hnew_; (first | rw [← Ny177.out] at ho23 | (simp only [Int.reduceToNat] at ho23; rw [← Ny177.out] at ho23)); have n0_ := Aside0.mk (Kd.R_elder' (by (with_reducible repeat (first | apply Kd.R_alloc | apply Kd.R_drewN | apply Kd.R_drew)); exact HO166.out) (Kd.R_base ho23) hb); have n1_ := Aside0.mk (Kd.R_elder' (by (with_reducible repeat (first | apply Kd.R_alloc | apply Kd.R_drewN | apply Kd.R_drew)); exact HO169.out) (Kd.R_base ho23) hb); have n2_ := Aside0.mk (Kd.R_below (by (with_reducible repeat (first | apply Kd.R_alloc | apply Kd.R_drewN | apply Kd.R_drew)); exact HO173.out) hb); have n3_ := Aside0.mk (Kd.R_elder' (by (with_reducible repeat (first | apply Kd.R_alloc | apply Kd.R_drewN | apply Kd.R_drew)); exact HO176.out) (Kd.R_base ho23) hb); have n4_ := Aside0.mk (Kd.R_lower (Kd.R_new' (Kd.R_new' (Kd.R_new' ho23 (Kd.R_lt (by (with_reducible repeat (first | apply Kd.R_alloc | apply Kd.R_drewN | apply Kd.R_drew)); exact HO166.out))) (Kd.R_lt (by (with_reducible repeat (first | apply Kd.R_alloc | apply Kd.R_drewN | apply Kd.R_drew)); exact HO169.out))) (Kd.R_lt (by (with_reducible repeat (first | apply Kd.R_alloc | apply Kd.R_drewN | apply Kd.R_drew)); exact HO176.out))) (below_size (by repeat (first | (with_reducible first | exact HB.out | apply below_alloc | apply pw_below_drewN | apply below_drew1) | exact HB.out)))); have n5_ := Aside0.mk (below_step (by repeat (first | (with_reducible first | exact HB.out | apply below_alloc | apply pw_below_drewN | apply below_drew1) | exact HB.out)) hb); clear HO166; clear HO169; clear HO173; clear HO176; clear HB; have HO166 := n0_; have HO169 := n1_; have HO173 := n2_; have HO176 := n3_; have HO179 := n4_; have HB := n5_; clear n0_ n1_ n2_ n3_ n4_ n5_; clear hb ho23; obtain ⟨Ao24, co24, eo24⟩ := Kd.R_slice HO176.out; subst eo24; obtain ⟨Ao25, co25, eo25⟩ := Kd.R_slice HO179.out; subst eo25) | ((with_reducible refine gate_callee (f := 15) rfl ?_); refine goesL_ (some 16) rfl rfl Try.func15 (by kernel_rfl) rfl #[.slice Ao24 y174.length co24, .slice Ao25 y177.length co25] rfl (by (try simp only [List.map_toArray, List.map_cons, List.map_nil]); first | done | rfl | (simp only [List.length_drop, List.length_take]; rfl)) ?_; (with_reducible refine (diff_Hunks.calls k _ _ y174 _ _ y177 t180 t181 _ ?side1 ?side2 ?side3 ?side4 A2.out).mono ?_); (case side1 => repeat (first | exact (Kd.R_reads' HO176.out).2.2 | (with_reducible refine Kd.C_alloc ?_ _) | (with_reducible refine Kd.C_drewN ?_ _) | (with_reducible refine Kd.C_drew ?_))); (case side2 => exact (Kd.R_reads' HO176.out).2.1); (case side3 => repeat (first | exact (Kd.R_reads' HO179.out).2.2 | (with_reducible refine Kd.C_alloc ?_ _) | (with_reducible refine Kd.C_drewN ?_ _) | (with_reducible refine Kd.C_drew ?_))); (case side4 => exact (Kd.R_reads' HO179.out).2.1); rintro e w26 ⟨v182, rfl, ho0, hb⟩; refine ⟨_, rfl, ?_⟩; have n0_ := Aside0.mk (Kd.R_below (by (with_reducible repeat (first | apply Kd.R_alloc | apply Kd.R_drewN | apply Kd.R_drew)); exact HO166.out) hb); have n1_ := Aside0.mk (Kd.R_below (by (with_reducible repeat (first | apply Kd.R_alloc | apply Kd.R_drewN | apply Kd.R_drew)); exact HO169.out) hb); have n2_ := Aside0.mk (Kd.R_below (by (with_reducible repeat (first | apply Kd.R_alloc | apply Kd.R_drewN | apply Kd.R_drew)); exact HO173.out) hb); have n3_ := Aside0.mk (Kd.R_below (by (with_reducible repeat (first | apply Kd.R_alloc | apply Kd.R_drewN | apply Kd.R_drew)); exact HO176.out) hb); have n4_ := Aside0.mk (Kd.R_below (by (with_reducible repeat (first | apply Kd.R_alloc | apply Kd.R_drewN | apply Kd.R_drew)); exact HO179.out) hb); have n5_ := Aside0.mk (Kd.N_lower (Kd.N_mono (ok' := fun k_ => some k_ ≠ (.slice Ao17 y164.length co17 : Value).ownBlock ∧ some k_ ≠ (.slice Ao18 y167.length co18 : Value).ownBlock ∧ some k_ ≠ (v172 : Value).ownBlock ∧ some k_ ≠ (.slice Ao24 y174.length co24 : Value).ownBlock ∧ some k_ ≠ (.slice Ao25 y177.length co25 : Value).ownBlock) (Kd.S_N (Kd.S_bound ho0)) (fun k_ hk_ => ⟨(Kd.fresh' (Kd.R_lt (by (with_reducible repeat (first | apply Kd.R_alloc | apply Kd.R_drewN | apply Kd.R_drew)); exact HO166.out)) k_ hk_.2.1), (Kd.fresh' (Kd.R_lt (by (with_reducible repeat (first | apply Kd.R_alloc | apply Kd.R_drewN | apply Kd.R_drew)); exact HO169.out)) k_ hk_.2.1), (Kd.fresh' (Kd.R_lt (by (with_reducible repeat (first | apply Kd.R_alloc | apply Kd.R_drewN | apply Kd.R_drew)); exact HO173.out)) k_ hk_.2.1), (Kd.fresh' (Kd.R_lt (by (with_reducible repeat (first | apply Kd.R_alloc | apply Kd.R_drewN | apply Kd.R_drew)); exact HO176.out)) k_ hk_.2.1), (Kd.fresh' (Kd.R_lt (by (with_reducible repeat (first | apply Kd.R_alloc | apply Kd.R_drewN | apply Kd.R_drew)); exact HO179.out)) k_ hk_.2.1)⟩)) (below_size (by repeat (first | (with_reducible first | exact HB.out | apply below_alloc | apply pw_below_drewN | apply below_drew1) | exact HB.out)))); have n6_ := Aside0.mk (below_step (by repeat (first | (with_reducible first | exact HB.out | apply below_alloc | apply pw_below_drewN | apply below_drew1) | exact HB.out)) hb); clear HO166; clear HO169; clear HO173; clear HO176; clear HO179; clear HB; have HO166 := n0_; have HO169 := n1_; have HO173 := n2_; have HO176 := n3_; have HO179 := n4_; have HO183 := n5_; have HB := n6_; clear n0_ n1_ n2_ n3_ n4_ n5_ n6_; (try clear hb); (try clear hb2); (try clear hk); (try clear hi); (try clear ho0)) | ((with_reducible refine gate_dst (N := 20) rfl ?_); (try (refine gate_guard (by rfl) ?_; dsimp only)); refine Kd.R_lit Kd.string _ 9 ?hg (N := 20) ?hd (xs := ([(⟨#[97]⟩ : ByteArray)] : List ByteArray)) (inner := [.string (⟨#[97]⟩ : ByteArray)]) (ok := fun _ => True) (okp := fun _ => True) ?hr ?hp (fun _ hk => hk) trivial (Below.refl _ _) (Nat.le_refl _) (by simp) ?_; (case hd => rfl); (case hg => rfl); (case hr => first | (go_simp; done) | (go_simp; rfl)); (case hp => exact (Reps.one (show Kd.M Kd.string _ _ _ (⟨#[97]⟩ : ByteArray) [.string (⟨#[97]⟩ : ByteArray)] from rfl) (Reps.none _ _))); intro v185 w27 ho28 hb hg_ hnew_; clear hg_ hnew_; (first | rw [← Ny184.out] at ho28 | (simp only [Int.reduceToNat] at ho28; rw [← Ny184.out] at ho28)); have n0_ := Aside0.mk (Kd.R_elder' (by (with_reducible repeat (first | apply Kd.R_alloc | apply Kd.R_drewN | apply Kd.R_drew)); exact HO166.out) (Kd.R_base ho28) hb); have n1_ := Aside0.mk (Kd.R_elder' (by (with_reducible repeat (first | apply Kd.R_alloc | apply Kd.R_drewN | apply Kd.R_drew)); exact HO169.out) (Kd.R_base ho28) hb); have n2_ := Aside0.mk (Kd.R_below (by (with_reducible repeat (first | apply Kd.R_alloc | apply Kd.R_drewN | apply Kd.R_drew)); exact HO173.out) hb); have n3_ := Aside0.mk (Kd.R_elder' (by (with_reducible repeat (first | apply Kd.R_alloc | apply Kd.R_drewN | apply Kd.R_drew)); exact HO176.out) (Kd.R_base ho28) hb); have n4_ := Aside0.mk (Kd.R_elder' (by (with_reducible repeat (first | apply Kd.R_alloc | apply Kd.R_drewN | apply Kd.R_drew)); exact HO179.out) (Kd.R_base ho28) hb); have n5_ := Aside0.mk (Kd.N_elder' (by (with_reducible repeat (first | apply Kd.N_alloc | apply Kd.N_drewN | apply Kd.N_drew)); exact HO183.out) (Kd.R_base ho28) hb); have n6_ := Aside0.mk (Kd.R_lower (Kd.R_new' (Kd.R_new' (Kd.R_new' (Kd.R_new' ho28 (Kd.R_lt (by (with_reducible repeat (first | apply Kd.R_alloc | apply Kd.R_drewN | apply Kd.R_drew)); exact HO166.out))) (Kd.R_lt (by (with_reducible repeat (first | apply Kd.R_alloc | apply Kd.R_drewN | apply Kd.R_drew)); exact HO169.out))) (Kd.R_lt (by (with_reducible repeat (first | apply Kd.R_alloc | apply Kd.R_drewN | apply Kd.R_drew)); exact HO176.out))) (Kd.R_lt (by (with_reducible repeat (first | apply Kd.R_alloc | apply Kd.R_drewN | apply Kd.R_drew)); exact HO179.out))) (below_size (by repeat (first | (with_reducible first | exact HB.out | apply below_alloc | apply pw_below_drewN | apply below_drew1) | exact HB.out)))); have n7_ := Aside0.mk (below_step (by repeat (first | (with_reducible first | exact HB.out | apply below_alloc | apply pw_below_drewN | apply below_drew1) | exact HB.out)) hb); clear HO166; clear HO169; clear HO173; clear HO176; clear HO179; clear HO183; clear HB; have HO166 := n0_; have HO169 := n1_; have HO173 := n2_; have HO176 := n3_; have HO179 := n4_; have HO183 := n5_; have HO186 := n6_; have HB := n7_; clear n0_ n1_ n2_ n3_ n4_ n5_ n6_ n7_; clear hb ho28) | ((with_reducible refine gate_dst (N := 21) rfl ?_); (try (refine gate_guard (by rfl) ?_; dsimp only)); refine Kd.R_lit Kd.string _ 9 ?hg (N := 21) ?hd (xs := ([(⟨#[97]⟩ : ByteArray)] : List ByteArray)) (inner := [.string (⟨#[97]⟩ : ByteArray)]) (ok := fun _ => True) (okp := fun _ => True) ?hr ?hp (fun _ hk => hk) trivial (Below.refl _ _) (Nat.le_refl _) (by simp) ?_; (case hd => rfl); (case hg => rfl); (case hr => first | (go_simp; done) | (go_simp; rfl)); (case hp => exact (Reps.one (show Kd.M Kd.string _ _ _ (⟨#[97]⟩ : ByteArray) [.string (⟨#[97]⟩ : ByteArray)] from rfl) (Reps.none _ _))); intro v188 w29 ho30 hb hg_ hnew_; clear hg_ hnew_; (first | rw [← Ny187.out] at ho30 | (simp only [Int.reduceToNat] at ho30; rw [← Ny187.out] at ho30)); have n0_ := Aside0.mk (Kd.R_elder' (by (with_reducible repeat (first | apply Kd.R_alloc | apply Kd.R_drewN | apply Kd.R_drew)); exact HO166.out) (Kd.R_base ho30) hb); have n1_ := Aside0.mk (Kd.R_elder' (by (with_reducible repeat (first | apply Kd.R_alloc | apply Kd.R_drewN | apply Kd.R_drew)); exact HO169.out) (Kd.R_base ho30) hb); have n2_ := Aside0.mk (Kd.R_below (by (with_reducible repeat (first | apply Kd.R_alloc | apply Kd.R_drewN | apply Kd.R_drew)); exact HO173.out) hb); have n3_ := Aside0.mk (Kd.R_elder' (by (with_reducible repeat (first | apply Kd.R_alloc | apply Kd.R_drewN | apply Kd.R_drew)); exact HO176.out) (Kd.R_base ho30) hb); have n4_ := Aside0.mk (Kd.R_elder' (by (with_reducible repeat (first | apply Kd.R_alloc | apply Kd.R_drewN | apply Kd.R_drew)); exact HO179.out) (Kd.R_base ho30) hb); have n5_ := Aside0.mk (Kd.N_elder' (by (with_reducible repeat (first | apply Kd.N_alloc | apply Kd.N_drewN | apply Kd.N_drew)); exact HO183.out) (Kd.R_base ho30) hb); have n6_ := Aside0.mk (Kd.R_elder' (by (with_reducible repeat (first | apply Kd.R_alloc | apply Kd.R_drewN | apply Kd.R_drew)); exact HO186.out) (Kd.R_base ho30) hb); have n7_ := Aside0.mk (Kd.R_lower (Kd.R_new' (Kd.R_new' (Kd.R_new' (Kd.R_new' (Kd.R_new' ho30 (Kd.R_lt (by (with_reducible repeat (first | apply Kd.R_alloc | apply Kd.R_drewN | apply Kd.R_drew)); exact HO166.out))) (Kd.R_lt (by (with_reducible repeat (first | apply Kd.R_alloc | apply Kd.R_drewN | apply Kd.R_drew)); exact HO169.out))) (Kd.R_lt (by (with_reducible repeat (first | apply Kd.R_alloc | apply Kd.R_drewN | apply Kd.R_drew)); exact HO176.out))) (Kd.R_lt (by (with_reducible repeat (first | apply Kd.R_alloc | apply Kd.R_drewN | apply Kd.R_drew)); exact HO179.out))) (Kd.R_lt (by (with_reducible repeat (first | apply Kd.R_alloc | apply Kd.R_drewN | apply Kd.R_drew)); exact HO186.out))) (below_size (by repeat (first | (with_reducible first | exact HB.out | apply below_alloc | apply pw_below_drewN | apply below_drew1) | exact HB.out)))); have n8_ := Aside0.mk (below_step (by repeat (first | (with_reducible first | exact HB.out | apply below_alloc | apply pw_below_drewN | apply below_drew1) | exact HB.out)) hb); clear HO166; clear HO169; clear HO173; clear HO176; clear HO179; clear HO183; clear HO186; clear HB; have HO166 := n0_; have HO169 := n1_; have HO173 := n2_; have HO176 := n3_; have HO179 := n4_; have HO183 := n5_; have HO186 := n6_; have HO189 := n7_; have HB := n8_; clear n0_ n1_ n2_ n3_ n4_ n5_ n6_ n7_ n8_; clear hb ho30) | ((with_reducible refine gate_dst (N := 22) rfl ?_); (try (refine gate_guard (by rfl) ?_; dsimp only)); refine Kd.R_lit Kd.string _ 9 ?hg (N := 22) ?hd (xs := ([(⟨#[98]⟩ : ByteArray), (⟨#[99]⟩ : ByteArray)] : List ByteArray)) (inner := [.string (⟨#[98]⟩ : ByteArray), .string (⟨#[99]⟩ : ByteArray)]) (ok := fun _ => True) (okp := fun _ => True) ?hr ?hp (fun _ hk => hk) trivial (Below.refl _ _) (Nat.le_refl _) (by simp) ?_; (case hd => rfl); (case hg => rfl); (case hr => first | (go_simp; done) | (go_simp; rfl)); (case hp => exact (Reps.one (show Kd.M Kd.string _ _ _ (⟨#[98]⟩ : ByteArray) [.string (⟨#[98]⟩ : ByteArray)] from rfl) (Reps.one (show Kd.M Kd.string _ _ _ (⟨#[99]⟩ : ByteArray) [.string (⟨#[99]⟩ : ByteArray)] from rfl) (Reps.none _ _)))); intro v191 w31 ho32 hb hg_ hnew_; clear hg_ hnew_; (first | rw [← Ny190.out] at ho32 | (simp only [Int.reduceToNat] at ho32; rw [← Ny190.out] at ho32)); have n0_ := Aside0.mk (Kd.R_elder' (by (with_reducible repeat (first | apply Kd.R_alloc | apply Kd.R_drewN | apply Kd.R_drew)); exact HO166.out) (Kd.R_base ho32) hb); have n1_ := Aside0.mk (Kd.R_elder' (by (with_reducible repeat (first | apply Kd.R_alloc | apply Kd.R_drewN | apply Kd.R_drew)); exact HO169.out) (Kd.R_base ho32) hb); have n2_ := Aside0.mk (Kd.R_below (by (with_reducible repeat (first | apply Kd.R_alloc | apply Kd.R_drewN | apply Kd.R_drew)); exact HO173.out) hb); have n3_ := Aside0.mk (Kd.R_elder' (by (with_reducible repeat (first | apply Kd.R_alloc | apply Kd.R_drewN | apply Kd.R_drew)); exact HO176.out) (Kd.R_base ho32) hb); have n4_ := Aside0.mk (Kd.R_elder' (by (with_reducible repeat (first | apply Kd.R_alloc | apply Kd.R_drewN | apply Kd.R_drew)); exact HO179.out) (Kd.R_base ho32) hb); have n5_ := Aside0.mk (Kd.N_elder' (by (with_reducible repeat (first | apply Kd.N_alloc | apply Kd.N_drewN | apply Kd.N_drew)); exact HO183.out) (Kd.R_base ho32) hb); have n6_ := Aside0.mk (Kd.R_elder' (by (with_reducible repeat (first | apply Kd.R_alloc | apply Kd.R_drewN | apply Kd.R_drew)); exact HO186.out) (Kd.R_base ho32) hb); have n7_ := Aside0.mk (Kd.R_elder' (by (with_reducible repeat (first | apply Kd.R_alloc | apply Kd.R_drewN | apply Kd.R_drew)); exact HO189.out) (Kd.R_base ho32) hb); have n8_ := Aside0.mk (Kd.R_lower (Kd.R_new' (Kd.R_new' (Kd.R_new' (Kd.R_new' (Kd.R_new' (Kd.R_new' ho32 (Kd.R_lt (by (with_reducible repeat (first | apply Kd.R_alloc | apply Kd.R_drewN | apply Kd.R_drew)); exact HO166.out))) (Kd.R_lt (by (with_reducible repeat (first | apply Kd.R_alloc | apply Kd.R_drewN | apply Kd.R_drew)); exact HO169.out))) (Kd.R_lt (by (with_reducible repeat (first | apply Kd.R_alloc | apply Kd.R_drewN | apply Kd.R_drew)); exact HO176.out))) (Kd.R_lt (by (with_reducible repeat (first | apply Kd.R_alloc | apply Kd.R_drewN | apply Kd.R_drew)); exact HO179.out))) (Kd.R_lt (by (with_reducible repeat (first | apply Kd.R_alloc | apply Kd.R_drewN | apply Kd.R_drew)); exact HO186.out))) (Kd.R_lt (by (with_reducible repeat (first | apply Kd.R_alloc | apply Kd.R_drewN | apply Kd.R_drew)); exact HO189.out))) (below_size (by repeat (first | (with_reducible first | exact HB.out | apply below_alloc | apply pw_below_drewN | apply below_drew1) | exact HB.out)))); have n9_ := Aside0.mk (below_step (by repeat (first | (with_reducible first | exact HB.out | apply below_alloc | apply pw_below_drewN | apply below_drew1) | exact HB.out)) hb); clear HO166; clear HO169; clear HO173; clear HO176; clear HO179; clear HO183; clear HO186; clear HO189; clear HB; have HO166 := n0_; have HO169 := n1_; have HO173 := n2_; have HO176 := n3_; have HO179 := n4_; have HO183 := n5_; have HO186 := n6_; have HO189 := n7_; have HO192 := n8_; have HB := n9_; clear n0_ n1_ n2_ n3_ n4_ n5_ n6_ n7_ n8_ n9_; clear hb ho32; obtain ⟨Ao33, co33, eo33⟩ := Kd.R_slice HO192.out; subst eo33; obtain ⟨Ao34, co34, eo34⟩ := Kd.R_slice HO189.out; subst eo34) | ((with_reducible refine gate_dst (N := 24) rfl ?_); (try (refine gate_guard (by rfl) ?_; dsimp only)); refine Kd.N_lit k46 _ 46 ?hg (N' := 24) ?hd (xs := ([(⟨0, 0, y187, y190⟩ : S46)] : List (S46))) (inner := [.int .i64 0, .int .i64 0, .slice Ao34 y187.length co34, .slice Ao33 y190.length co33]) (ok := (fun k_ => some k_ ≠ (.slice Ao17 y164.length co17 : Value).ownBlock ∧ some k_ ≠ (.slice Ao18 y167.length co18 : Value).ownBlock ∧ some k_ ≠ (v172 : Value).ownBlock ∧ some k_ ≠ (.slice Ao24 y174.length co24 : Value).ownBlock ∧ some k_ ≠ (.slice Ao25 y177.length co25 : Value).ownBlock ∧ some k_ ≠ (v182 : Value).ownBlock ∧ some k_ ≠ (v185 : Value).ownBlock)) (okp := (fun k_ => some k_ ≠ (.slice Ao17 y164.length co17 : Value).ownBlock ∧ some k_ ≠ (.slice Ao18 y167.length co18 : Value).ownBlock ∧ some k_ ≠ (v172 : Value).ownBlock ∧ some k_ ≠ (.slice Ao24 y174.length co24 : Value).ownBlock ∧ some k_ ≠ (.slice Ao25 y177.length co25 : Value).ownBlock ∧ some k_ ≠ (v182 : Value).ownBlock ∧ some k_ ≠ (v185 : Value).ownBlock)) ?hr ?hp (fun _ hk => hk) ((show ∀ k_, w31.heap.size ≤ k_ → (fun k_ => some k_ ≠ (.slice Ao17 y164.length co17 : Value).ownBlock ∧ some k_ ≠ (.slice Ao18 y167.length co18 : Value).ownBlock ∧ some k_ ≠ (v172 : Value).ownBlock ∧ some k_ ≠ (.slice Ao24 y174.length co24 : Value).ownBlock ∧ some k_ ≠ (.slice Ao25 y177.length co25 : Value).ownBlock ∧ some k_ ≠ (v182 : Value).ownBlock ∧ some k_ ≠ (v185 : Value).ownBlock) k_ from fun k_ hk => ⟨Kd.fresh' (Kd.R_lt (by (with_reducible repeat (first | apply Kd.R_alloc | apply Kd.R_drewN | apply Kd.R_drew)); exact HO166.out)) k_ hk, Kd.fresh' (Kd.R_lt (by (with_reducible repeat (first | apply Kd.R_alloc | apply Kd.R_drewN | apply Kd.R_drew)); exact HO169.out)) k_ hk, Kd.fresh' (Kd.R_lt (by (with_reducible repeat (first | apply Kd.R_alloc | apply Kd.R_drewN | apply Kd.R_drew)); exact HO173.out)) k_ hk, Kd.fresh' (Kd.R_lt (by (with_reducible repeat (first | apply Kd.R_alloc | apply Kd.R_drewN | apply Kd.R_drew)); exact HO176.out)) k_ hk, Kd.fresh' (Kd.R_lt (by (with_reducible repeat (first | apply Kd.R_alloc | apply Kd.R_drewN | apply Kd.R_drew)); exact HO179.out)) k_ hk, Kd.fresh' (Kd.N_lt (by (with_reducible repeat (first | apply Kd.N_alloc | apply Kd.N_drewN | apply Kd.N_drew)); exact HO183.out)) k_ hk, Kd.fresh' (Kd.R_lt (by (with_reducible repeat (first | apply Kd.R_alloc | apply Kd.R_drewN | apply Kd.R_drew)); exact HO186.out)) k_ hk⟩) _ (Nat.le_refl _)) (Below.refl _ _) (Nat.le_refl _) (by simp) ?_; (case hd => rfl); (case hg => rfl); (case hr => first | (go_simp; done) | (go_simp; rfl)); (case hp => exact (Reps.c4 (show Kd.FK k46 _ _ (⟨0, 0, y187, y190⟩ : S46) [.int .i64 0, .int .i64 0, .slice Ao34 y187.length co34, .slice Ao33 y190.length co33] from (k46_mkF _ _ (⟨0, 0, y187, y190⟩ : S46) (Kd.R_reads' (Kd.R_mono (ok' := (fun k_ => some k_ ≠ (.slice Ao17 y164.length co17 : Value).ownBlock ∧ some k_ ≠ (.slice Ao18 y167.length co18 : Value).ownBlock ∧ some k_ ≠ (v172 : Value).ownBlock ∧ some k_ ≠ (.slice Ao24 y174.length co24 : Value).ownBlock ∧ some k_ ≠ (.slice Ao25 y177.length co25 : Value).ownBlock ∧ some k_ ≠ (v182 : Value).ownBlock ∧ some k_ ≠ (v185 : Value).ownBlock)) (Kd.R_apart' (Kd.R_apart' (HO189.out) (Kd.R_typed HO173.out) (by decide)) (Kd.N_typed HO183.out) (by decide)) (fun k_ hk => ⟨hk.1.1.1.1.1.1.1.2, ⟨hk.1.1.1.1.1.1.2, ⟨hk.1.2, ⟨hk.1.1.1.1.1.2, ⟨hk.1.1.1.1.2, ⟨hk.2, hk.1.1.1.2⟩⟩⟩⟩⟩⟩))).2.1 (Kd.R_F (Kd.R_mono (ok' := (fun k_ => some k_ ≠ (.slice Ao17 y164.length co17 : Value).ownBlock ∧ some k_ ≠ (.slice Ao18 y167.length co18 : Value).ownBlock ∧ some k_ ≠ (v172 : Value).ownBlock ∧ some k_ ≠ (.slice Ao24 y174.length co24 : Value).ownBlock ∧ some k_ ≠ (.slice Ao25 y177.length co25 : Value).ownBlock ∧ some k_ ≠ (v182 : Value).ownBlock ∧ some k_ ≠ (v185 : Value).ownBlock)) (Kd.R_apart' (Kd.R_apart' (HO189.out) (Kd.R_typed HO173.out) (by decide)) (Kd.N_typed HO183.out) (by decide)) (fun k_ hk => ⟨hk.1.1.1.1.1.1.1.2, ⟨hk.1.1.1.1.1.1.2, ⟨hk.1.2, ⟨hk.1.1.1.1.1.2, ⟨hk.1.1.1.1.2, ⟨hk.2, hk.1.1.1.2⟩⟩⟩⟩⟩⟩))) (Kd.R_reads' (Kd.R_mono (ok' := (fun k_ => some k_ ≠ (.slice Ao17 y164.length co17 : Value).ownBlock ∧ some k_ ≠ (.slice Ao18 y167.length co18 : Value).ownBlock ∧ some k_ ≠ (v172 : Value).ownBlock ∧ some k_ ≠ (.slice Ao24 y174.length co24 : Value).ownBlock ∧ some k_ ≠ (.slice Ao25 y177.length co25 : Value).ownBlock ∧ some k_ ≠ (v182 : Value).ownBlock ∧ some k_ ≠ (v185 : Value).ownBlock)) (Kd.R_apart' (Kd.R_apart' (HO192.out) (Kd.R_typed HO173.out) (by decide)) (Kd.N_typed HO183.out) (by decide)) (fun k_ hk => ⟨hk.1.1.1.1.1.1.1.2, ⟨hk.1.1.1.1.1.1.2, ⟨hk.1.2, ⟨hk.1.1.1.1.1.2, ⟨hk.1.1.1.1.2, ⟨hk.2, hk.1.1.1.2⟩⟩⟩⟩⟩⟩))).2.1 (Kd.R_F (Kd.R_mono (ok' := (fun k_ => some k_ ≠ (.slice Ao17 y164.length co17 : Value).ownBlock ∧ some k_ ≠ (.slice Ao18 y167.length co18 : Value).ownBlock ∧ some k_ ≠ (v172 : Value).ownBlock ∧ some k_ ≠ (.slice Ao24 y174.length co24 : Value).ownBlock ∧ some k_ ≠ (.slice Ao25 y177.length co25 : Value).ownBlock ∧ some k_ ≠ (v182 : Value).ownBlock ∧ some k_ ≠ (v185 : Value).ownBlock)) (Kd.R_apart' (Kd.R_apart' (HO192.out) (Kd.R_typed HO173.out) (by decide)) (Kd.N_typed HO183.out) (by decide)) (fun k_ hk => ⟨hk.1.1.1.1.1.1.1.2, ⟨hk.1.1.1.1.1.1.2, ⟨hk.1.2, ⟨hk.1.1.1.1.1.2, ⟨hk.1.1.1.1.2, ⟨hk.2, hk.1.1.1.2⟩⟩⟩⟩⟩⟩))))) (Reps.none _ _))); intro v194 w35 ho36 hb hg_ hnew_; clear hg_ hnew_; (first | rw [← Ny193.out] at ho36 | (simp only [Int.reduceToNat] at ho36; rw [← Ny193.out] at ho36)); have n0_ := Aside0.mk (Kd.R_below (by (with_reducible repeat (first | apply Kd.R_alloc | apply Kd.R_drewN | apply Kd.R_drew)); exact HO166.out) hb); have n1_ := Aside0.mk (Kd.R_below (by (with_reducible repeat (first | apply Kd.R_alloc | apply Kd.R_drewN | apply Kd.R_drew)); exact HO169.out) hb); have n2_ := Aside0.mk (Kd.R_below (by (with_reducible repeat (first | apply Kd.R_alloc | apply Kd.R_drewN | apply Kd.R_drew)); exact HO173.out) hb); have n3_ := Aside0.mk (Kd.R_below (by (with_reducible repeat (first | apply Kd.R_alloc | apply Kd.R_drewN | apply Kd.R_drew)); exact HO176.out) hb); have n4_ := Aside0.mk (Kd.R_below (by (with_reducible repeat (first | apply Kd.R_alloc | apply Kd.R_drewN | apply Kd.R_drew)); exact HO179.out) hb); have n5_ := Aside0.mk (Kd.N_elder' (by (with_reducible repeat (first | apply Kd.N_alloc | apply Kd.N_drewN | apply Kd.N_drew)); exact HO183.out) (Kd.N_base ho36) hb); have n6_ := Aside0.mk (Kd.R_below (by (with_reducible repeat (first | apply Kd.R_alloc | apply Kd.R_drewN | apply Kd.R_drew)); exact HO186.out) hb); have n7_ := Aside0.mk (Kd.N_lower ho36 (below_size (by repeat (first | (with_reducible first | exact HB.out | apply below_alloc | apply pw_below_drewN | apply below_drew1) | exact HB.out)))); have n8_ := Aside0.mk (below_step (by repeat (first | (with_reducible first | exact HB.out | apply below_alloc | apply pw_below_drewN | apply below_drew1) | exact HB.out)) hb); clear HO166; clear HO169; clear HO173; clear HO176; clear HO179; clear HO183; clear HO186; clear HB; clear HO189; clear HO192; have HO166 := n0_; have HO169 := n1_; have HO173 := n2_; have HO176 := n3_; have HO179 := n4_; have HO183 := n5_; have HO186 := n6_; have HO195 := n7_; have HB := n8_; clear n0_ n1_ n2_ n3_ n4_ n5_ n6_ n7_ n8_; clear hb ho36; obtain ⟨Ao37, co37, eo37⟩ := Kd.R_slice HO186.out; subst eo37; obtain ⟨Ao38, co38, eo38⟩ := Kd.N_slice HO195.out; subst eo38) | ((with_reducible refine gate_callee (f := 18) rfl ?_); refine goesL_ (some 25) rfl rfl Try.func18 (by kernel_rfl) rfl #[.slice Ao37 y184.length co37, .slice Ao38 y193.length co38] rfl (by (try simp only [List.map_toArray, List.map_cons, List.map_nil]); first | done | rfl | (simp only [List.length_drop, List.length_take]; rfl)) ?_; (with_reducible refine (diff_Apply.calls k _ _ y184 _ _ y193 t196 t197 _ ?side1 ?side2 ?side3 ?side4 A3.out).mono ?_); (case side1 => repeat (first | exact (Kd.R_reads' HO186.out).2.2 | (with_reducible refine Kd.C_alloc ?_ _) | (with_reducible refine Kd.C_drewN ?_ _) | (with_reducible refine Kd.C_drew ?_))); (case side2 => exact (Kd.R_reads' HO186.out).2.1); (case side3 => repeat (first | exact (Kd.N_reads' HO195.out).2.2 | (with_reducible refine Kd.C_alloc ?_ _) | (with_reducible refine Kd.C_drewN ?_ _) | (with_reducible refine Kd.C_drew ?_))); (case side4 => exact (Kd.N_reads' HO195.out).2.1); rintro e w39 ⟨v198, rfl, ho0, hb⟩; refine ⟨_, rfl, ?_⟩; have n0_ := Aside0.mk (Kd.R_elder' (by (with_reducible repeat (first | apply Kd.R_alloc | apply Kd.R_drewN | apply Kd.R_drew)); exact HO166.out) (Kd.R_base ho0) hb); have n1_ := Aside0.mk (Kd.R_elder' (by (with_reducible repeat (first | apply Kd.R_alloc | apply Kd.R_drewN | apply Kd.R_drew)); exact HO169.out) (Kd.R_base ho0) hb); have n2_ := Aside0.mk (Kd.R_below (by (with_reducible repeat (first | apply Kd.R_alloc | apply Kd.R_drewN | apply Kd.R_drew)); exact HO173.out) hb); have n3_ := Aside0.mk (Kd.R_elder' (by (with_reducible repeat (first | apply Kd.R_alloc | apply Kd.R_drewN | apply Kd.R_drew)); exact HO176.out) (Kd.R_base ho0) hb); have n4_ := Aside0.mk (Kd.R_elder' (by (with_reducible repeat (first | apply Kd.R_alloc | apply Kd.R_drewN | apply Kd.R_drew)); exact HO179.out) (Kd.R_base ho0) hb); have n5_ := Aside0.mk (Kd.N_elder' (by (with_reducible repeat (first | apply Kd.N_alloc | apply Kd.N_drewN | apply Kd.N_drew)); exact HO183.out) (Kd.R_base ho0) hb); have n6_ := Aside0.mk (Kd.R_elder' (by (with_reducible repeat (first | apply Kd.R_alloc | apply Kd.R_drewN | apply Kd.R_drew)); exact HO186.out) (Kd.R_base ho0) hb); have n7_ := Aside0.mk (Kd.N_elder' (by (with_reducible repeat (first | apply Kd.N_alloc | apply Kd.N_drewN | apply Kd.N_drew)); exact HO195.out) (Kd.R_base ho0) hb); have n8_ := Aside0.mk (Kd.R_lower (Kd.R_new' (Kd.R_new' (Kd.R_new' (Kd.R_new' (Kd.R_new' ho0 (Kd.R_lt (by (with_reducible repeat (first | apply Kd.R_alloc | apply Kd.R_drewN | apply Kd.R_drew)); exact HO166.out))) (Kd.R_lt (by (with_reducible repeat (first | apply Kd.R_alloc | apply Kd.R_drewN | apply Kd.R_drew)); exact HO169.out))) (Kd.R_lt (by (with_reducible repeat (first | apply Kd.R_alloc | apply Kd.R_drewN | apply Kd.R_drew)); exact HO176.out))) (Kd.R_lt (by (with_reducible repeat (first | apply Kd.R_alloc | apply Kd.R_drewN | apply Kd.R_drew)); exact HO179.out))) (Kd.R_lt (by (with_reducible repeat (first | apply Kd.R_alloc | apply Kd.R_drewN | apply Kd.R_drew)); exact HO186.out))) (below_size (by repeat (first | (with_reducible first | exact HB.out | apply below_alloc | apply pw_below_drewN | apply below_drew1) | exact HB.out)))); have n9_ := Aside0.mk (below_step (by repeat (first | (with_reducible first | exact HB.out | apply below_alloc | apply pw_below_drewN | apply below_drew1) | exact HB.out)) hb); clear HO166; clear HO169; clear HO173; clear HO176; clear HO179; clear HO183; clear HO186; clear HO195; clear HB; have HO166 := n0_; have HO169 := n1_; have HO173 := n2_; have HO176 := n3_; have HO179 := n4_; have HO183 := n5_; have HO186 := n6_; have HO195 := n7_; have HO199 := n8_; have HB := n9_; clear n0_ n1_ n2_ n3_ n4_ n5_ n6_ n7_ n8_ n9_; (try clear hb); (try clear hb2); (try clear hk); (try clear hi); (try clear ho0); obtain ⟨Ao40, co40, eo40⟩ := Kd.R_slice HO173.out; subst eo40; (try (have p200 : 0 ≤ (0 : Int) := (by omega); have q200 : 0 < (t170.length : Int) := of_decide_eq_true (by first | (with_reducible assumption) | assumption); obtain ⟨ad200, e200, hx200_0, hx200_1⟩ := at_T39 (Kd.R_reads' HO173.out).2.2 0 p200 q200; cases e200; have qi200 : (0 < t170.length) = True := eq_true (by omega); (try rw [show ((0 : Int)).toNat = 0 from rfl] at hx200_0); (try rw [show 0 * 2 = 0 from rfl] at hx200_0); (try rw [Addr.add_zero'] at hx200_0); (try rw [show ((0 : Int)).toNat = 0 from rfl] at hx200_1); (try rw [show 0 * 2 = 0 from rfl] at hx200_1); (try rw [Addr.add_zero'] at hx200_1); replace p200 := eq_true p200; replace q200 := eq_true q200)); (try (have p201 : 0 ≤ (1 : Int) := (by omega); have q201 : 1 < (t170.length : Int) := of_decide_eq_true (by first | (with_reducible assumption) | assumption); obtain ⟨ad201, e201, hx201_0, hx201_1⟩ := at_T39 (Kd.R_reads' HO173.out).2.2 1 p201 q201; obtain rfl : ad200 = ad201 := (by injection e201); (try simp only [show (1 : Int).toNat = 1 from rfl, Nat.reduceMul, Nat.reduceEqDiff, Go.Addr.add, ↓reduceIte] at hx201_0); (try simp only [show (1 : Int).toNat = 1 from rfl, Nat.reduceMul, Nat.reduceEqDiff, Go.Addr.add, ↓reduceIte] at hx201_1); have qi201 : (1 < t170.length) = True := eq_true (by omega); (try rw [show ((1 : Int)).toNat = 1 from rfl] at hx201_0); (try rw [show 1 * 2 = 2 from rfl] at hx201_0); (try rw [show ((1 : Int)).toNat = 1 from rfl] at hx201_1); (try rw [show 1 * 2 = 2 from rfl] at hx201_1); replace p201 := eq_true p201; replace q201 := eq_true q201)); obtain ⟨Ao41, co41, eo41⟩ := Kd.N_slice HO183.out; subst eo41; obtain ⟨Ao42, co42, eo42⟩ := Kd.R_slice HO199.out; subst eo42))
  go_ret
  exact ⟨by first | rfl | (simp [errW_none, errW_some] <;> rfl) | (simp [*, errW_none, errW_some] <;> rfl), by repeat (first | (with_reducible first | exact HB.out | apply below_alloc | apply pw_below_drewN | apply below_drew1) | exact HB.out)⟩

/-! ### forebearref05_Longest: function 37 -/
set_option linter.unusedVariables false
set_option linter.unusedSimpArgs false
/-- The best of a place, by the places behind it. -/
def longBest (eq : Bool) (b0 b1 r0 : Int) : Int :=
  let m := if r0 > b0 then r0 else b0
  if eq = true then (if wrap64 (b1 + 1) > m then wrap64 (b1 + 1) else m) else m
def longRow (x : ByteArray) : List ByteArray → List Int → List Int
  | [], below => [below.headD 0]
  | y :: ys, below => longBest (x.toList == y.toList) (below.headD 0) (below.tail.headD 0) ((longRow x ys below.tail).headD 0) :: longRow x ys below.tail
def longTab : List ByteArray → List ByteArray → List (List Int)
  | [], b => [List.replicate (b.length + 1) 0]
  | x :: xs, b => longRow x b ((longTab xs b).headD []) :: longTab xs b
theorem longRow_len (x : ByteArray) : ∀ (b : List ByteArray) (r : List Int), (longRow x b r).length = b.length + 1
  | [], _ => rfl
  | y :: ys, r => by simp [longRow, longRow_len x ys]
theorem longTab_len : ∀ (a b : List ByteArray), (longTab a b).length = a.length + 1
  | [], _ => rfl
  | x :: xs, b => by simp [longTab, longTab_len xs b]
theorem longTab_row : ∀ (a b : List ByteArray), ∀ r ∈ longTab a b, r.length = b.length + 1
  | [], b, r, h => by simp [longTab] at h; subst h; simp
  | x :: xs, b, r, h => by
    simp only [longTab, List.mem_cons] at h
    rcases h with rfl | h
    · exact longRow_len _ _ _
    · exact longTab_row xs b r h
def forebearref05_Longest.f (l0 : List ByteArray) (l1 : List ByteArray) : Option (List (List Int)) := if l0.length < 1000000 then (if l1.length < 1000000 then some (longTab l0 l1) else none) else none
set_option maxHeartbeats 16000000 in
set_option maxRecDepth 100000 in
theorem forebearref05_Longest.calls (A0 : Option Addr) (c0 : Nat) (l0 : List ByteArray) (A1 : Option Addr) (c1 : Nat) (l1 : List ByteArray) (r : List (List Int)) (w : World) (hr0 : Kd.C Kd.string w A0 l0.length l0) (hc0 : l0.length ≤ c0) (hr1 : Kd.C Kd.string w A1 l1.length l1) (hc1 : l1.length ≤ c1) (h : forebearref05_Longest.f l0 l1 = some r) :
    Calls Try.prog 37 #[.slice A0 l0.length c0, .slice A1 l1.length c1] w fun e w' => ∃ v0_ : Value, e = .returned (v0_) ∧ Kd.S (Kd.slice 3 (Kd.int .i64)) 42 w' w.heap.size (fun _ => True) v0_ r ∧ Below w.heap.size w w' := by
  unfold forebearref05_Longest.f at h
  split at h
  case isFalse => cases h
  rename_i hl0
  split at h
  case isFalse => cases h
  rename_i hl1
  obtain rfl := Option.some.inj h
  clear h
  have HR0 := Aside0.mk hr0
  have HR1 := Aside0.mk hr1
  clear hr0 hr1 hc0 hc1
  have hmk1 : ∀ W : World, (Instr.makeSlice 95 (.int .i64 ((l0.length : Int) + 1)) (.int .i64 ((l0.length : Int) + 1))).run Try.prog W = .ok (.slice (some ⟨W.heap.size, 0, none⟩) (l0.length + 1) (l0.length + 1)) (W.alloc (.cells (madeCells #[.slice none 0 0] (l0.length + 1)) 42)) := by
    intro W
    exact run_make_row' 95 42 (.slice none 0 0) 24 Try.underlying95 (by kernel_rfl) rfl .i64 .i64 (l0.length + 1) (by omega) (by omega) W
  have hmk2 : ∀ W : World, (Instr.makeSlice 42 (.int .i64 ((l1.length : Int) + 1)) (.int .i64 ((l1.length : Int) + 1))).run Try.prog W = .ok (.slice (some ⟨W.heap.size, 0, none⟩) (l1.length + 1) (l1.length + 1)) (W.alloc (.cells (madeCells #[.int .i64 0] (l1.length + 1)) 3)) := by
    intro W
    exact run_make_row' 42 3 (.int .i64 0) 8 Try.underlying42 (by kernel_rfl) rfl .i64 .i64 (l1.length + 1) (by omega) (by omega) W
  have hcells : madeCells #[Value.int .i64 0] (l1.length + 1) = (nums .i64 (List.replicate (l1.length + 1) 0)).toArray := by
    apply Array.ext'
    rw [List.toList_toArray]
    apply List.ext_getElem
    · simp [madeCells, nums]
    · intro i h1 h2
      simp [madeCells, Nat.mod_one, nums]
  rw [hcells] at hmk2
  clear hcells
  have HZ0 := Aside0.mk hl0
  have HZ1 := Aside0.mk hl1
  go_enter Try.func37, Try.ntmps37
  go_wp2
  go_loopw [6] (fun v6 wr => ∃ (i : Int) (j : Nat) (gs : List (Option Nat)), v6 = .int .i64 i ∧ j ≤ l0.length + 1 ∧ Aside0 (i = (j : Int) - 1) ∧ Aside0 (Tab .i64 42 3 wr w.heap.size w.heap.size (List.replicate j [] ++ (if j ≤ l0.length then longTab (l0.drop j) l1 else [])) (List.replicate j none ++ gs)) ∧ Aside0 (∀ g ∈ gs, g ≠ none) ∧ Aside0 (Below w.heap.size w wr)) (fun v6 wr => (intOf v6 + 1).toNat)
  case atStart =>
    refine ⟨_, l0.length + 1, [], rfl, Nat.le_refl _, ⟨by omega⟩, ⟨?_⟩, ⟨by simp⟩, ⟨below_alloc (Below.refl _ _) _⟩⟩
    rw [if_neg (by omega), List.append_nil, List.append_nil]
    exact Tab.made w .i64 42 3 w.heap.size (l0.length + 1) (Nat.le_refl _)
  case round =>
    obtain ⟨i, j, gs, rfl, hj, HI, HT, HG, HB⟩ := hrel
    cases j with
    | zero =>
      have hi : i = -1 := by have := HI.out; simpa using this
      subst hi
      clear HI
      go_wp2
      go_ret
      have hT := HT.out
      simp only [List.replicate_zero, List.nil_append, List.drop_zero, Nat.zero_le, if_true] at hT
      have hlen := longTab_len l0 l1
      have hrow := longTab_row l0 l1
      have h0 := HZ0.out
      have h1 := HZ1.out
      have := hT.out (by omega) (fun r hr => by have := hrow r hr; omega)
      rw [hlen] at this
      exact ⟨_, rfl, this, HB.out⟩
    | succ p =>
      have hi : i = (p : Int) := by have := HI.out; omega
      subst hi
      clear HI
      have hple : p ≤ l0.length := by omega
      obtain ⟨rest, hrest⟩ : ∃ rest, (if p + 1 ≤ l0.length then longTab (l0.drop (p + 1)) l1 else []) = rest := ⟨_, rfl⟩
      have hT := HT.out
      rw [hrest] at hT
      have hrl : p + 1 + rest.length = l0.length + 1 := by
        rw [← hrest]
        split
        · rw [longTab_len]; simp; omega
        · simp; omega
      obtain ⟨hcT, hfT⟩ := hT.cell p (by simp; omega)
      have hcT' : ∃ u, wr.cell? ⟨w.heap.size, p, none⟩ = some u := ⟨_, hcT⟩
      clear hcT
      obtain ⟨u, hcT⟩ := hcT'
      have hTlt := hT.lt_T
      have HT' := Aside0.mk hT
      have HRE := Aside0.mk hrest
      have HRL := Aside0.mk hrl
      have HTLT := Aside0.mk hTlt
      clear hT HT hrest hrl
      have e4 : (p : Int) < ((l0.length + 1 : Nat) : Int) := by omega
      go_wp2
      obtain ⟨gr, hgr⟩ : ∃ gr : Nat, gr = wr.heap.size := ⟨_, rfl⟩
      have hstart : Aside0 (Tab .i64 42 3 ((wr.setCell ⟨w.heap.size, p, none⟩ (.slice (some ⟨wr.heap.size, 0, none⟩) (l1.length + 1) (l1.length + 1))).alloc (.cells (nums .i64 (List.replicate (l1.length + 1) 0)).toArray 3)) w.heap.size w.heap.size (List.replicate p [] ++ List.replicate (l1.length + 1) 0 :: rest) (List.replicate p none ++ some gr :: gs)) ∧ Aside0 (Below w.heap.size w ((wr.setCell ⟨w.heap.size, p, none⟩ (.slice (some ⟨wr.heap.size, 0, none⟩) (l1.length + 1) (l1.length + 1))).alloc (.cells (nums .i64 (List.replicate (l1.length + 1) 0)).toArray 3))) := by
        subst hgr
        have hput := (HT'.out.alloc (.cells (nums .i64 (List.replicate (l1.length + 1) 0)).toArray 3)).put p (by simp; omega) (g := wr.heap.size) (r := List.replicate (l1.length + 1) 0) (heap_alloc_new wr _) (Nat.le_of_lt HTLT.out) (by have := HTLT.out; omega) (by
          intro hmem
          have := HT'.out.lt_g hmem
          omega)
        rw [List.length_replicate] at hput
        have e1 : (List.replicate (p + 1) ([] : List Int) ++ rest).set p (List.replicate (l1.length + 1) 0) = List.replicate p [] ++ List.replicate (l1.length + 1) 0 :: rest := by
          rw [List.replicate_succ']; simp
        have e2 : (List.replicate (p + 1) (none : Option Nat) ++ gs).set p (some wr.heap.size) = List.replicate p none ++ some wr.heap.size :: gs := by
          rw [List.replicate_succ']; simp
        rw [e1, e2] at hput
        rw [← World.setCell_alloc_past _ _ _ _ (HTLT.out)]
        exact ⟨⟨hput⟩, ⟨below_set (below_alloc HB.out _) (Nat.le_refl _)⟩⟩
      have HGR := Aside0.mk hgr
      clear hgr
      obtain ⟨HSTART, HBSTART⟩ := hstart
      clear hcT e4
      by_cases hpl : p < l0.length
      · obtain ⟨bl, tl, hbl⟩ : ∃ bl tl, rest = bl :: tl := by
          have := HRL.out
          cases hrr : rest with
          | nil => rw [hrr] at this; simp at this; omega
          | cons a b => exact ⟨a, b, rfl⟩
        subst hbl
        have hbl2 : longTab (l0.drop (p + 1)) l1 = bl :: tl := by
          have := HRE.out
          rwa [if_pos (by omega)] at this
        have hbll : bl.length = l1.length + 1 := longTab_row _ _ bl (by rw [hbl2]; simp)
        obtain ⟨gb, gs', hgs'⟩ : ∃ gb gs', gs = some gb :: gs' := by
          have hl := HT'.out.len
          cases hgg : gs with
          | nil => rw [hgg] at hl; simp at hl
          | cons g gs' =>
            cases g with
            | none => exact absurd rfl (HG.out none (by rw [hgg]; simp))
            | some gb => exact ⟨gb, gs', rfl⟩
        subst hgs'
        obtain ⟨R, hRdef⟩ : ∃ R : Nat → List Int, ∀ m, R m = if m ≤ l1.length then longRow l0[p] (l1.drop m) (bl.drop m) else [] := ⟨_, fun _ => rfl⟩
        have HRE1 : Aside0 (R (l1.length + 1) = []) := by constructor; rw [hRdef, if_neg (by omega)]
        have HRL1 : Aside0 (∀ m, m ≤ l1.length + 1 → (R m).length = l1.length + 1 - m) := by
          constructor; intro m hm; rw [hRdef]
          split
          · rw [longRow_len]; simp; omega
          · simp; omega
        have HZR : Aside0 (List.replicate p ([] : List Int) ++ R 0 :: (bl :: tl) = List.replicate p [] ++ longTab (l0.drop p) l1) := by
          constructor
          rw [hRdef, if_pos (Nat.zero_le _), List.drop_eq_getElem_cons hpl, longTab, hbl2]; rfl
        have hb2 : ∀ q, (hq : q < l1.length) → ∀ (h0 : q < bl.length) (h1 : q + 1 < bl.length) rh rt, R (q + 1) = rh :: rt → R q = longBest (l0[p].toList == l1[q].toList) (bl[q]'h0) (bl[q + 1]'h1) rh :: R (q + 1) := by
          intro q hq _ _ rh rt hR
          have h1 : bl.drop q = bl[q] :: bl.drop (q + 1) := List.drop_eq_getElem_cons (by omega)
          have h2 : bl.drop (q + 1) = bl[q + 1] :: bl.drop (q + 1 + 1) := List.drop_eq_getElem_cons (by omega)
          have hR' := hR
          rw [hRdef, if_pos (by omega)] at hR'
          rw [hRdef q, if_pos (by omega), List.drop_eq_getElem_cons hq, longRow, h1, List.tail_cons, hR', hR]
          congr 1
          rw [h2]; rfl
        have hb3 : ∀ (h0 : l1.length < bl.length), R l1.length = bl[l1.length]'h0 :: R (l1.length + 1) := by
          intro _
          have h1 : bl.drop l1.length = bl[l1.length] :: bl.drop (l1.length + 1) := List.drop_eq_getElem_cons (by omega)
          rw [hRdef, hRdef, if_pos (Nat.le_refl _), if_neg (by omega), List.drop_length, longRow, h1]
          rfl
        have HB2 := Aside0.mk hb2
        have HB3 := Aside0.mk hb3
        have HBLL := Aside0.mk hbll
        clear hRdef hb2 hb3 hbl2 hbll
        obtain ⟨wo, rfl⟩ : ∃ wo : World, wo = wr := ⟨_, rfl⟩
        go_loopw [7] (fun v7 wi => ∃ (i7 : Int) (m : Nat), v7 = .int .i64 i7 ∧ m ≤ l1.length + 1 ∧ Aside0 (i7 = (m : Int) - 1) ∧ Aside0 (Tab .i64 42 3 wi w.heap.size w.heap.size (List.replicate p [] ++ (List.replicate m 0 ++ R m) :: (bl :: tl)) (List.replicate p none ++ some gr :: (some gb :: gs'))) ∧ Aside0 (Below w.heap.size w wi)) (fun v7 wi => (intOf v7 + 1).toNat)
        case atStart =>
          refine ⟨_, l1.length + 1, rfl, Nat.le_refl _, ⟨by omega⟩, ⟨?_⟩, ⟨?_⟩⟩
          · rw [HRE1.out, List.append_nil]
            exact HSTART.out
          · exact HBSTART.out
        case round =>
          obtain ⟨i7, m, rfl, hm, HI7, HTI, HBI⟩ := hrel
          cases m with
          | zero =>
            have hi7 : i7 = -1 := by have := HI7.out; simpa using this
            subst hi7
            clear HI7
            go_wp2
            go_roundw
            case rel =>
              refine ⟨_, p, some gr :: (some gb :: gs'), rfl, by omega, ⟨rfl⟩, ⟨?_⟩, ⟨?_⟩, HBI⟩
              · have h1 := HTI.out
                rw [List.replicate_zero, List.nil_append, HZR.out] at h1
                rw [if_pos hple]
                exact h1
              · intro g hg
                rcases List.mem_cons.1 hg with rfl | hg
                · simp
                · exact HG.out g hg
            case measure => first | (simp [intOf]; done) | (simp [intOf]; omega)
          | succ q =>
            have hi7 : i7 = (q : Int) := by have := HI7.out; omega
            subst hi7
            clear HI7
            have hqle : q ≤ l1.length := by omega
            have hrowlen : (List.replicate (q + 1) (0 : Int) ++ R (q + 1)).length = l1.length + 1 := by
              rw [List.length_append, List.length_replicate, HRL1.out (q + 1) (by omega)]; omega
            obtain ⟨hcT, -⟩ := HTI.out.cell p (by simp)
            have hcT' : wr.cell? ⟨w.heap.size, p, none⟩ = some (.slice (some ⟨gr, 0, none⟩) (l1.length + 1) (l1.length + 1)) := by
              have q1 : ∀ hh, (List.replicate p ([] : List Int) ++ (List.replicate (q + 1) 0 ++ R (q + 1)) :: (bl :: tl))[p]'hh = List.replicate (q + 1) 0 ++ R (q + 1) := fun hh => by simp
              have q2 : ∀ hh, (List.replicate p (none : Option Nat) ++ some gr :: (some gb :: gs'))[p]'hh = some gr := fun hh => by simp
              rw [hcT, q1, q2, rowVal, hrowlen]
            clear hcT
            have hgs : (List.replicate p (none : Option Nat) ++ some gr :: (some gb :: gs'))[p]? = some (some gr) := by simp
            have hgd : (List.replicate p ([] : List Int) ++ (List.replicate (q + 1) 0 ++ R (q + 1)) :: (bl :: tl)).getD p [] = List.replicate (q + 1) 0 ++ R (q + 1) := by simp
            have hrow := (HTI.out.row p gr hgs).1
            rw [hgd] at hrow
            have hr0 : wr.cell? ⟨gr, q, none⟩ = some (.int .i64 0) := by
              rw [blk_cell hrow q]; simp [nums, List.getElem?_append, List.getElem?_replicate]
            have hrf := blk_frozen hrow q
            have fin : ∀ (v : Int) (W : World) (n : Nat), v :: R (q + 1) = R q → (W = wr.drewN n ∨ W = (wr.drewN n).drew) →
                Aside0 (Tab .i64 42 3 (W.setCell ⟨gr, q, none⟩ (.int .i64 v)) w.heap.size w.heap.size (List.replicate p [] ++ (List.replicate q 0 ++ R q) :: (bl :: tl)) (List.replicate p none ++ some gr :: (some gb :: gs'))) ∧ Aside0 (Below w.heap.size w (W.setCell ⟨gr, q, none⟩ (.int .i64 v))) := by
              intro v W n hv hW
              have hTW : Tab .i64 42 3 W w.heap.size w.heap.size (List.replicate p [] ++ (List.replicate (q + 1) 0 ++ R (q + 1)) :: (bl :: tl)) (List.replicate p none ++ some gr :: (some gb :: gs')) := by
                rcases hW with rfl | rfl
                · exact HTI.out.drewN n
                · exact (HTI.out.drewN n).drew
              have hBW : Below w.heap.size w W := by
                rcases hW with rfl | rfl
                · exact pw_below_drewN HBI.out n
                · exact below_drew (pw_below_drewN HBI.out n)
              have hput := hTW.rowput hgs q v
              rw [hgd] at hput
              have e1 : (List.replicate p ([] : List Int) ++ (List.replicate (q + 1) 0 ++ R (q + 1)) :: (bl :: tl)).set p ((List.replicate (q + 1) 0 ++ R (q + 1)).set q v) = List.replicate p [] ++ (List.replicate q 0 ++ R q) :: (bl :: tl) := by
                rw [← hv, List.replicate_succ']; simp
              rw [e1] at hput
              exact ⟨⟨hput⟩, ⟨below_set hBW (HTI.out.row p gr hgs).2.1⟩⟩
            have FIN := Aside0.mk fin
            clear fin
            have HROW := Aside0.mk hrow
            clear hrow hgd hgs hrowlen
            have hp0 : decide ((p : Int) < (l0.length : Int)) = true := by simp; omega
            have ep1 : IntKind.i64.wrap ((p : Int) + 1) = (p : Int) + 1 := IntWalk.i64_in _ (by have := HZ0.out; omega)
            have ep2 : 0 ≤ (p : Int) + 1 := by omega
            have ep3 : (p : Int) + 1 < ((l0.length + 1 : Nat) : Int) := by omega
            have ep4 : ((p : Int) + 1).toNat = p + 1 := by omega
            have hlq : bl.length = l1.length + 1 := HBLL.out
            have hq0b : q < bl.length := by omega
            obtain ⟨hcB, -⟩ := HTI.out.cell (p + 1) (by simp)
            have hcB' : wr.cell? ⟨w.heap.size, p + 1, none⟩ = some (.slice (some ⟨gb, 0, none⟩) (l1.length + 1) (l1.length + 1)) := by
              have q1 : ∀ hh, (List.replicate p ([] : List Int) ++ (List.replicate (q + 1) 0 ++ R (q + 1)) :: (bl :: tl))[p + 1]'hh = bl := fun hh => by simp [List.getElem_append]
              have q2 : ∀ hh, (List.replicate p (none : Option Nat) ++ some gr :: (some gb :: gs'))[p + 1]'hh = some gb := fun hh => by simp [List.getElem_append]
              rw [hcB, q1, q2, rowVal, hlq]
            clear hcB
            have hgsB : (List.replicate p (none : Option Nat) ++ some gr :: (some gb :: gs'))[p + 1]? = some (some gb) := by simp [List.getElem?_append]
            have hgdB : (List.replicate p ([] : List Int) ++ (List.replicate (q + 1) 0 ++ R (q + 1)) :: (bl :: tl)).getD (p + 1) [] = bl := by simp [List.getD_eq_getElem?_getD, List.getElem?_append]
            have hrowB := (HTI.out.row (p + 1) gb hgsB).1
            rw [hgdB] at hrowB
            clear hgdB hgsB
            have HROWB := Aside0.mk hrowB
            clear hrowB
            have hb0 : wr.cell? ⟨gb, q, none⟩ = some (.int .i64 (bl[q]'hq0b)) := by
              rw [blk_cell HROWB.out q, List.getElem?_toArray]; simp [nums, hq0b]
            by_cases hqn : q < l1.length
            · have hq0 : decide ((q : Int) < (l1.length : Int)) = true := by simp; omega
              have hq1b : q + 1 < bl.length := by omega
              have hb1 : wr.cell? ⟨gb, q + 1, none⟩ = some (.int .i64 (bl[q + 1]'hq1b)) := by
                rw [blk_cell HROWB.out (q + 1), List.getElem?_toArray]; simp [nums, hq1b]
              obtain ⟨ad0, rfl, hx⟩ := Kd.at_string (Kd.C_below HR0.out HBI.out) (p : Int) (by omega) (by omega)
              rw [Int.toNat_natCast] at hx
              have hrd : rdOf ByteArray.empty l0 (p : Int) = l0[p] := by simp [rdOf, hpl]
              rw [hrd] at hx
              clear hrd
              obtain ⟨ad1, rfl, hy⟩ := Kd.at_string (Kd.C_below HR1.out HBI.out) (q : Int) (by omega) (by omega)
              rw [Int.toNat_natCast] at hy
              have hrd : rdOf ByteArray.empty l1 (q : Int) = l1[q] := by simp [rdOf, hqn]
              rw [hrd] at hy
              clear hrd
              obtain ⟨rh, rt, hR⟩ : ∃ rh rt, R (q + 1) = rh :: rt := by
                have hl := HRL1.out (q + 1) (by omega)
                cases e : R (q + 1) with
                | nil => rw [e] at hl; simp at hl; omega
                | cons a b => exact ⟨a, b, rfl⟩
              have hr1 : wr.cell? ⟨gr, q + 1, none⟩ = some (.int .i64 rh) := by
                rw [blk_cell HROW.out (q + 1), hR]; simp [nums, List.getElem?_append, List.getElem?_replicate]
              have hspec := HB2.out q hqn hq0b hq1b rh rt hR
              have HSPEC := Aside0.mk hspec
              clear hspec hR
              have e1 : IntKind.i64.wrap ((q : Int) + 1) = (q : Int) + 1 := IntWalk.i64_in _ (by have := HZ1.out; omega)
              have e3 : 0 ≤ (q : Int) + 1 := by omega
              have e4' : (q : Int) + 1 < ((l1.length + 1 : Nat) : Int) := by omega
              have e5 : ((q : Int) + 1).toNat = q + 1 := by omega
              generalize bl[q] = b0 at hb0 HSPEC
              generalize bl[q + 1] = b1 at hb1 HSPEC
              clear hq0b hq1b hlq
              obtain ⟨s, hs⟩ : ∃ s, IntKind.i64.wrap (b1 + 1) = s := ⟨_, rfl⟩
              have HS : Aside0 (wrap64 (b1 + 1) = s) := ⟨by rw [← hs, IntWalk.i64_left]⟩
              generalize l0[p] = x at hx HSPEC
              generalize l1[q] = y at hy HSPEC
              cases hc1 : decide (b0 < rh) with
              | true =>
                have hm : (if rh > b0 then rh else b0) = rh := if_pos (by simpa using hc1)
                have HM := Aside0.mk hm
                clear hm
                cases hb : (x.toList == y.toList) with
                | true =>
                  cases hc2 : decide (rh < s) with
                  | true =>
                    have hv : longBest true b0 b1 rh = s := by
                      have h2 : s > rh := by simpa using hc2
                      simp [longBest, HM.out, HS.out, h2]
                    have HV := Aside0.mk hv
                    clear hv
                    go_wp2
                    go_quiet (fail)
                    go_wp2
                    go_roundw
                    case rel =>
                      obtain ⟨f1, f2⟩ := FIN.out s _ nq (by rw [HSPEC.out, hb, HV.out]) (by first | exact .inl rfl | exact .inr rfl)
                      exact ⟨_, q, rfl, by omega, ⟨rfl⟩, f1, f2⟩
                    case measure => first | (simp [intOf]; done) | (simp [intOf]; omega)
                  | false =>
                    have hv : longBest true b0 b1 rh = rh := by
                      have h2 : ¬ s > rh := by simpa using hc2
                      simp [longBest, HM.out, HS.out, h2]
                    have HV := Aside0.mk hv
                    clear hv
                    go_wp2
                    go_quiet (fail)
                    go_wp2
                    go_roundw
                    case rel =>
                      obtain ⟨f1, f2⟩ := FIN.out rh _ nq (by rw [HSPEC.out, hb, HV.out]) (by first | exact .inl rfl | exact .inr rfl)
                      exact ⟨_, q, rfl, by omega, ⟨rfl⟩, f1, f2⟩
                    case measure => first | (simp [intOf]; done) | (simp [intOf]; omega)
                | false =>
                  have hv : longBest false b0 b1 rh = rh := by
                    simp [longBest, HM.out]
                  have HV := Aside0.mk hv
                  clear hv
                  go_wp2
                  go_quiet (fail)
                  go_wp2
                  go_roundw
                  case rel =>
                    obtain ⟨f1, f2⟩ := FIN.out rh _ nq (by rw [HSPEC.out, hb, HV.out]) (by first | exact .inl rfl | exact .inr rfl)
                    exact ⟨_, q, rfl, by omega, ⟨rfl⟩, f1, f2⟩
                  case measure => first | (simp [intOf]; done) | (simp [intOf]; omega)
              | false =>
                have hm : (if rh > b0 then rh else b0) = b0 := if_neg (by simpa using hc1)
                have HM := Aside0.mk hm
                clear hm
                cases hb : (x.toList == y.toList) with
                | true =>
                  cases hc2 : decide (b0 < s) with
                  | true =>
                    have hv : longBest true b0 b1 rh = s := by
                      have h2 : s > b0 := by simpa using hc2
                      simp [longBest, HM.out, HS.out, h2]
                    have HV := Aside0.mk hv
                    clear hv
                    go_wp2
                    go_quiet (fail)
                    go_wp2
                    go_roundw
                    case rel =>
                      obtain ⟨f1, f2⟩ := FIN.out s _ nq (by rw [HSPEC.out, hb, HV.out]) (by first | exact .inl rfl | exact .inr rfl)
                      exact ⟨_, q, rfl, by omega, ⟨rfl⟩, f1, f2⟩
                    case measure => first | (simp [intOf]; done) | (simp [intOf]; omega)
                  | false =>
                    have hv : longBest true b0 b1 rh = b0 := by
                      have h2 : ¬ s > b0 := by simpa using hc2
                      simp [longBest, HM.out, HS.out, h2]
                    have HV := Aside0.mk hv
                    clear hv
                    go_wp2
                    go_quiet (fail)
                    go_wp2
                    go_roundw
                    case rel =>
                      obtain ⟨f1, f2⟩ := FIN.out b0 _ nq (by rw [HSPEC.out, hb, HV.out]) (by first | exact .inl rfl | exact .inr rfl)
                      exact ⟨_, q, rfl, by omega, ⟨rfl⟩, f1, f2⟩
                    case measure => first | (simp [intOf]; done) | (simp [intOf]; omega)
                | false =>
                  have hv : longBest false b0 b1 rh = b0 := by
                    simp [longBest, HM.out]
                  have HV := Aside0.mk hv
                  clear hv
                  go_wp2
                  go_quiet (fail)
                  go_wp2
                  go_roundw
                  case rel =>
                    obtain ⟨f1, f2⟩ := FIN.out b0 _ nq (by rw [HSPEC.out, hb, HV.out]) (by first | exact .inl rfl | exact .inr rfl)
                    exact ⟨_, q, rfl, by omega, ⟨rfl⟩, f1, f2⟩
                  case measure => first | (simp [intOf]; done) | (simp [intOf]; omega)
            · have hq0 : decide ((q : Int) < (l1.length : Int)) = false := by simp; omega
              have hqe : q = l1.length := by omega
              subst hqe
              have hv := HB3.out hq0b
              generalize bl[l1.length] = b0 at hb0 hv
              have HV := Aside0.mk hv
              clear hv hq0b hlq
              go_wp2
              go_quiet (fail)
              go_wp2
              go_roundw
              case rel =>
                obtain ⟨f1, f2⟩ := FIN.out b0 _ nq HV.out.symm (by first | exact .inl rfl | exact .inr rfl)
                exact ⟨_, l1.length, rfl, by omega, ⟨rfl⟩, f1, f2⟩
              case measure => first | (simp [intOf]; done) | (simp [intOf]; omega)
      · obtain ⟨R, hRdef⟩ : ∃ R : Nat → List Int, ∀ m, R m = List.replicate (l1.length + 1 - m) 0 := ⟨_, fun _ => rfl⟩
        have HRE1 : Aside0 (R (l1.length + 1) = []) := by constructor; rw [hRdef]; simp
        have HRL1 : Aside0 (∀ m, m ≤ l1.length + 1 → (R m).length = l1.length + 1 - m) := by constructor; intro m _; rw [hRdef]; simp
        have HRD := Aside0.mk hRdef
        clear hRdef
        have HZR : Aside0 (List.replicate p ([] : List Int) ++ R 0 :: rest = List.replicate p [] ++ longTab (l0.drop p) l1) := by
          constructor
          have h1 : rest = [] := by rw [← HRE.out, if_neg (by omega)]
          rw [h1, HRD.out, List.drop_eq_nil_of_le (by omega)]; rfl
        obtain ⟨wo, rfl⟩ : ∃ wo : World, wo = wr := ⟨_, rfl⟩
        go_loopw [7] (fun v7 wi => ∃ (i7 : Int) (m : Nat), v7 = .int .i64 i7 ∧ m ≤ l1.length + 1 ∧ Aside0 (i7 = (m : Int) - 1) ∧ Aside0 (Tab .i64 42 3 wi w.heap.size w.heap.size (List.replicate p [] ++ (List.replicate m 0 ++ R m) :: rest) (List.replicate p none ++ some gr :: gs)) ∧ Aside0 (Below w.heap.size w wi)) (fun v7 wi => (intOf v7 + 1).toNat)
        case atStart =>
          refine ⟨_, l1.length + 1, rfl, Nat.le_refl _, ⟨by omega⟩, ⟨?_⟩, ⟨?_⟩⟩
          · rw [HRE1.out, List.append_nil]
            exact HSTART.out
          · exact HBSTART.out
        case round =>
          obtain ⟨i7, m, rfl, hm, HI7, HTI, HBI⟩ := hrel
          cases m with
          | zero =>
            have hi7 : i7 = -1 := by have := HI7.out; simpa using this
            subst hi7
            clear HI7
            go_wp2
            go_roundw
            case rel =>
              refine ⟨_, p, some gr :: gs, rfl, by omega, ⟨rfl⟩, ⟨?_⟩, ⟨?_⟩, HBI⟩
              · have h1 := HTI.out
                rw [List.replicate_zero, List.nil_append, HZR.out] at h1
                rw [if_pos hple]
                exact h1
              · intro g hg
                rcases List.mem_cons.1 hg with rfl | hg
                · simp
                · exact HG.out g hg
            case measure => first | (simp [intOf]; done) | (simp [intOf]; omega)
          | succ q =>
            have hi7 : i7 = (q : Int) := by have := HI7.out; omega
            subst hi7
            clear HI7
            have hqle : q ≤ l1.length := by omega
            have hrowlen : (List.replicate (q + 1) (0 : Int) ++ R (q + 1)).length = l1.length + 1 := by
              rw [List.length_append, List.length_replicate, HRL1.out (q + 1) (by omega)]; omega
            obtain ⟨hcT, -⟩ := HTI.out.cell p (by simp)
            have hcT' : wr.cell? ⟨w.heap.size, p, none⟩ = some (.slice (some ⟨gr, 0, none⟩) (l1.length + 1) (l1.length + 1)) := by
              have q1 : ∀ hh, (List.replicate p ([] : List Int) ++ (List.replicate (q + 1) 0 ++ R (q + 1)) :: rest)[p]'hh = List.replicate (q + 1) 0 ++ R (q + 1) := fun hh => by simp
              have q2 : ∀ hh, (List.replicate p (none : Option Nat) ++ some gr :: gs)[p]'hh = some gr := fun hh => by simp
              rw [hcT, q1, q2, rowVal, hrowlen]
            clear hcT
            have hgs : (List.replicate p (none : Option Nat) ++ some gr :: gs)[p]? = some (some gr) := by simp
            have hgd : (List.replicate p ([] : List Int) ++ (List.replicate (q + 1) 0 ++ R (q + 1)) :: rest).getD p [] = List.replicate (q + 1) 0 ++ R (q + 1) := by simp
            have hrow := (HTI.out.row p gr hgs).1
            rw [hgd] at hrow
            have hr0 : wr.cell? ⟨gr, q, none⟩ = some (.int .i64 0) := by
              rw [blk_cell hrow q]; simp [nums, List.getElem?_append, List.getElem?_replicate]
            have hrf := blk_frozen hrow q
            have fin : ∀ (v : Int) (W : World) (n : Nat), v :: R (q + 1) = R q → (W = wr.drewN n ∨ W = (wr.drewN n).drew) →
                Aside0 (Tab .i64 42 3 (W.setCell ⟨gr, q, none⟩ (.int .i64 v)) w.heap.size w.heap.size (List.replicate p [] ++ (List.replicate q 0 ++ R q) :: rest) (List.replicate p none ++ some gr :: gs)) ∧ Aside0 (Below w.heap.size w (W.setCell ⟨gr, q, none⟩ (.int .i64 v))) := by
              intro v W n hv hW
              have hTW : Tab .i64 42 3 W w.heap.size w.heap.size (List.replicate p [] ++ (List.replicate (q + 1) 0 ++ R (q + 1)) :: rest) (List.replicate p none ++ some gr :: gs) := by
                rcases hW with rfl | rfl
                · exact HTI.out.drewN n
                · exact (HTI.out.drewN n).drew
              have hBW : Below w.heap.size w W := by
                rcases hW with rfl | rfl
                · exact pw_below_drewN HBI.out n
                · exact below_drew (pw_below_drewN HBI.out n)
              have hput := hTW.rowput hgs q v
              rw [hgd] at hput
              have e1 : (List.replicate p ([] : List Int) ++ (List.replicate (q + 1) 0 ++ R (q + 1)) :: rest).set p ((List.replicate (q + 1) 0 ++ R (q + 1)).set q v) = List.replicate p [] ++ (List.replicate q 0 ++ R q) :: rest := by
                rw [← hv, List.replicate_succ']; simp
              rw [e1] at hput
              exact ⟨⟨hput⟩, ⟨below_set hBW (HTI.out.row p gr hgs).2.1⟩⟩
            have FIN := Aside0.mk fin
            clear fin
            have HROW := Aside0.mk hrow
            clear hrow hgd hgs hrowlen
            have hp0 : decide ((p : Int) < (l0.length : Int)) = false := by simp; omega
            by_cases hqn : q < l1.length
            · have hq0 : decide ((q : Int) < (l1.length : Int)) = true := by simp; omega
              have hr1 : wr.cell? ⟨gr, q + 1, none⟩ = some (.int .i64 0) := by
                rw [blk_cell HROW.out (q + 1), HRD.out, List.getElem?_toArray]
                simp [nums, List.getElem?_append, List.getElem?_replicate]; omega
              have e1 : IntKind.i64.wrap ((q : Int) + 1) = (q : Int) + 1 := IntWalk.i64_in _ (by have := HZ1.out; omega)
              have e4' : (q : Int) + 1 < ((l1.length + 1 : Nat) : Int) := by omega
              have e5 : ((q : Int) + 1).toNat = q + 1 := by omega
              go_wp2
              go_quiet (fail)
              go_wp2
              go_roundw
              case rel =>
                obtain ⟨f1, f2⟩ := FIN.out 0 _ nq (by rw [HRD.out, HRD.out, show l1.length + 1 - q = (l1.length + 1 - (q + 1)) + 1 by omega]; rfl) (by first | exact .inl rfl | exact .inr rfl)
                exact ⟨_, q, rfl, by omega, ⟨rfl⟩, f1, f2⟩
              case measure => first | (simp [intOf]; done) | (simp [intOf]; omega)
            · have hq0 : decide ((q : Int) < (l1.length : Int)) = false := by simp; omega
              go_wp2
              go_quiet (fail)
              go_wp2
              go_roundw
              case rel =>
                obtain ⟨f1, f2⟩ := FIN.out 0 _ nq (by rw [HRD.out, HRD.out, show l1.length + 1 - q = (l1.length + 1 - (q + 1)) + 1 by omega]; rfl) (by first | exact .inl rfl | exact .inr rfl)
                exact ⟨_, q, rfl, by omega, ⟨rfl⟩, f1, f2⟩
              case measure => first | (simp [intOf]; done) | (simp [intOf]; omega)

end Go.Proofs.Ythigjlahanejjaa.MD

/- Laid by this claim's own program (myprint) out of the translation: functions that the laws of the group O reach, each as a plain function, with the proof that the Go code comes to it. No condition. -/
import Derived.Test.YthigjlahanejjaaMOx0
import Derived.Test.YthigjlahanejjaaMOx4
import Derived.Test.YthigjlahanejjaaMOx5
import Derived.Test.YthigjlahanejjaaMOx6
import Derived.Test.YthigjlahanejjaaMOx7
import Derived.Test.YthigjlahanejjaaMOx8
import Derived.Test.YthigjlahanejjaaMOx9
namespace Go.Proofs.Ythigjlahanejjaa.MO
open Go.Proofs.Ythigjlahanejjaa.Opening
open Go.RowKit Go.Proofs.YthigjlahanejjaaW.PrintWords Go.Proofs.YthigjlahanejjaaW.PrintLast Go.Proofs.YthigjlahanejjaaW.PrintMore
attribute [local go_sem] max2_int min2_int max_two min_two max_three min_three max_four min_four   -- for this text's walks alone
set_option linter.unusedVariables false
set_option linter.unusedSimpArgs false

/-! ### forebearlaw08_ObjectCommits: function 10 -/
def forebearlaw08_ObjectCommits.f (k : Nat) (a0_0 : Int) (l0_1 : List Int) (a0_2 : Int) (a0_3 : ByteArray) (l1 : List Int) : Option (Bool) := (forebearlaw08_awake.f k).bind fun t224 => (if t224 = true then ((some (([] : List Int) : List Int)).bind fun y226 => (if y226.length + l0_1.length < 17592186044416 then ((some (y226 ++ l0_1 : List Int)).bind fun y229 => ((object_Commit.f k a0_0 y229 a0_2 a0_3).bind fun bt232 => ((forebearlaw08_Commit.f k a0_0 l0_1 a0_2 a0_3).bind fun bt236 => ((forebearref08_Write.f k bt236.1 bt236.2.1 bt236.2.2.1 bt236.2.2.2).bind fun bt242 => ((some (([] : List Int) : List Int)).bind fun y244 => (if y244.length + l1.length < 140737488355328 then ((object_ReadCommit.f k (y244 ++ l1)).bind fun bt250 => ((forebearref08_ReadCommit.f k (strOfNums l1)).bind fun bt258 => (if (strOfNums bt232.1).toList = bt242.1.toList then (if bt232.2 = bt242.2 then ((forebearlaw08_Commit.f k bt250.1 bt250.2.1 bt250.2.2.1 bt250.2.2.2.1).bind fun bt266 => ((forebearref08_SameCommit.f k bt266.1 bt266.2.1 bt266.2.2.1 bt266.2.2.2 bt258.1 bt258.2.1 bt258.2.2.1 bt258.2.2.2.1).bind fun t272 => (if t272 = true then (if bt250.2.2.2.2 = bt258.2.2.2.2 then ((forebearlaw08_Commit.f k a0_0 y229 a0_2 a0_3).bind fun bt273 => ((forebearlaw08_Commit.f k a0_0 l0_1 a0_2 a0_3).bind fun bt279 => ((forebearref08_SameCommit.f k bt273.1 bt273.2.1 bt273.2.2.1 bt273.2.2.2 bt279.1 bt279.2.1 bt279.2.2.1 bt279.2.2.2).bind fun t285 => (some t285)))) else (some false)) else (some false)))) else (some false)) else (some false)))) else (none))))))) else (none))) else (some false))
theorem forebearlaw08_ObjectCommits.mono : ∀ a0 a1 a2 a3 a4 k, LeO (forebearlaw08_ObjectCommits.f k a0 a1 a2 a3 a4) (forebearlaw08_ObjectCommits.f (k + 1) a0 a1 a2 a3 a4) := by
 intro a0 a1 a2 a3 a4 k
 unfold forebearlaw08_ObjectCommits.f
 repeat' first
   | (with_reducible exact forebearlaw08_Commit.mono _ _ _ _ _)
   | (with_reducible exact forebearlaw08_awake.mono _)
   | (with_reducible exact forebearref08_ReadCommit.mono _ _)
   | (with_reducible exact forebearref08_SameCommit.mono _ _ _ _ _ _ _ _ _)
   | (with_reducible exact forebearref08_Write.mono _ _ _ _ _)
   | (with_reducible exact object_Commit.mono _ _ _ _ _)
   | (with_reducible exact object_ReadCommit.mono _ _)
   | (with_reducible exact LeO.refl _)
   | (with_reducible exact LeO.none _)
   | (with_reducible refine LeO.ite ?_ ?_)
   | (with_reducible refine LeO.bind ?_ (fun _ => ?_))
   | exact forebearlaw08_Commit.mono _ _ _ _ _
   | exact forebearlaw08_awake.mono _
   | exact forebearref08_ReadCommit.mono _ _
   | exact forebearref08_SameCommit.mono _ _ _ _ _ _ _ _ _
   | exact forebearref08_Write.mono _ _ _ _ _
   | exact object_Commit.mono _ _ _ _ _
   | exact object_ReadCommit.mono _ _
   | exact LeO.none _
   | refine LeO.ite ?_ ?_
   | refine LeO.bind ?_ (fun _ => ?_)
def forebearlaw08_ObjectCommits.T9 : Bool × List (List Nat × List Nat) := (true, [([], []), ([0], [0]), ([], []), ([1, 2], [1, 2]), ([3], [3]), ([4], [4]), ([4], [4]), ([5, 6, 4], [4, 5, 6]), ([4, 7], [4, 7]), ([8, 4], [8]), ([9], [9]), ([10, 9, 9], [9, 10]), ([9], [9]), ([11, 12, 11, 9], [9, 11, 12]), ([9, 13], [9, 13]), ([14, 13], [14]), ([15], [15]), ([15], [15]), ([16, 17, 15], [15, 16, 17]), ([15, 18], [15, 18]), ([19, 15], [19]), ([20], [20]), ([21, 20, 20], [20, 21]), ([20], [20]), ([23, 22, 20], [20, 23]), ([22, 24, 24, 20], [20, 22, 24]), ([20, 25], [20, 25]), ([26, 25, 0, 1, 2, 3, 4, 5, 6, 7, 8, 9, 10, 11, 12, 13, 14, 15, 16, 17, 18, 19, 20, 21, 22, 23, 24, 25, 26], [26])])
def forebearlaw08_ObjectCommits.B9 : List Nat := [0, 1, 0, 7, 15, 31, 31, 127, 255, 511, 1023, 2047, 1023, 8191, 16383, 32767, 65535, 65535, 262143, 524287, 1048575, 2097151, 4194303, 2097151, 16777215, 33554431, 67108863, 134217727]
theorem forebearlaw08_ObjectCommits.tab9 : rtab .any (opsOf Try.f10 9) = forebearlaw08_ObjectCommits.T9 := by kernel_rfl
theorem forebearlaw08_ObjectCommits.bits9 : waitsOk forebearlaw08_ObjectCommits.T9.2 forebearlaw08_ObjectCommits.B9 = true := by kernel_rfl
set_option maxHeartbeats 8000000 in
set_option maxRecDepth 100000 in
theorem forebearlaw08_ObjectCommits.calls (k : Nat) (a0_0 : Int) (A0_1 : Option Addr) (c0_1 : Nat) (l0_1 : List Int) (a0_2 : Int) (a0_3 : ByteArray) (A1 : Option Addr) (c1 : Nat) (l1 : List Int) (r : Bool) (w : World) (hr0_1 : Kd.C (Kd.int .u64) w A0_1 l0_1.length l0_1) (hc0_1 : l0_1.length ≤ c0_1) (hr1 : Kd.C (Kd.int .u8) w A1 l1.length l1) (hc1 : l1.length ≤ c1) (h : forebearlaw08_ObjectCommits.f k a0_0 l0_1 a0_2 a0_3 l1 = some r) (hr_ : r = true := by rfl) :
  Calls Try.prog 10 #[.agg #[.int .u64 a0_0, .slice A0_1 l0_1.length c0_1, .int .i64 a0_2, .string a0_3], .slice A1 l1.length c1] w fun e w' => e = .returned (.bool r) ∧ Below w.heap.size w w' := by
 have hu77 := Try.underlying77
 have hu82 := Try.underlying82
 have HR0_1 := Aside0.mk hr0_1
 have HC0_1 := Aside0.mk hc0_1
 clear hr0_1 hc0_1
 have HR1 := Aside0.mk hr1
 have HC1 := Aside0.mk hc1
 clear hr1 hc1
 have HB := Aside0.mk (Below.refl w.heap.size w)
 have HR_ := Aside0.mk hr_
 clear hr_
 have H : ((forebearlaw08_awake.f k).bind fun t224 => (if t224 = true then ((some (([] : List Int) : List Int)).bind fun y226 => (if y226.length + l0_1.length < 17592186044416 then ((some (y226 ++ l0_1 : List Int)).bind fun y229 => ((object_Commit.f k a0_0 y229 a0_2 a0_3).bind fun bt232 => ((forebearlaw08_Commit.f k a0_0 l0_1 a0_2 a0_3).bind fun bt236 => ((forebearref08_Write.f k bt236.1 bt236.2.1 bt236.2.2.1 bt236.2.2.2).bind fun bt242 => ((some (([] : List Int) : List Int)).bind fun y244 => (if y244.length + l1.length < 140737488355328 then ((object_ReadCommit.f k (y244 ++ l1)).bind fun bt250 => ((forebearref08_ReadCommit.f k (strOfNums l1)).bind fun bt258 => (if (strOfNums bt232.1).toList = bt242.1.toList then (if bt232.2 = bt242.2 then ((forebearlaw08_Commit.f k bt250.1 bt250.2.1 bt250.2.2.1 bt250.2.2.2.1).bind fun bt266 => ((forebearref08_SameCommit.f k bt266.1 bt266.2.1 bt266.2.2.1 bt266.2.2.2 bt258.1 bt258.2.1 bt258.2.2.1 bt258.2.2.2.1).bind fun t272 => (if t272 = true then (if bt250.2.2.2.2 = bt258.2.2.2.2 then ((forebearlaw08_Commit.f k a0_0 y229 a0_2 a0_3).bind fun bt273 => ((forebearlaw08_Commit.f k a0_0 l0_1 a0_2 a0_3).bind fun bt279 => ((forebearref08_SameCommit.f k bt273.1 bt273.2.1 bt273.2.2.1 bt273.2.2.2 bt279.1 bt279.2.1 bt279.2.2.1 bt279.2.2.2).bind fun t285 => (some t285)))) else (some false)) else (some false)))) else (some false)) else (some false)))) else (none))))))) else (none))) else (some false))) = some r := h
 clear h
 replace H := Option.bind_eq_some_iff.mp H
 obtain ⟨t224, A30, H⟩ := H
 replace H : (if t224 = true then ((some (([] : List Int) : List Int)).bind fun y226 => (if y226.length + l0_1.length < 17592186044416 then ((some (y226 ++ l0_1 : List Int)).bind fun y229 => ((object_Commit.f k a0_0 y229 a0_2 a0_3).bind fun bt232 => ((forebearlaw08_Commit.f k a0_0 l0_1 a0_2 a0_3).bind fun bt236 => ((forebearref08_Write.f k bt236.1 bt236.2.1 bt236.2.2.1 bt236.2.2.2).bind fun bt242 => ((some (([] : List Int) : List Int)).bind fun y244 => (if y244.length + l1.length < 140737488355328 then ((object_ReadCommit.f k (y244 ++ l1)).bind fun bt250 => ((forebearref08_ReadCommit.f k (strOfNums l1)).bind fun bt258 => (if (strOfNums bt232.1).toList = bt242.1.toList then (if bt232.2 = bt242.2 then ((forebearlaw08_Commit.f k bt250.1 bt250.2.1 bt250.2.2.1 bt250.2.2.2.1).bind fun bt266 => ((forebearref08_SameCommit.f k bt266.1 bt266.2.1 bt266.2.2.1 bt266.2.2.2 bt258.1 bt258.2.1 bt258.2.2.1 bt258.2.2.2.1).bind fun t272 => (if t272 = true then (if bt250.2.2.2.2 = bt258.2.2.2.2 then ((forebearlaw08_Commit.f k a0_0 y229 a0_2 a0_3).bind fun bt273 => ((forebearlaw08_Commit.f k a0_0 l0_1 a0_2 a0_3).bind fun bt279 => ((forebearref08_SameCommit.f k bt273.1 bt273.2.1 bt273.2.2.1 bt273.2.2.2 bt279.1 bt279.2.1 bt279.2.2.1 bt279.2.2.2).bind fun t285 => (some t285)))) else (some false)) else (some false)))) else (some false)) else (some false)))) else (none))))))) else (none))) else (some false)) = some r := H
 have A3 := Aside0.mk A30
 clear A30
 by_cases c4 : t224 = true
 ·subst c4
  have H1 : ((some (([] : List Int) : List Int)).bind fun y226 => (if y226.length + l0_1.length < 17592186044416 then ((some (y226 ++ l0_1 : List Int)).bind fun y229 => ((object_Commit.f k a0_0 y229 a0_2 a0_3).bind fun bt232 => ((forebearlaw08_Commit.f k a0_0 l0_1 a0_2 a0_3).bind fun bt236 => ((forebearref08_Write.f k bt236.1 bt236.2.1 bt236.2.2.1 bt236.2.2.2).bind fun bt242 => ((some (([] : List Int) : List Int)).bind fun y244 => (if y244.length + l1.length < 140737488355328 then ((object_ReadCommit.f k (y244 ++ l1)).bind fun bt250 => ((forebearref08_ReadCommit.f k (strOfNums l1)).bind fun bt258 => (if (strOfNums bt232.1).toList = bt242.1.toList then (if bt232.2 = bt242.2 then ((forebearlaw08_Commit.f k bt250.1 bt250.2.1 bt250.2.2.1 bt250.2.2.2.1).bind fun bt266 => ((forebearref08_SameCommit.f k bt266.1 bt266.2.1 bt266.2.2.1 bt266.2.2.2 bt258.1 bt258.2.1 bt258.2.2.1 bt258.2.2.2.1).bind fun t272 => (if t272 = true then (if bt250.2.2.2.2 = bt258.2.2.2.2 then ((forebearlaw08_Commit.f k a0_0 y229 a0_2 a0_3).bind fun bt273 => ((forebearlaw08_Commit.f k a0_0 l0_1 a0_2 a0_3).bind fun bt279 => ((forebearref08_SameCommit.f k bt273.1 bt273.2.1 bt273.2.2.1 bt273.2.2.2 bt279.1 bt279.2.1 bt279.2.2.1 bt279.2.2.2).bind fun t285 => (some t285)))) else (some false)) else (some false)))) else (some false)) else (some false)))) else (none))))))) else (none))) = some r := by rw [if_pos rfl] at H; exact H
  clear H
  have H := H1
  clear H1
  obtain ⟨y226, hy226⟩ : ∃ y_ : List Int, y_ = (([] : List Int)) := ⟨_, rfl⟩
  replace H : (if y226.length + l0_1.length < 17592186044416 then ((some (y226 ++ l0_1 : List Int)).bind fun y229 => ((object_Commit.f k a0_0 y229 a0_2 a0_3).bind fun bt232 => ((forebearlaw08_Commit.f k a0_0 l0_1 a0_2 a0_3).bind fun bt236 => ((forebearref08_Write.f k bt236.1 bt236.2.1 bt236.2.2.1 bt236.2.2.2).bind fun bt242 => ((some (([] : List Int) : List Int)).bind fun y244 => (if y244.length + l1.length < 140737488355328 then ((object_ReadCommit.f k (y244 ++ l1)).bind fun bt250 => ((forebearref08_ReadCommit.f k (strOfNums l1)).bind fun bt258 => (if (strOfNums bt232.1).toList = bt242.1.toList then (if bt232.2 = bt242.2 then ((forebearlaw08_Commit.f k bt250.1 bt250.2.1 bt250.2.2.1 bt250.2.2.2.1).bind fun bt266 => ((forebearref08_SameCommit.f k bt266.1 bt266.2.1 bt266.2.2.1 bt266.2.2.2 bt258.1 bt258.2.1 bt258.2.2.1 bt258.2.2.2.1).bind fun t272 => (if t272 = true then (if bt250.2.2.2.2 = bt258.2.2.2.2 then ((forebearlaw08_Commit.f k a0_0 y229 a0_2 a0_3).bind fun bt273 => ((forebearlaw08_Commit.f k a0_0 l0_1 a0_2 a0_3).bind fun bt279 => ((forebearref08_SameCommit.f k bt273.1 bt273.2.1 bt273.2.2.1 bt273.2.2.2 bt279.1 bt279.2.1 bt279.2.2.1 bt279.2.2.2).bind fun t285 => (some t285)))) else (some false)) else (some false)))) else (some false)) else (some false)))) else (none))))))) else (none)) = some r := by first | (rw [hy226]; with_reducible exact H) | (have H2_ := (Option.bind_some _ _).symm.trans H; rw [hy226]; with_reducible exact H2_) | (have H2_ := (Option.bind_some _ _).symm.trans H; with_reducible exact H2_) | with_reducible exact H | (rw [hy226]; exact H) | exact H
  have Ny226 := Aside0.mk hy226
  clear hy226
  by_cases c5 : y226.length + l0_1.length < 17592186044416
  ·rw [if_pos c5] at H
   have LMc5 := Aside0.mk c5
   clear c5
   obtain ⟨y229, hy229⟩ : ∃ y_ : List Int, y_ = (y226 ++ l0_1) := ⟨_, rfl⟩
   replace H : ((object_Commit.f k a0_0 y229 a0_2 a0_3).bind fun bt232 => ((forebearlaw08_Commit.f k a0_0 l0_1 a0_2 a0_3).bind fun bt236 => ((forebearref08_Write.f k bt236.1 bt236.2.1 bt236.2.2.1 bt236.2.2.2).bind fun bt242 => ((some (([] : List Int) : List Int)).bind fun y244 => (if y244.length + l1.length < 140737488355328 then ((object_ReadCommit.f k (y244 ++ l1)).bind fun bt250 => ((forebearref08_ReadCommit.f k (strOfNums l1)).bind fun bt258 => (if (strOfNums bt232.1).toList = bt242.1.toList then (if bt232.2 = bt242.2 then ((forebearlaw08_Commit.f k bt250.1 bt250.2.1 bt250.2.2.1 bt250.2.2.2.1).bind fun bt266 => ((forebearref08_SameCommit.f k bt266.1 bt266.2.1 bt266.2.2.1 bt266.2.2.2 bt258.1 bt258.2.1 bt258.2.2.1 bt258.2.2.2.1).bind fun t272 => (if t272 = true then (if bt250.2.2.2.2 = bt258.2.2.2.2 then ((forebearlaw08_Commit.f k a0_0 y229 a0_2 a0_3).bind fun bt273 => ((forebearlaw08_Commit.f k a0_0 l0_1 a0_2 a0_3).bind fun bt279 => ((forebearref08_SameCommit.f k bt273.1 bt273.2.1 bt273.2.2.1 bt273.2.2.2 bt279.1 bt279.2.1 bt279.2.2.1 bt279.2.2.2).bind fun t285 => (some t285)))) else (some false)) else (some false)))) else (some false)) else (some false)))) else (none)))))) = some r := by first | (rw [hy229]; with_reducible exact H) | (have H2_ := (Option.bind_some _ _).symm.trans H; rw [hy229]; with_reducible exact H2_) | (have H2_ := (Option.bind_some _ _).symm.trans H; with_reducible exact H2_) | with_reducible exact H | (rw [hy229]; exact H) | exact H
   have Ny229 := Aside0.mk hy229
   clear hy229
   replace H := Option.bind_eq_some_iff.mp H
   obtain ⟨⟨t232, t235⟩, A60, H⟩ := H
   replace H : ((forebearlaw08_Commit.f k a0_0 l0_1 a0_2 a0_3).bind fun bt236 => ((forebearref08_Write.f k bt236.1 bt236.2.1 bt236.2.2.1 bt236.2.2.2).bind fun bt242 => ((some (([] : List Int) : List Int)).bind fun y244 => (if y244.length + l1.length < 140737488355328 then ((object_ReadCommit.f k (y244 ++ l1)).bind fun bt250 => ((forebearref08_ReadCommit.f k (strOfNums l1)).bind fun bt258 => (if (strOfNums t232).toList = bt242.1.toList then (if t235 = bt242.2 then ((forebearlaw08_Commit.f k bt250.1 bt250.2.1 bt250.2.2.1 bt250.2.2.2.1).bind fun bt266 => ((forebearref08_SameCommit.f k bt266.1 bt266.2.1 bt266.2.2.1 bt266.2.2.2 bt258.1 bt258.2.1 bt258.2.2.1 bt258.2.2.2.1).bind fun t272 => (if t272 = true then (if bt250.2.2.2.2 = bt258.2.2.2.2 then ((forebearlaw08_Commit.f k a0_0 y229 a0_2 a0_3).bind fun bt273 => ((forebearlaw08_Commit.f k a0_0 l0_1 a0_2 a0_3).bind fun bt279 => ((forebearref08_SameCommit.f k bt273.1 bt273.2.1 bt273.2.2.1 bt273.2.2.2 bt279.1 bt279.2.1 bt279.2.2.1 bt279.2.2.2).bind fun t285 => (some t285)))) else (some false)) else (some false)))) else (some false)) else (some false)))) else (none))))) = some r := H
   have A6 := Aside0.mk A60
   clear A60
   replace H := Option.bind_eq_some_iff.mp H
   obtain ⟨⟨t236, t237, t240, t241⟩, A70, H⟩ := H
   replace H : ((forebearref08_Write.f k t236 t237 t240 t241).bind fun bt242 => ((some (([] : List Int) : List Int)).bind fun y244 => (if y244.length + l1.length < 140737488355328 then ((object_ReadCommit.f k (y244 ++ l1)).bind fun bt250 => ((forebearref08_ReadCommit.f k (strOfNums l1)).bind fun bt258 => (if (strOfNums t232).toList = bt242.1.toList then (if t235 = bt242.2 then ((forebearlaw08_Commit.f k bt250.1 bt250.2.1 bt250.2.2.1 bt250.2.2.2.1).bind fun bt266 => ((forebearref08_SameCommit.f k bt266.1 bt266.2.1 bt266.2.2.1 bt266.2.2.2 bt258.1 bt258.2.1 bt258.2.2.1 bt258.2.2.2.1).bind fun t272 => (if t272 = true then (if bt250.2.2.2.2 = bt258.2.2.2.2 then ((forebearlaw08_Commit.f k a0_0 y229 a0_2 a0_3).bind fun bt273 => ((forebearlaw08_Commit.f k a0_0 l0_1 a0_2 a0_3).bind fun bt279 => ((forebearref08_SameCommit.f k bt273.1 bt273.2.1 bt273.2.2.1 bt273.2.2.2 bt279.1 bt279.2.1 bt279.2.2.1 bt279.2.2.2).bind fun t285 => (some t285)))) else (some false)) else (some false)))) else (some false)) else (some false)))) else (none)))) = some r := H
   have A7 := Aside0.mk A70
   clear A70
   replace H := Option.bind_eq_some_iff.mp H
   obtain ⟨⟨t242, t243⟩, A80, H⟩ := H
   replace H : ((some (([] : List Int) : List Int)).bind fun y244 => (if y244.length + l1.length < 140737488355328 then ((object_ReadCommit.f k (y244 ++ l1)).bind fun bt250 => ((forebearref08_ReadCommit.f k (strOfNums l1)).bind fun bt258 => (if (strOfNums t232).toList = t242.toList then (if t235 = t243 then ((forebearlaw08_Commit.f k bt250.1 bt250.2.1 bt250.2.2.1 bt250.2.2.2.1).bind fun bt266 => ((forebearref08_SameCommit.f k bt266.1 bt266.2.1 bt266.2.2.1 bt266.2.2.2 bt258.1 bt258.2.1 bt258.2.2.1 bt258.2.2.2.1).bind fun t272 => (if t272 = true then (if bt250.2.2.2.2 = bt258.2.2.2.2 then ((forebearlaw08_Commit.f k a0_0 y229 a0_2 a0_3).bind fun bt273 => ((forebearlaw08_Commit.f k a0_0 l0_1 a0_2 a0_3).bind fun bt279 => ((forebearref08_SameCommit.f k bt273.1 bt273.2.1 bt273.2.2.1 bt273.2.2.2 bt279.1 bt279.2.1 bt279.2.2.1 bt279.2.2.2).bind fun t285 => (some t285)))) else (some false)) else (some false)))) else (some false)) else (some false)))) else (none))) = some r := H
   have A8 := Aside0.mk A80
   clear A80
   obtain ⟨y244, hy244⟩ : ∃ y_ : List Int, y_ = (([] : List Int)) := ⟨_, rfl⟩
   replace H : (if y244.length + l1.length < 140737488355328 then ((object_ReadCommit.f k (y244 ++ l1)).bind fun bt250 => ((forebearref08_ReadCommit.f k (strOfNums l1)).bind fun bt258 => (if (strOfNums t232).toList = t242.toList then (if t235 = t243 then ((forebearlaw08_Commit.f k bt250.1 bt250.2.1 bt250.2.2.1 bt250.2.2.2.1).bind fun bt266 => ((forebearref08_SameCommit.f k bt266.1 bt266.2.1 bt266.2.2.1 bt266.2.2.2 bt258.1 bt258.2.1 bt258.2.2.1 bt258.2.2.2.1).bind fun t272 => (if t272 = true then (if bt250.2.2.2.2 = bt258.2.2.2.2 then ((forebearlaw08_Commit.f k a0_0 y229 a0_2 a0_3).bind fun bt273 => ((forebearlaw08_Commit.f k a0_0 l0_1 a0_2 a0_3).bind fun bt279 => ((forebearref08_SameCommit.f k bt273.1 bt273.2.1 bt273.2.2.1 bt273.2.2.2 bt279.1 bt279.2.1 bt279.2.2.1 bt279.2.2.2).bind fun t285 => (some t285)))) else (some false)) else (some false)))) else (some false)) else (some false)))) else (none)) = some r := by first | (rw [hy244]; with_reducible exact H) | (have H2_ := (Option.bind_some _ _).symm.trans H; rw [hy244]; with_reducible exact H2_) | (have H2_ := (Option.bind_some _ _).symm.trans H; with_reducible exact H2_) | with_reducible exact H | (rw [hy244]; exact H) | exact H
   have Ny244 := Aside0.mk hy244
   clear hy244
   by_cases c9 : y244.length + l1.length < 140737488355328
   ·rw [if_pos c9] at H
    have LMc9 := Aside0.mk c9
    clear c9
    obtain ⟨y247, hy247⟩ : ∃ y_ : List Int, y_ = (y244 ++ l1) := ⟨_, rfl⟩
    replace H : ((object_ReadCommit.f k y247).bind fun bt250 => ((forebearref08_ReadCommit.f k (strOfNums l1)).bind fun bt258 => (if (strOfNums t232).toList = t242.toList then (if t235 = t243 then ((forebearlaw08_Commit.f k bt250.1 bt250.2.1 bt250.2.2.1 bt250.2.2.2.1).bind fun bt266 => ((forebearref08_SameCommit.f k bt266.1 bt266.2.1 bt266.2.2.1 bt266.2.2.2 bt258.1 bt258.2.1 bt258.2.2.1 bt258.2.2.2.1).bind fun t272 => (if t272 = true then (if bt250.2.2.2.2 = bt258.2.2.2.2 then ((forebearlaw08_Commit.f k a0_0 y229 a0_2 a0_3).bind fun bt273 => ((forebearlaw08_Commit.f k a0_0 l0_1 a0_2 a0_3).bind fun bt279 => ((forebearref08_SameCommit.f k bt273.1 bt273.2.1 bt273.2.2.1 bt273.2.2.2 bt279.1 bt279.2.1 bt279.2.2.1 bt279.2.2.2).bind fun t285 => (some t285)))) else (some false)) else (some false)))) else (some false)) else (some false)))) = some r := by first | (rw [hy247]; with_reducible exact H) | (have H2_ := (Option.bind_some _ _).symm.trans H; rw [hy247]; with_reducible exact H2_) | (have H2_ := (Option.bind_some _ _).symm.trans H; with_reducible exact H2_) | with_reducible exact H | (rw [hy247]; exact H) | exact H
    have Ny247 := Aside0.mk hy247
    clear hy247
    replace H := Option.bind_eq_some_iff.mp H
    obtain ⟨⟨t250, t251, t254, t255, t256⟩, A100, H⟩ := H
    replace H : ((forebearref08_ReadCommit.f k (strOfNums l1)).bind fun bt258 => (if (strOfNums t232).toList = t242.toList then (if t235 = t243 then ((forebearlaw08_Commit.f k t250 t251 t254 t255).bind fun bt266 => ((forebearref08_SameCommit.f k bt266.1 bt266.2.1 bt266.2.2.1 bt266.2.2.2 bt258.1 bt258.2.1 bt258.2.2.1 bt258.2.2.2.1).bind fun t272 => (if t272 = true then (if t256 = bt258.2.2.2.2 then ((forebearlaw08_Commit.f k a0_0 y229 a0_2 a0_3).bind fun bt273 => ((forebearlaw08_Commit.f k a0_0 l0_1 a0_2 a0_3).bind fun bt279 => ((forebearref08_SameCommit.f k bt273.1 bt273.2.1 bt273.2.2.1 bt273.2.2.2 bt279.1 bt279.2.1 bt279.2.2.1 bt279.2.2.2).bind fun t285 => (some t285)))) else (some false)) else (some false)))) else (some false)) else (some false))) = some r := H
    have A10 := Aside0.mk A100
    clear A100
    replace H := Option.bind_eq_some_iff.mp H
    obtain ⟨⟨t258, t259, t262, t263, t264⟩, A110, H⟩ := H
    replace H : (if (strOfNums t232).toList = t242.toList then (if t235 = t243 then ((forebearlaw08_Commit.f k t250 t251 t254 t255).bind fun bt266 => ((forebearref08_SameCommit.f k bt266.1 bt266.2.1 bt266.2.2.1 bt266.2.2.2 t258 t259 t262 t263).bind fun t272 => (if t272 = true then (if t256 = t264 then ((forebearlaw08_Commit.f k a0_0 y229 a0_2 a0_3).bind fun bt273 => ((forebearlaw08_Commit.f k a0_0 l0_1 a0_2 a0_3).bind fun bt279 => ((forebearref08_SameCommit.f k bt273.1 bt273.2.1 bt273.2.2.1 bt273.2.2.2 bt279.1 bt279.2.1 bt279.2.2.1 bt279.2.2.2).bind fun t285 => (some t285)))) else (some false)) else (some false)))) else (some false)) else (some false)) = some r := H
    have A11 := Aside0.mk A110
    clear A110
    by_cases c12 : (strOfNums t232).toList = t242.toList
    ·rw [if_pos c12] at H
     have c12b0 : ((strOfNums t232).toList == t242.toList) = true := beq_iff_eq.mpr c12
     have c12b1 : ((strOfNums t232).toList != t242.toList) = false := bne_eq_false_iff_eq.mpr c12
     clear c12
     by_cases c13 : t235 = t243
     ·rw [if_pos c13] at H
      have c13b0 : (t235 == t243) = true := beq_iff_eq.mpr c13
      have c13b1 : (t235 != t243) = false := bne_eq_false_iff_eq.mpr c13
      clear c13
      replace H := Option.bind_eq_some_iff.mp H
      obtain ⟨⟨t266, t267, t270, t271⟩, A140, H⟩ := H
      replace H : ((forebearref08_SameCommit.f k t266 t267 t270 t271 t258 t259 t262 t263).bind fun t272 => (if t272 = true then (if t256 = t264 then ((forebearlaw08_Commit.f k a0_0 y229 a0_2 a0_3).bind fun bt273 => ((forebearlaw08_Commit.f k a0_0 l0_1 a0_2 a0_3).bind fun bt279 => ((forebearref08_SameCommit.f k bt273.1 bt273.2.1 bt273.2.2.1 bt273.2.2.2 bt279.1 bt279.2.1 bt279.2.2.1 bt279.2.2.2).bind fun t285 => (some t285)))) else (some false)) else (some false))) = some r := H
      have A14 := Aside0.mk A140
      clear A140
      replace H := Option.bind_eq_some_iff.mp H
      obtain ⟨t272, A150, H⟩ := H
      replace H : (if t272 = true then (if t256 = t264 then ((forebearlaw08_Commit.f k a0_0 y229 a0_2 a0_3).bind fun bt273 => ((forebearlaw08_Commit.f k a0_0 l0_1 a0_2 a0_3).bind fun bt279 => ((forebearref08_SameCommit.f k bt273.1 bt273.2.1 bt273.2.2.1 bt273.2.2.2 bt279.1 bt279.2.1 bt279.2.2.1 bt279.2.2.2).bind fun t285 => (some t285)))) else (some false)) else (some false)) = some r := H
      have A15 := Aside0.mk A150
      clear A150
      by_cases c16 : t272 = true
      ·subst c16
       have H1 : (if t256 = t264 then ((forebearlaw08_Commit.f k a0_0 y229 a0_2 a0_3).bind fun bt273 => ((forebearlaw08_Commit.f k a0_0 l0_1 a0_2 a0_3).bind fun bt279 => ((forebearref08_SameCommit.f k bt273.1 bt273.2.1 bt273.2.2.1 bt273.2.2.2 bt279.1 bt279.2.1 bt279.2.2.1 bt279.2.2.2).bind fun t285 => (some t285)))) else (some false)) = some r := by rw [if_pos rfl] at H; exact H
       clear H
       have H := H1
       clear H1
       by_cases c17 : t256 = t264
       ·rw [if_pos c17] at H
        have c17b0 : (t256 == t264) = true := beq_iff_eq.mpr c17
        have c17b1 : (t256 != t264) = false := bne_eq_false_iff_eq.mpr c17
        clear c17
        replace H := Option.bind_eq_some_iff.mp H
        obtain ⟨⟨t273, t274, t277, t278⟩, A180, H⟩ := H
        replace H : ((forebearlaw08_Commit.f k a0_0 l0_1 a0_2 a0_3).bind fun bt279 => ((forebearref08_SameCommit.f k t273 t274 t277 t278 bt279.1 bt279.2.1 bt279.2.2.1 bt279.2.2.2).bind fun t285 => (some t285))) = some r := H
        have A18 := Aside0.mk A180
        clear A180
        replace H := Option.bind_eq_some_iff.mp H
        obtain ⟨⟨t279, t280, t283, t284⟩, A190, H⟩ := H
        replace H : ((forebearref08_SameCommit.f k t273 t274 t277 t278 t279 t280 t283 t284).bind fun t285 => (some t285)) = some r := H
        have A19 := Aside0.mk A190
        clear A190
        replace H := Option.bind_eq_some_iff.mp H
        obtain ⟨t285, A200, H⟩ := H
        replace H : (some t285) = some r := H
        have A20 := Aside0.mk A200
        clear A200
        obtain rfl := Option.some.inj H
        go_enter Try.func10, Try.ntmps10
        try go_wp2_with (first | ((with_reducible refine gate_dst (N := 2) rfl ?_); refine box_event ?hg (N := 2) ?hd (cs := #[.int .u64 a0_0, .slice A0_1 l0_1.length c0_1, .int .i64 a0_2, .string a0_3]) (t := 77) ?hr ?_; (case hd => rfl); (case hg => rfl); (case hr => first | (go_simp; done) | (go_simp; rfl)); intro gb223 hg w21 hbox hb; have n0_ := Aside0.mk (below_step (by repeat (first | (with_reducible first | exact HB.out | apply below_alloc | apply pw_below_drewN | apply below_drew1) | exact HB.out)) hb); have n1_ := Aside0.mk (hbox); have n2_ := Aside0.mk ((by rw [hg]; exact (below_size (by repeat (first | (with_reducible first | exact HB.out | apply below_alloc | apply pw_below_drewN | apply below_drew1) | exact HB.out))) : w.heap.size ≤ gb223)); have n3_ := Aside0.mk ((by rw [hg]; exact (below_size (by repeat (first | (with_reducible first | exact HB.out | apply below_alloc | apply pw_below_drewN | apply below_drew1) | exact HB.out))) : w.heap.size ≤ gb223)); clear HB; have HB := n0_; have BK223 := n1_; have GW223 := n2_; have GE223 := n3_; clear n0_ n1_ n2_ n3_; clear hb hbox hg) | ((with_reducible refine gate_callee (f := 21) rfl ?_); refine goesL_ (some 14) rfl rfl Try.func21 (by kernel_rfl) rfl #[] rfl (by (try simp only [List.map_toArray, List.map_cons, List.map_nil]); first | done | rfl | (simp only [List.length_drop, List.length_take]; rfl)) ?_; (with_reducible refine (forebearlaw08_awake.calls k  true _ A3.out).mono ?_); rintro e w22 ⟨rfl, hb⟩; refine ⟨_, rfl, ?_⟩; have n0_ := Aside0.mk (blk_below (g := gb223) (o := .cells #[.int .u64 a0_0, .slice A0_1 l0_1.length c0_1, .int .i64 a0_2, .string a0_3] 77 (0, 0)) (by (with_reducible repeat (first | refine blk_drewN ?_ _ | refine blk_drew ?_ | refine blk_alloc ?_ _)); exact BK223.out) hb); have n1_ := Aside0.mk (below_step (by repeat (first | (with_reducible first | exact HB.out | apply below_alloc | apply pw_below_drewN | apply below_drew1 | refine below_set ?_ GE223.out) | exact HB.out)) hb); clear BK223; clear HB; have BK223 := n0_; have HB := n1_; clear n0_ n1_; (try clear hb); (try clear hb2); (try clear hk); (try clear hi); have hcz23_0 : w22.cell? ⟨gb223, 0, none⟩ = some (.int .u64 a0_0) := (blk_cell BK223.out 0).trans rfl; have hcz23_1 : w22.cell? ⟨gb223, 1, none⟩ = some (.slice A0_1 l0_1.length c0_1) := (blk_cell BK223.out 1).trans rfl; have hcz23_2 : w22.cell? ⟨gb223, 2, none⟩ = some (.int .i64 a0_2) := (blk_cell BK223.out 2).trans rfl; have hcz23_3 : w22.cell? ⟨gb223, 3, none⟩ = some (.string a0_3) := (blk_cell BK223.out 3).trans rfl; have hfz23_0 := blk_frozen BK223.out 0; have hfz23_1 := blk_frozen BK223.out 1; have hfz23_2 := blk_frozen BK223.out 2; have hfz23_3 := blk_frozen BK223.out 3) | ((with_reducible refine gate_dst (N := 5) rfl ?_); refine box_event ?hg (N := 5) ?hd (cs := #[.int .u64 0, .slice none 0 0, .int .i64 0, .string (⟨#[]⟩ : ByteArray)]) (t := 77) ?hr ?_; (case hd => rfl); (case hg => rfl); (case hr => first | (go_simp; done) | (go_simp; rfl)); intro gb225 hg w24 hbox hb; have n0_ := Aside0.mk (blk_below (g := gb223) (o := .cells #[.int .u64 a0_0, .slice A0_1 l0_1.length c0_1, .int .i64 a0_2, .string a0_3] 77 (0, 0)) (by (with_reducible repeat (first | refine blk_drewN ?_ _ | refine blk_drew ?_ | refine blk_alloc ?_ _)); exact BK223.out) hb); have n1_ := Aside0.mk (below_step (by repeat (first | (with_reducible first | exact HB.out | apply below_alloc | apply pw_below_drewN | apply below_drew1 | refine below_set ?_ GE223.out) | exact HB.out)) hb); have n2_ := Aside0.mk (hbox); have n3_ := Aside0.mk ((by rw [hg]; exact (below_size (by repeat (first | (with_reducible first | exact HB.out | apply below_alloc | apply pw_below_drewN | apply below_drew1 | refine below_set ?_ GE223.out) | exact HB.out))) : w.heap.size ≤ gb225)); have n4_ := Aside0.mk ((by rw [hg]; exact (below_size (by repeat (first | (with_reducible first | exact HB.out | apply below_alloc | apply pw_below_drewN | apply below_drew1 | refine below_set ?_ GE223.out) | exact HB.out))) : w.heap.size ≤ gb225)); have n5_ := Aside0.mk ((by rw [hg]; exact Nat.ne_of_lt (blk_lt (g := gb223) (o := .cells #[.int .u64 a0_0, .slice A0_1 l0_1.length c0_1, .int .i64 a0_2, .string a0_3] 77 (0, 0)) (by (with_reducible repeat (first | refine blk_drewN ?_ _ | refine blk_drew ?_ | refine blk_alloc ?_ _)); exact BK223.out)) : gb223 ≠ gb225)); have n6_ := Aside0.mk ((by rw [hg]; exact Nat.ne_of_gt (blk_lt (g := gb223) (o := .cells #[.int .u64 a0_0, .slice A0_1 l0_1.length c0_1, .int .i64 a0_2, .string a0_3] 77 (0, 0)) (by (with_reducible repeat (first | refine blk_drewN ?_ _ | refine blk_drew ?_ | refine blk_alloc ?_ _)); exact BK223.out)) : gb225 ≠ gb223)); clear BK223; clear HB; have BK223 := n0_; have HB := n1_; have BK225 := n2_; have GW225 := n3_; have GE225 := n4_; have NB223_225 := n5_; have NB225_223 := n6_; clear n0_ n1_ n2_ n3_ n4_ n5_ n6_; clear hb hbox hg; have hnb25 := NB225_223.out; have hnc25 := NB223_225.out; have hcz26_0 : w24.cell? ⟨gb225, 0, none⟩ = some (.int .u64 0) := (blk_cell BK225.out 0).trans rfl; have hcz26_1 : w24.cell? ⟨gb225, 1, none⟩ = some (.slice none 0 0) := (blk_cell BK225.out 1).trans rfl; have hcz26_2 : w24.cell? ⟨gb225, 2, none⟩ = some (.int .i64 0) := (blk_cell BK225.out 2).trans rfl; have hcz26_3 : w24.cell? ⟨gb225, 3, none⟩ = some (.string (⟨#[]⟩ : ByteArray)) := (blk_cell BK225.out 3).trans rfl; have hfz26_0 := blk_frozen BK225.out 0; have hfz26_1 := blk_frozen BK225.out 1; have hfz26_2 := blk_frozen BK225.out 2; have hfz26_3 := blk_frozen BK225.out 3) | ((with_reducible refine gate_dst (N := 17) rfl ?_); refine Kd.R_lit (Kd.int .u64) _ 65 ?hg (N := 17) ?hd (xs := ([] : List Int)) (inner := []) (ok := fun _ => True) (okp := fun _ => True) ?hr ?hp (fun _ hk => hk) trivial (Below.refl _ _) (Nat.le_refl _) (by simp) ?_; (case hd => rfl); (case hg => rfl); (case hr => first | (go_simp; done) | (go_simp; rfl)); (case hp => exact (Reps.none _ _)); intro v227 w27 ho28 hb hg_ hnew_; clear hg_ hnew_; (first | rw [← Ny226.out] at ho28 | (simp only [Int.reduceToNat] at ho28; rw [← Ny226.out] at ho28)); have n0_ := Aside0.mk (Kd.R_lower ho28 (below_size (by repeat (first | (with_reducible first | exact HB.out | apply below_alloc | apply pw_below_drewN | apply below_drew1 | refine below_set ?_ GE223.out | refine below_set ?_ GE225.out) | exact HB.out)))); have n1_ := Aside0.mk (blk_below (g := gb223) (o := .cells #[.int .u64 a0_0, .slice A0_1 l0_1.length c0_1, .int .i64 a0_2, .string a0_3] 77 (0, 0)) (by (with_reducible repeat (first | refine blk_drewN ?_ _ | refine blk_drew ?_ | refine blk_alloc ?_ _)); refine blk_far ?_ NB223_225.out _; (with_reducible repeat (first | refine blk_drewN ?_ _ | refine blk_drew ?_ | refine blk_alloc ?_ _)); refine blk_far ?_ NB223_225.out _; (with_reducible repeat (first | refine blk_drewN ?_ _ | refine blk_drew ?_ | refine blk_alloc ?_ _)); refine blk_far ?_ NB223_225.out _; (with_reducible repeat (first | refine blk_drewN ?_ _ | refine blk_drew ?_ | refine blk_alloc ?_ _)); refine blk_far ?_ NB223_225.out _; (with_reducible repeat (first | refine blk_drewN ?_ _ | refine blk_drew ?_ | refine blk_alloc ?_ _)); exact BK223.out) hb); have n2_ := Aside0.mk (blk_below (g := gb225) (o := .cells #[.int .u64 a0_0, .slice A0_1 l0_1.length c0_1, .int .i64 a0_2, .string a0_3] 77 (0, 0)) (by (with_reducible repeat (first | refine blk_drewN ?_ _ | refine blk_drew ?_ | refine blk_alloc ?_ _)); refine blk_put (cs := #[.int .u64 a0_0, .slice A0_1 l0_1.length c0_1, .int .i64 a0_2, .string (⟨#[]⟩ : ByteArray)]) ?_ 3 _ rfl; (with_reducible repeat (first | refine blk_drewN ?_ _ | refine blk_drew ?_ | refine blk_alloc ?_ _)); refine blk_put (cs := #[.int .u64 a0_0, .slice A0_1 l0_1.length c0_1, .int .i64 0, .string (⟨#[]⟩ : ByteArray)]) ?_ 2 _ rfl; (with_reducible repeat (first | refine blk_drewN ?_ _ | refine blk_drew ?_ | refine blk_alloc ?_ _)); refine blk_put (cs := #[.int .u64 a0_0, .slice none 0 0, .int .i64 0, .string (⟨#[]⟩ : ByteArray)]) ?_ 1 _ rfl; (with_reducible repeat (first | refine blk_drewN ?_ _ | refine blk_drew ?_ | refine blk_alloc ?_ _)); refine blk_put (cs := #[.int .u64 0, .slice none 0 0, .int .i64 0, .string (⟨#[]⟩ : ByteArray)]) ?_ 0 _ rfl; (with_reducible repeat (first | refine blk_drewN ?_ _ | refine blk_drew ?_ | refine blk_alloc ?_ _)); exact BK225.out) hb); have n3_ := Aside0.mk (below_step (by repeat (first | (with_reducible first | exact HB.out | apply below_alloc | apply pw_below_drewN | apply below_drew1 | refine below_set ?_ GE223.out | refine below_set ?_ GE225.out) | exact HB.out)) hb); clear BK223; clear BK225; clear HB; have HO228 := n0_; have BK223 := n1_; have BK225 := n2_; have HB := n3_; clear n0_ n1_ n2_ n3_; clear hb ho28; have hcz29_0 : w27.cell? ⟨gb223, 0, none⟩ = some (.int .u64 a0_0) := (blk_cell BK223.out 0).trans rfl; have hcz29_1 : w27.cell? ⟨gb223, 1, none⟩ = some (.slice A0_1 l0_1.length c0_1) := (blk_cell BK223.out 1).trans rfl; have hcz29_2 : w27.cell? ⟨gb223, 2, none⟩ = some (.int .i64 a0_2) := (blk_cell BK223.out 2).trans rfl; have hcz29_3 : w27.cell? ⟨gb223, 3, none⟩ = some (.string a0_3) := (blk_cell BK223.out 3).trans rfl; have hfz29_0 := blk_frozen BK223.out 0; have hfz29_1 := blk_frozen BK223.out 1; have hfz29_2 := blk_frozen BK223.out 2; have hfz29_3 := blk_frozen BK223.out 3) | ((with_reducible refine gate_builtin (b := .append) (xs := #[.tmp 17, .tmp 19]) rfl ?_); at_builtin; refine Kd.R_append_rows (Kd.int .u64) (w0 := w) w.heap.size rfl (.tmp 17) (.tmp 19) 75 65 (.int .u64 0) 8 rfl Try.underlying75 info65 rfl (by decide) (by omega) v227 y226 l0_1 _ _ _ (fun _ => True) (fun _ => False) rfl rfl ?aO ?aR (fun _ _ h => h) (fun _ h => h.elim) ?aF ?aB ?aS ?aL ?_; (case aR => repeat (first | exact (Kd.C_below HR0_1.out HB.out) | (with_reducible refine Kd.C_alloc ?_ _) | (with_reducible refine Kd.C_drewN ?_ _) | (with_reducible refine Kd.C_drew ?_))); (case aB => exact (by repeat (first | (with_reducible first | exact HB.out | apply below_alloc | apply pw_below_drewN | apply below_drew1 | refine below_set ?_ GE223.out | refine below_set ?_ GE225.out) | exact HB.out))); (case aF => exact (fun _ _ => trivial)); (case aO => exact (by (with_reducible repeat (first | apply Kd.R_alloc | apply Kd.R_drewN | apply Kd.R_drew)); exact HO228.out)); (case aS => exact (below_size (by repeat (first | (with_reducible first | exact HB.out | apply below_alloc | apply pw_below_drewN | apply below_drew1 | refine below_set ?_ GE223.out | refine below_set ?_ GE225.out) | exact HB.out)))); (case aL => have := LMc5.out; omega); intro v230 w30 ho hb hg hat; rw [← Ny229.out] at ho; have n0_ := Aside0.mk (blk_grown (g := gb223) (o := .cells #[.int .u64 a0_0, .slice A0_1 l0_1.length c0_1, .int .i64 a0_2, .string a0_3] 77 (0, 0)) (by (with_reducible repeat (first | refine blk_drewN ?_ _ | refine blk_drew ?_ | refine blk_alloc ?_ _)); exact BK223.out) hg (Kd.R_ne HO228.out BK223.out (by decide))); have n1_ := Aside0.mk (blk_grown (g := gb225) (o := .cells #[.int .u64 a0_0, .slice A0_1 l0_1.length c0_1, .int .i64 a0_2, .string a0_3] 77 (0, 0)) (by (with_reducible repeat (first | refine blk_drewN ?_ _ | refine blk_drew ?_ | refine blk_alloc ?_ _)); exact BK225.out) hg (Kd.R_ne HO228.out BK225.out (by decide))); have n2_ := Aside0.mk (hb); have n3_ := Aside0.mk (ho); clear BK223; clear BK225; clear HB; clear HO228; have BK223 := n0_; have BK225 := n1_; have HB := n2_; have HO231 := n3_; clear n0_ n1_ n2_ n3_; clear ho hb hg hat; obtain ⟨Ao31, co31, eo31⟩ := Kd.R_slice HO231.out; subst eo31; have hcz32_0 : w30.cell? ⟨gb225, 0, none⟩ = some (.int .u64 a0_0) := (blk_cell BK225.out 0).trans rfl; have hcz32_1 : w30.cell? ⟨gb225, 1, none⟩ = some (.slice A0_1 l0_1.length c0_1) := (blk_cell BK225.out 1).trans rfl; have hcz32_2 : w30.cell? ⟨gb225, 2, none⟩ = some (.int .i64 a0_2) := (blk_cell BK225.out 2).trans rfl; have hcz32_3 : w30.cell? ⟨gb225, 3, none⟩ = some (.string a0_3) := (blk_cell BK225.out 3).trans rfl; have hfz32_0 := blk_frozen BK225.out 0; have hfz32_1 := blk_frozen BK225.out 1; have hfz32_2 := blk_frozen BK225.out 2; have hfz32_3 := blk_frozen BK225.out 3) | ((with_reducible refine gate_callee (f := 30) rfl ?_); refine goesL_ (some 24) rfl rfl Try.func30 (by kernel_rfl) rfl #[.agg #[.int .u64 a0_0, .slice Ao31 y229.length co31, .int .i64 a0_2, .string a0_3]] rfl (by (try simp only [List.map_toArray, List.map_cons, List.map_nil]); first | done | rfl | (simp only [List.length_drop, List.length_take]; rfl)) ?_; (with_reducible refine (object_Commit.calls k a0_0 _ _ y229 a0_2 a0_3 t232 t235 _ ?side1 ?side2 A6.out).mono ?_); (case side1 => refine (Kd.R_reads' (e := 65) (base := w.heap.size) (ok := fun k_ => True) (n := y229.length) (c := co31) ?_).2.2; exact (by (with_reducible repeat (first | apply Kd.R_alloc | apply Kd.R_drewN | apply Kd.R_drew)); exact (Kd.R_mono (Kd.R_far (p := ⟨gb225, 1, none⟩) (Kd.R_types HO231.out BK225.out (by decide)) (fun _ hk => hk.2) (.slice Ao31 y229.length co31)) (fun _ h_ => h_.1)))); (case side2 => exact (Kd.R_reads' HO231.out).2.1); rintro e w33 ⟨v233, rfl, ho0, hb⟩; refine ⟨_, rfl, ?_⟩; have n0_ := Aside0.mk (Kd.R_below (by (with_reducible repeat (first | apply Kd.R_alloc | apply Kd.R_drewN | apply Kd.R_drew)); exact (Kd.R_mono (Kd.R_far (p := ⟨gb225, 1, none⟩) (Kd.R_types HO231.out BK225.out (by decide)) (fun _ hk => hk.2) (.slice Ao31 y229.length co31)) (fun _ h_ => h_.1))) hb); have n1_ := Aside0.mk (Kd.R_lower ho0 (below_size (by repeat (first | (with_reducible first | exact HB.out | apply below_alloc | apply pw_below_drewN | apply below_drew1 | refine below_set ?_ GE223.out | refine below_set ?_ GE225.out) | exact HB.out)))); have n2_ := Aside0.mk (blk_below (g := gb223) (o := .cells #[.int .u64 a0_0, .slice A0_1 l0_1.length c0_1, .int .i64 a0_2, .string a0_3] 77 (0, 0)) (by (with_reducible repeat (first | refine blk_drewN ?_ _ | refine blk_drew ?_ | refine blk_alloc ?_ _)); refine blk_far ?_ NB223_225.out _; (with_reducible repeat (first | refine blk_drewN ?_ _ | refine blk_drew ?_ | refine blk_alloc ?_ _)); exact BK223.out) hb); have n3_ := Aside0.mk (blk_below (g := gb225) (o := .cells #[.int .u64 a0_0, .slice Ao31 y229.length co31, .int .i64 a0_2, .string a0_3] 77 (0, 0)) (by (with_reducible repeat (first | refine blk_drewN ?_ _ | refine blk_drew ?_ | refine blk_alloc ?_ _)); refine blk_put (cs := #[.int .u64 a0_0, .slice A0_1 l0_1.length c0_1, .int .i64 a0_2, .string a0_3]) ?_ 1 _ rfl; (with_reducible repeat (first | refine blk_drewN ?_ _ | refine blk_drew ?_ | refine blk_alloc ?_ _)); exact BK225.out) hb); have n4_ := Aside0.mk (below_step (by repeat (first | (with_reducible first | exact HB.out | apply below_alloc | apply pw_below_drewN | apply below_drew1 | refine below_set ?_ GE223.out | refine below_set ?_ GE225.out) | exact HB.out)) hb); clear HO231; clear BK223; clear BK225; clear HB; have HO231 := n0_; have HO234 := n1_; have BK223 := n2_; have BK225 := n3_; have HB := n4_; clear n0_ n1_ n2_ n3_ n4_; (try clear hb); (try clear hb2); (try clear hk); (try clear hi); (try clear ho0); have hcz34_0 : w33.cell? ⟨gb223, 0, none⟩ = some (.int .u64 a0_0) := (blk_cell BK223.out 0).trans rfl; have hcz34_1 : w33.cell? ⟨gb223, 1, none⟩ = some (.slice A0_1 l0_1.length c0_1) := (blk_cell BK223.out 1).trans rfl; have hcz34_2 : w33.cell? ⟨gb223, 2, none⟩ = some (.int .i64 a0_2) := (blk_cell BK223.out 2).trans rfl; have hcz34_3 : w33.cell? ⟨gb223, 3, none⟩ = some (.string a0_3) := (blk_cell BK223.out 3).trans rfl; have hfz34_0 := blk_frozen BK223.out 0; have hfz34_1 := blk_frozen BK223.out 1; have hfz34_2 := blk_frozen BK223.out 2; have hfz34_3 := blk_frozen BK223.out 3) | ((with_reducible refine gate_callee (f := 32) rfl ?_); refine goesL_ (some 29) rfl rfl Try.func32 (by kernel_rfl) rfl #[.agg #[.int .u64 a0_0, .slice A0_1 l0_1.length c0_1, .int .i64 a0_2, .string a0_3]] rfl (by (try simp only [List.map_toArray, List.map_cons, List.map_nil]); first | done | rfl | (simp only [List.length_drop, List.length_take]; rfl)) ?_; (with_reducible refine (forebearlaw08_Commit.calls k a0_0 _ _ l0_1 a0_2 a0_3 t236 t237 t240 t241 _ ?side1 ?side2 A7.out).mono ?_); (case side1 => repeat (first | exact (Kd.C_below HR0_1.out HB.out) | (with_reducible refine Kd.C_alloc ?_ _) | (with_reducible refine Kd.C_drewN ?_ _) | (with_reducible refine Kd.C_drew ?_))); (case side2 => exact HC0_1.out); rintro e w35 ⟨v238, rfl, ho0, hb⟩; refine ⟨_, rfl, ?_⟩; have n0_ := Aside0.mk (Kd.R_below (by (with_reducible repeat (first | apply Kd.R_alloc | apply Kd.R_drewN | apply Kd.R_drew)); exact HO231.out) hb); have n1_ := Aside0.mk (Kd.R_below (by (with_reducible repeat (first | apply Kd.R_alloc | apply Kd.R_drewN | apply Kd.R_drew)); exact HO234.out) hb); have n2_ := Aside0.mk (Kd.R_lower ho0 (below_size (by repeat (first | (with_reducible first | exact HB.out | apply below_alloc | apply pw_below_drewN | apply below_drew1 | refine below_set ?_ GE223.out | refine below_set ?_ GE225.out) | exact HB.out)))); have n3_ := Aside0.mk (blk_below (g := gb223) (o := .cells #[.int .u64 a0_0, .slice A0_1 l0_1.length c0_1, .int .i64 a0_2, .string a0_3] 77 (0, 0)) (by (with_reducible repeat (first | refine blk_drewN ?_ _ | refine blk_drew ?_ | refine blk_alloc ?_ _)); exact BK223.out) hb); have n4_ := Aside0.mk (blk_below (g := gb225) (o := .cells #[.int .u64 a0_0, .slice Ao31 y229.length co31, .int .i64 a0_2, .string a0_3] 77 (0, 0)) (by (with_reducible repeat (first | refine blk_drewN ?_ _ | refine blk_drew ?_ | refine blk_alloc ?_ _)); exact BK225.out) hb); have n5_ := Aside0.mk (below_step (by repeat (first | (with_reducible first | exact HB.out | apply below_alloc | apply pw_below_drewN | apply below_drew1 | refine below_set ?_ GE223.out | refine below_set ?_ GE225.out) | exact HB.out)) hb); clear HO231; clear HO234; clear BK223; clear BK225; clear HB; have HO231 := n0_; have HO234 := n1_; have HO239 := n2_; have BK223 := n3_; have BK225 := n4_; have HB := n5_; clear n0_ n1_ n2_ n3_ n4_ n5_; (try clear hb); (try clear hb2); (try clear hk); (try clear hi); (try clear ho0); obtain ⟨Ao36, co36, eo36⟩ := Kd.R_slice HO239.out; subst eo36) | ((with_reducible refine gate_callee (f := 31) rfl ?_); refine goesL_ (some 30) rfl rfl Try.func31 (by kernel_rfl) rfl #[.agg #[.int .u64 t236, .slice Ao36 t237.length co36, .int .i64 t240, .string t241]] rfl (by (try simp only [List.map_toArray, List.map_cons, List.map_nil]); first | done | rfl | (simp only [List.length_drop, List.length_take]; rfl)) ?_; (with_reducible refine (forebearref08_Write.calls k t236 _ _ t237 t240 t241 t242 t243 _ ?side1 ?side2 A8.out).mono ?_); (case side1 => repeat (first | exact (Kd.R_reads' HO239.out).2.2 | (with_reducible refine Kd.C_alloc ?_ _) | (with_reducible refine Kd.C_drewN ?_ _) | (with_reducible refine Kd.C_drew ?_))); (case side2 => exact (Kd.R_reads' HO239.out).2.1); rintro e w37 ⟨rfl, hb⟩; refine ⟨_, rfl, ?_⟩; have n0_ := Aside0.mk (Kd.R_below (by (with_reducible repeat (first | apply Kd.R_alloc | apply Kd.R_drewN | apply Kd.R_drew)); exact HO231.out) hb); have n1_ := Aside0.mk (Kd.R_below (by (with_reducible repeat (first | apply Kd.R_alloc | apply Kd.R_drewN | apply Kd.R_drew)); exact HO234.out) hb); have n2_ := Aside0.mk (Kd.R_below (by (with_reducible repeat (first | apply Kd.R_alloc | apply Kd.R_drewN | apply Kd.R_drew)); exact HO239.out) hb); have n3_ := Aside0.mk (blk_below (g := gb223) (o := .cells #[.int .u64 a0_0, .slice A0_1 l0_1.length c0_1, .int .i64 a0_2, .string a0_3] 77 (0, 0)) (by (with_reducible repeat (first | refine blk_drewN ?_ _ | refine blk_drew ?_ | refine blk_alloc ?_ _)); exact BK223.out) hb); have n4_ := Aside0.mk (blk_below (g := gb225) (o := .cells #[.int .u64 a0_0, .slice Ao31 y229.length co31, .int .i64 a0_2, .string a0_3] 77 (0, 0)) (by (with_reducible repeat (first | refine blk_drewN ?_ _ | refine blk_drew ?_ | refine blk_alloc ?_ _)); exact BK225.out) hb); have n5_ := Aside0.mk (below_step (by repeat (first | (with_reducible first | exact HB.out | apply below_alloc | apply pw_below_drewN | apply below_drew1 | refine below_set ?_ GE223.out | refine below_set ?_ GE225.out) | exact HB.out)) hb); clear HO231; clear HO234; clear HO239; clear BK223; clear BK225; clear HB; have HO231 := n0_; have HO234 := n1_; have HO239 := n2_; have BK223 := n3_; have BK225 := n4_; have HB := n5_; clear n0_ n1_ n2_ n3_ n4_ n5_; (try clear hb); (try clear hb2); (try clear hk); (try clear hi)) | ((with_reducible refine gate_dst (N := 34) rfl ?_); refine Kd.R_lit (Kd.int .u8) _ 5 ?hg (N := 34) ?hd (xs := ([] : List Int)) (inner := []) (ok := fun _ => True) (okp := fun _ => True) ?hr ?hp (fun _ hk => hk) trivial (Below.refl _ _) (Nat.le_refl _) (by simp) ?_; (case hd => rfl); (case hg => rfl); (case hr => first | (go_simp; done) | (go_simp; rfl)); (case hp => exact (Reps.none _ _)); intro v245 w38 ho39 hb hg_ hnew_; clear hg_ hnew_; (first | rw [← Ny244.out] at ho39 | (simp only [Int.reduceToNat] at ho39; rw [← Ny244.out] at ho39)); have n0_ := Aside0.mk (Kd.R_below (by (with_reducible repeat (first | apply Kd.R_alloc | apply Kd.R_drewN | apply Kd.R_drew)); exact HO231.out) hb); have n1_ := Aside0.mk (Kd.R_elder' (by (with_reducible repeat (first | apply Kd.R_alloc | apply Kd.R_drewN | apply Kd.R_drew)); exact HO234.out) (Kd.R_base ho39) hb); have n2_ := Aside0.mk (Kd.R_below (by (with_reducible repeat (first | apply Kd.R_alloc | apply Kd.R_drewN | apply Kd.R_drew)); exact HO239.out) hb); have n3_ := Aside0.mk (Kd.R_lower (Kd.R_new' ho39 (Kd.R_lt (by (with_reducible repeat (first | apply Kd.R_alloc | apply Kd.R_drewN | apply Kd.R_drew)); exact HO234.out))) (below_size (by repeat (first | (with_reducible first | exact HB.out | apply below_alloc | apply pw_below_drewN | apply below_drew1 | refine below_set ?_ GE223.out | refine below_set ?_ GE225.out) | exact HB.out)))); have n4_ := Aside0.mk (blk_below (g := gb223) (o := .cells #[.int .u64 a0_0, .slice A0_1 l0_1.length c0_1, .int .i64 a0_2, .string a0_3] 77 (0, 0)) (by (with_reducible repeat (first | refine blk_drewN ?_ _ | refine blk_drew ?_ | refine blk_alloc ?_ _)); exact BK223.out) hb); have n5_ := Aside0.mk (blk_below (g := gb225) (o := .cells #[.int .u64 a0_0, .slice Ao31 y229.length co31, .int .i64 a0_2, .string a0_3] 77 (0, 0)) (by (with_reducible repeat (first | refine blk_drewN ?_ _ | refine blk_drew ?_ | refine blk_alloc ?_ _)); exact BK225.out) hb); have n6_ := Aside0.mk (below_step (by repeat (first | (with_reducible first | exact HB.out | apply below_alloc | apply pw_below_drewN | apply below_drew1 | refine below_set ?_ GE223.out | refine below_set ?_ GE225.out) | exact HB.out)) hb); clear HO231; clear HO234; clear HO239; clear BK223; clear BK225; clear HB; have HO231 := n0_; have HO234 := n1_; have HO239 := n2_; have HO246 := n3_; have BK223 := n4_; have BK225 := n5_; have HB := n6_; clear n0_ n1_ n2_ n3_ n4_ n5_ n6_; clear hb ho39) | ((with_reducible refine gate_builtin (b := .append) (xs := #[.tmp 34, .tmp 35]) rfl ?_); at_builtin; refine Kd.R_append_rows (Kd.int .u8) (w0 := w) w.heap.size rfl (.tmp 34) (.tmp 35) 53 5 (.int .u8 0) 1 rfl Try.underlying53 info5 rfl (by decide) (by omega) v245 y244 l1 _ _ _ (fun k_ => some k_ ≠ (v233 : Value).ownBlock) (fun _ => False) rfl rfl ?aO ?aR (fun _ _ h => h) (fun _ h => h.elim) ?aF ?aB ?aS ?aL ?_; (case aR => repeat (first | exact (Kd.C_below HR1.out HB.out) | (with_reducible refine Kd.C_alloc ?_ _) | (with_reducible refine Kd.C_drewN ?_ _) | (with_reducible refine Kd.C_drew ?_))); (case aB => exact (by repeat (first | (with_reducible first | exact HB.out | apply below_alloc | apply pw_below_drewN | apply below_drew1 | refine below_set ?_ GE223.out | refine below_set ?_ GE225.out) | exact HB.out))); (case aF => exact (fun k_ hk => Kd.fresh' (Kd.R_lt (by (with_reducible repeat (first | apply Kd.R_alloc | apply Kd.R_drewN | apply Kd.R_drew)); exact HO234.out)) k_ hk)); (case aO => exact (by (with_reducible repeat (first | apply Kd.R_alloc | apply Kd.R_drewN | apply Kd.R_drew)); exact Kd.R_mono HO246.out (fun _ hk => hk.2))); (case aS => exact (below_size (by repeat (first | (with_reducible first | exact HB.out | apply below_alloc | apply pw_below_drewN | apply below_drew1 | refine below_set ?_ GE223.out | refine below_set ?_ GE225.out) | exact HB.out)))); (case aL => have := LMc9.out; omega); intro v248 w40 ho hb hg hat; rw [← Ny247.out] at ho; have n0_ := Aside0.mk (blk_grown (g := gb223) (o := .cells #[.int .u64 a0_0, .slice A0_1 l0_1.length c0_1, .int .i64 a0_2, .string a0_3] 77 (0, 0)) (by (with_reducible repeat (first | refine blk_drewN ?_ _ | refine blk_drew ?_ | refine blk_alloc ?_ _)); exact BK223.out) hg (Kd.R_ne HO246.out BK223.out (by decide))); have n1_ := Aside0.mk (blk_grown (g := gb225) (o := .cells #[.int .u64 a0_0, .slice Ao31 y229.length co31, .int .i64 a0_2, .string a0_3] 77 (0, 0)) (by (with_reducible repeat (first | refine blk_drewN ?_ _ | refine blk_drew ?_ | refine blk_alloc ?_ _)); exact BK225.out) hg (Kd.R_ne HO246.out BK225.out (by decide))); have n2_ := Aside0.mk (Kd.R_over' (by (with_reducible repeat (first | apply Kd.R_alloc | apply Kd.R_drewN | apply Kd.R_drew)); exact HO231.out) (Kd.R_typed (by (with_reducible repeat (first | apply Kd.R_alloc | apply Kd.R_drewN | apply Kd.R_drew)); exact HO246.out)) (by decide) hg); have n3_ := Aside0.mk (Kd.R_after (ok := (fun _ => True)) (by (with_reducible repeat (first | apply Kd.R_alloc | apply Kd.R_drewN | apply Kd.R_drew)); exact HO234.out) hg hat); have n4_ := Aside0.mk (Kd.R_over' (by (with_reducible repeat (first | apply Kd.R_alloc | apply Kd.R_drewN | apply Kd.R_drew)); exact HO239.out) (Kd.R_typed (by (with_reducible repeat (first | apply Kd.R_alloc | apply Kd.R_drewN | apply Kd.R_drew)); exact HO246.out)) (by decide) hg); have n5_ := Aside0.mk (hb); have n6_ := Aside0.mk (ho); clear BK223; clear BK225; clear HO231; clear HO234; clear HO239; clear HB; clear HO246; have BK223 := n0_; have BK225 := n1_; have HO231 := n2_; have HO234 := n3_; have HO239 := n4_; have HB := n5_; have HO249 := n6_; clear n0_ n1_ n2_ n3_ n4_ n5_ n6_; clear ho hb hg hat; obtain ⟨Ao41, co41, eo41⟩ := Kd.R_slice HO249.out; subst eo41) | ((with_reducible refine gate_callee (f := 33) rfl ?_); refine goesL_ (some 37) rfl rfl Try.func33 (by kernel_rfl) rfl #[.slice Ao41 y247.length co41] rfl (by (try simp only [List.map_toArray, List.map_cons, List.map_nil]); first | done | rfl | (simp only [List.length_drop, List.length_take]; rfl)) ?_; (with_reducible refine (object_ReadCommit.calls k _ _ y247 t250 t251 t254 t255 t256 _ ?side1 ?side2 A10.out).mono ?_); (case side1 => repeat (first | exact (Kd.R_reads' HO249.out).2.2 | (with_reducible refine Kd.C_alloc ?_ _) | (with_reducible refine Kd.C_drewN ?_ _) | (with_reducible refine Kd.C_drew ?_))); (case side2 => exact (Kd.R_reads' HO249.out).2.1); rintro e w42 ⟨v252, rfl, ho0, hb⟩; refine ⟨_, rfl, ?_⟩; have n0_ := Aside0.mk (Kd.R_elder' (by (with_reducible repeat (first | apply Kd.R_alloc | apply Kd.R_drewN | apply Kd.R_drew)); exact HO231.out) (Kd.R_base ho0) hb); have n1_ := Aside0.mk (Kd.R_below (by (with_reducible repeat (first | apply Kd.R_alloc | apply Kd.R_drewN | apply Kd.R_drew)); exact HO234.out) hb); have n2_ := Aside0.mk (Kd.R_below (by (with_reducible repeat (first | apply Kd.R_alloc | apply Kd.R_drewN | apply Kd.R_drew)); exact HO239.out) hb); have n3_ := Aside0.mk (Kd.R_below (by (with_reducible repeat (first | apply Kd.R_alloc | apply Kd.R_drewN | apply Kd.R_drew)); exact HO249.out) hb); have n4_ := Aside0.mk (Kd.R_lower (Kd.R_new' ho0 (Kd.R_lt (by (with_reducible repeat (first | apply Kd.R_alloc | apply Kd.R_drewN | apply Kd.R_drew)); exact HO231.out))) (below_size (by repeat (first | (with_reducible first | exact HB.out | apply below_alloc | apply pw_below_drewN | apply below_drew1 | refine below_set ?_ GE223.out | refine below_set ?_ GE225.out) | exact HB.out)))); have n5_ := Aside0.mk (blk_below (g := gb223) (o := .cells #[.int .u64 a0_0, .slice A0_1 l0_1.length c0_1, .int .i64 a0_2, .string a0_3] 77 (0, 0)) (by (with_reducible repeat (first | refine blk_drewN ?_ _ | refine blk_drew ?_ | refine blk_alloc ?_ _)); exact BK223.out) hb); have n6_ := Aside0.mk (blk_below (g := gb225) (o := .cells #[.int .u64 a0_0, .slice Ao31 y229.length co31, .int .i64 a0_2, .string a0_3] 77 (0, 0)) (by (with_reducible repeat (first | refine blk_drewN ?_ _ | refine blk_drew ?_ | refine blk_alloc ?_ _)); exact BK225.out) hb); have n7_ := Aside0.mk (below_step (by repeat (first | (with_reducible first | exact HB.out | apply below_alloc | apply pw_below_drewN | apply below_drew1 | refine below_set ?_ GE223.out | refine below_set ?_ GE225.out) | exact HB.out)) hb); clear HO231; clear HO234; clear HO239; clear HO249; clear BK223; clear BK225; clear HB; have HO231 := n0_; have HO234 := n1_; have HO239 := n2_; have HO249 := n3_; have HO253 := n4_; have BK223 := n5_; have BK225 := n6_; have HB := n7_; clear n0_ n1_ n2_ n3_ n4_ n5_ n6_ n7_; (try clear hb); (try clear hb2); (try clear hk); (try clear hi); (try clear ho0)) | ((with_reducible refine gate_dst (N := 10) rfl ?_); refine box_event ?hg (N := 10) ?hd (cs := #[.int .u64 0, .slice none 0 0, .int .i64 0, .string (⟨#[]⟩ : ByteArray)]) (t := 77) ?hr ?_; (case hd => rfl); (case hg => rfl); (case hr => first | (go_simp; done) | (go_simp; rfl)); intro gb257 hg w43 hbox hb; have n0_ := Aside0.mk (Kd.R_below (by (with_reducible repeat (first | apply Kd.R_alloc | apply Kd.R_drewN | apply Kd.R_drew)); exact HO231.out) hb); have n1_ := Aside0.mk (Kd.R_below (by (with_reducible repeat (first | apply Kd.R_alloc | apply Kd.R_drewN | apply Kd.R_drew)); exact HO234.out) hb); have n2_ := Aside0.mk (Kd.R_below (by (with_reducible repeat (first | apply Kd.R_alloc | apply Kd.R_drewN | apply Kd.R_drew)); exact HO239.out) hb); have n3_ := Aside0.mk (Kd.R_below (by (with_reducible repeat (first | apply Kd.R_alloc | apply Kd.R_drewN | apply Kd.R_drew)); exact HO249.out) hb); have n4_ := Aside0.mk (Kd.R_below (by (with_reducible repeat (first | apply Kd.R_alloc | apply Kd.R_drewN | apply Kd.R_drew)); exact HO253.out) hb); have n5_ := Aside0.mk (blk_below (g := gb223) (o := .cells #[.int .u64 a0_0, .slice A0_1 l0_1.length c0_1, .int .i64 a0_2, .string a0_3] 77 (0, 0)) (by (with_reducible repeat (first | refine blk_drewN ?_ _ | refine blk_drew ?_ | refine blk_alloc ?_ _)); exact BK223.out) hb); have n6_ := Aside0.mk (blk_below (g := gb225) (o := .cells #[.int .u64 a0_0, .slice Ao31 y229.length co31, .int .i64 a0_2, .string a0_3] 77 (0, 0)) (by (with_reducible repeat (first | refine blk_drewN ?_ _ | refine blk_drew ?_ | refine blk_alloc ?_ _)); exact BK225.out) hb); have n7_ := Aside0.mk (below_step (by repeat (first | (with_reducible first | exact HB.out | apply below_alloc | apply pw_below_drewN | apply below_drew1 | refine below_set ?_ GE223.out | refine below_set ?_ GE225.out) | exact HB.out)) hb); have n8_ := Aside0.mk (hbox); have n9_ := Aside0.mk ((by rw [hg]; exact (below_size (by repeat (first | (with_reducible first | exact HB.out | apply below_alloc | apply pw_below_drewN | apply below_drew1 | refine below_set ?_ GE223.out | refine below_set ?_ GE225.out) | exact HB.out))) : w.heap.size ≤ gb257)); have n10_ := Aside0.mk ((by rw [hg]; exact (below_size (by repeat (first | (with_reducible first | exact HB.out | apply below_alloc | apply pw_below_drewN | apply below_drew1 | refine below_set ?_ GE223.out | refine below_set ?_ GE225.out) | exact HB.out))) : w.heap.size ≤ gb257)); have n11_ := Aside0.mk ((by rw [hg]; exact Nat.ne_of_lt (blk_lt (g := gb223) (o := .cells #[.int .u64 a0_0, .slice A0_1 l0_1.length c0_1, .int .i64 a0_2, .string a0_3] 77 (0, 0)) (by (with_reducible repeat (first | refine blk_drewN ?_ _ | refine blk_drew ?_ | refine blk_alloc ?_ _)); exact BK223.out)) : gb223 ≠ gb257)); have n12_ := Aside0.mk ((by rw [hg]; exact Nat.ne_of_gt (blk_lt (g := gb223) (o := .cells #[.int .u64 a0_0, .slice A0_1 l0_1.length c0_1, .int .i64 a0_2, .string a0_3] 77 (0, 0)) (by (with_reducible repeat (first | refine blk_drewN ?_ _ | refine blk_drew ?_ | refine blk_alloc ?_ _)); exact BK223.out)) : gb257 ≠ gb223)); have n13_ := Aside0.mk ((by rw [hg]; exact Nat.ne_of_lt (blk_lt (g := gb225) (o := .cells #[.int .u64 a0_0, .slice Ao31 y229.length co31, .int .i64 a0_2, .string a0_3] 77 (0, 0)) (by (with_reducible repeat (first | refine blk_drewN ?_ _ | refine blk_drew ?_ | refine blk_alloc ?_ _)); exact BK225.out)) : gb225 ≠ gb257)); have n14_ := Aside0.mk ((by rw [hg]; exact Nat.ne_of_gt (blk_lt (g := gb225) (o := .cells #[.int .u64 a0_0, .slice Ao31 y229.length co31, .int .i64 a0_2, .string a0_3] 77 (0, 0)) (by (with_reducible repeat (first | refine blk_drewN ?_ _ | refine blk_drew ?_ | refine blk_alloc ?_ _)); exact BK225.out)) : gb257 ≠ gb225)); clear HO231; clear HO234; clear HO239; clear HO249; clear HO253; clear BK223; clear BK225; clear HB; have HO231 := n0_; have HO234 := n1_; have HO239 := n2_; have HO249 := n3_; have HO253 := n4_; have BK223 := n5_; have BK225 := n6_; have HB := n7_; have BK257 := n8_; have GW257 := n9_; have GE257 := n10_; have NB223_257 := n11_; have NB257_223 := n12_; have NB225_257 := n13_; have NB257_225 := n14_; clear n0_ n1_ n2_ n3_ n4_ n5_ n6_ n7_ n8_ n9_ n10_ n11_ n12_ n13_ n14_; clear hb hbox hg; have hnb44 := NB257_223.out; have hnc44 := NB223_257.out; have hnb45 := NB257_225.out; have hnc45 := NB225_257.out; have hcz46_0 : w43.cell? ⟨gb257, 0, none⟩ = some (.int .u64 0) := (blk_cell BK257.out 0).trans rfl; have hcz46_1 : w43.cell? ⟨gb257, 1, none⟩ = some (.slice none 0 0) := (blk_cell BK257.out 1).trans rfl; have hcz46_2 : w43.cell? ⟨gb257, 2, none⟩ = some (.int .i64 0) := (blk_cell BK257.out 2).trans rfl; have hcz46_3 : w43.cell? ⟨gb257, 3, none⟩ = some (.string (⟨#[]⟩ : ByteArray)) := (blk_cell BK257.out 3).trans rfl; have hfz46_0 := blk_frozen BK257.out 0; have hfz46_1 := blk_frozen BK257.out 1; have hfz46_2 := blk_frozen BK257.out 2; have hfz46_3 := blk_frozen BK257.out 3; obtain ⟨Ao47, co47, eo47⟩ := Kd.R_slice HO253.out; subst eo47; have hcv48 : (convert 53 9 (.slice A1 l1.length c1)).run Try.prog ((((w43.setCell ⟨gb257, 0, none⟩ (.int .u64 t250)).setCell ⟨gb257, 1, none⟩ (.slice Ao47 t251.length co47)).setCell ⟨gb257, 2, none⟩ (.int .i64 t254)).setCell ⟨gb257, 3, none⟩ (.string t255)) = .ok (.string (strOfNums l1)) ((((w43.setCell ⟨gb257, 0, none⟩ (.int .u64 t250)).setCell ⟨gb257, 1, none⟩ (.slice Ao47 t251.length co47)).setCell ⟨gb257, 2, none⟩ (.int .i64 t254)).setCell ⟨gb257, 3, none⟩ (.string t255)) := Kd.C_string (P := Try.prog) (A := A1) (c := c1) Try.underlying53 Try.underlying5 Try.underlying9 (Kd.C_below HR1.out (by repeat (first | (with_reducible first | exact HB.out | apply below_alloc | apply pw_below_drewN | apply below_drew1 | refine below_set ?_ GE223.out | refine below_set ?_ GE225.out | refine below_set ?_ GE257.out) | exact HB.out)))) | ((with_reducible refine gate_callee (f := 34) rfl ?_); refine goesL_ (some 43) rfl rfl Try.func34 (by kernel_rfl) rfl #[.string (strOfNums l1)] rfl (by (try simp only [List.map_toArray, List.map_cons, List.map_nil]); first | done | rfl | (simp only [List.length_drop, List.length_take]; rfl)) ?_; (with_reducible refine (forebearref08_ReadCommit.calls k (strOfNums l1) t258 t259 t262 t263 t264 _ A11.out).mono ?_); rintro e w49 ⟨v260, rfl, ho0, hb⟩; refine ⟨_, rfl, ?_⟩; have n0_ := Aside0.mk (Kd.R_below (by (with_reducible repeat (first | apply Kd.R_alloc | apply Kd.R_drewN | apply Kd.R_drew)); exact (Kd.R_mono (Kd.R_far (p := ⟨gb257, 3, none⟩) (Kd.R_far (p := ⟨gb257, 2, none⟩) (Kd.R_far (p := ⟨gb257, 1, none⟩) (Kd.R_far (p := ⟨gb257, 0, none⟩) (Kd.R_types HO231.out BK257.out (by decide)) (fun _ hk => hk.2) (.int .u64 t250)) (fun _ hk => hk.2) (.slice Ao47 t251.length co47)) (fun _ hk => hk.2) (.int .i64 t254)) (fun _ hk => hk.2) (.string t255)) (fun _ h_ => h_.1))) hb); have n1_ := Aside0.mk (Kd.R_below (by (with_reducible repeat (first | apply Kd.R_alloc | apply Kd.R_drewN | apply Kd.R_drew)); exact (Kd.R_mono (Kd.R_far (p := ⟨gb257, 3, none⟩) (Kd.R_far (p := ⟨gb257, 2, none⟩) (Kd.R_far (p := ⟨gb257, 1, none⟩) (Kd.R_far (p := ⟨gb257, 0, none⟩) (Kd.R_types HO234.out BK257.out (by decide)) (fun _ hk => hk.2) (.int .u64 t250)) (fun _ hk => hk.2) (.slice Ao47 t251.length co47)) (fun _ hk => hk.2) (.int .i64 t254)) (fun _ hk => hk.2) (.string t255)) (fun _ h_ => h_.1))) hb); have n2_ := Aside0.mk (Kd.R_elder' (by (with_reducible repeat (first | apply Kd.R_alloc | apply Kd.R_drewN | apply Kd.R_drew)); exact (Kd.R_mono (Kd.R_far (p := ⟨gb257, 3, none⟩) (Kd.R_far (p := ⟨gb257, 2, none⟩) (Kd.R_far (p := ⟨gb257, 1, none⟩) (Kd.R_far (p := ⟨gb257, 0, none⟩) (Kd.R_types HO239.out BK257.out (by decide)) (fun _ hk => hk.2) (.int .u64 t250)) (fun _ hk => hk.2) (.slice Ao47 t251.length co47)) (fun _ hk => hk.2) (.int .i64 t254)) (fun _ hk => hk.2) (.string t255)) (fun _ h_ => h_.1))) (Kd.R_base ho0) hb); have n3_ := Aside0.mk (Kd.R_below (by (with_reducible repeat (first | apply Kd.R_alloc | apply Kd.R_drewN | apply Kd.R_drew)); exact (Kd.R_mono (Kd.R_far (p := ⟨gb257, 3, none⟩) (Kd.R_far (p := ⟨gb257, 2, none⟩) (Kd.R_far (p := ⟨gb257, 1, none⟩) (Kd.R_far (p := ⟨gb257, 0, none⟩) (Kd.R_types HO249.out BK257.out (by decide)) (fun _ hk => hk.2) (.int .u64 t250)) (fun _ hk => hk.2) (.slice Ao47 t251.length co47)) (fun _ hk => hk.2) (.int .i64 t254)) (fun _ hk => hk.2) (.string t255)) (fun _ h_ => h_.1))) hb); have n4_ := Aside0.mk (Kd.R_below (by (with_reducible repeat (first | apply Kd.R_alloc | apply Kd.R_drewN | apply Kd.R_drew)); exact (Kd.R_mono (Kd.R_far (p := ⟨gb257, 3, none⟩) (Kd.R_far (p := ⟨gb257, 2, none⟩) (Kd.R_far (p := ⟨gb257, 1, none⟩) (Kd.R_far (p := ⟨gb257, 0, none⟩) (Kd.R_types HO253.out BK257.out (by decide)) (fun _ hk => hk.2) (.int .u64 t250)) (fun _ hk => hk.2) (.slice Ao47 t251.length co47)) (fun _ hk => hk.2) (.int .i64 t254)) (fun _ hk => hk.2) (.string t255)) (fun _ h_ => h_.1))) hb); have n5_ := Aside0.mk (Kd.R_lower (Kd.R_new' ho0 (Kd.R_lt (by (with_reducible repeat (first | apply Kd.R_alloc | apply Kd.R_drewN | apply Kd.R_drew)); exact (Kd.R_mono (Kd.R_far (p := ⟨gb257, 3, none⟩) (Kd.R_far (p := ⟨gb257, 2, none⟩) (Kd.R_far (p := ⟨gb257, 1, none⟩) (Kd.R_far (p := ⟨gb257, 0, none⟩) (Kd.R_types HO239.out BK257.out (by decide)) (fun _ hk => hk.2) (.int .u64 t250)) (fun _ hk => hk.2) (.slice Ao47 t251.length co47)) (fun _ hk => hk.2) (.int .i64 t254)) (fun _ hk => hk.2) (.string t255)) (fun _ h_ => h_.1))))) (below_size (by repeat (first | (with_reducible first | exact HB.out | apply below_alloc | apply pw_below_drewN | apply below_drew1 | refine below_set ?_ GE223.out | refine below_set ?_ GE225.out | refine below_set ?_ GE257.out) | exact HB.out)))); have n6_ := Aside0.mk (blk_below (g := gb223) (o := .cells #[.int .u64 a0_0, .slice A0_1 l0_1.length c0_1, .int .i64 a0_2, .string a0_3] 77 (0, 0)) (by (with_reducible repeat (first | refine blk_drewN ?_ _ | refine blk_drew ?_ | refine blk_alloc ?_ _)); refine blk_far ?_ NB223_257.out _; (with_reducible repeat (first | refine blk_drewN ?_ _ | refine blk_drew ?_ | refine blk_alloc ?_ _)); refine blk_far ?_ NB223_257.out _; (with_reducible repeat (first | refine blk_drewN ?_ _ | refine blk_drew ?_ | refine blk_alloc ?_ _)); refine blk_far ?_ NB223_257.out _; (with_reducible repeat (first | refine blk_drewN ?_ _ | refine blk_drew ?_ | refine blk_alloc ?_ _)); refine blk_far ?_ NB223_257.out _; (with_reducible repeat (first | refine blk_drewN ?_ _ | refine blk_drew ?_ | refine blk_alloc ?_ _)); exact BK223.out) hb); have n7_ := Aside0.mk (blk_below (g := gb225) (o := .cells #[.int .u64 a0_0, .slice Ao31 y229.length co31, .int .i64 a0_2, .string a0_3] 77 (0, 0)) (by (with_reducible repeat (first | refine blk_drewN ?_ _ | refine blk_drew ?_ | refine blk_alloc ?_ _)); refine blk_far ?_ NB225_257.out _; (with_reducible repeat (first | refine blk_drewN ?_ _ | refine blk_drew ?_ | refine blk_alloc ?_ _)); refine blk_far ?_ NB225_257.out _; (with_reducible repeat (first | refine blk_drewN ?_ _ | refine blk_drew ?_ | refine blk_alloc ?_ _)); refine blk_far ?_ NB225_257.out _; (with_reducible repeat (first | refine blk_drewN ?_ _ | refine blk_drew ?_ | refine blk_alloc ?_ _)); refine blk_far ?_ NB225_257.out _; (with_reducible repeat (first | refine blk_drewN ?_ _ | refine blk_drew ?_ | refine blk_alloc ?_ _)); exact BK225.out) hb); have n8_ := Aside0.mk (blk_below (g := gb257) (o := .cells #[.int .u64 t250, .slice Ao47 t251.length co47, .int .i64 t254, .string t255] 77 (0, 0)) (by (with_reducible repeat (first | refine blk_drewN ?_ _ | refine blk_drew ?_ | refine blk_alloc ?_ _)); refine blk_put (cs := #[.int .u64 t250, .slice Ao47 t251.length co47, .int .i64 t254, .string (⟨#[]⟩ : ByteArray)]) ?_ 3 _ rfl; (with_reducible repeat (first | refine blk_drewN ?_ _ | refine blk_drew ?_ | refine blk_alloc ?_ _)); refine blk_put (cs := #[.int .u64 t250, .slice Ao47 t251.length co47, .int .i64 0, .string (⟨#[]⟩ : ByteArray)]) ?_ 2 _ rfl; (with_reducible repeat (first | refine blk_drewN ?_ _ | refine blk_drew ?_ | refine blk_alloc ?_ _)); refine blk_put (cs := #[.int .u64 t250, .slice none 0 0, .int .i64 0, .string (⟨#[]⟩ : ByteArray)]) ?_ 1 _ rfl; (with_reducible repeat (first | refine blk_drewN ?_ _ | refine blk_drew ?_ | refine blk_alloc ?_ _)); refine blk_put (cs := #[.int .u64 0, .slice none 0 0, .int .i64 0, .string (⟨#[]⟩ : ByteArray)]) ?_ 0 _ rfl; (with_reducible repeat (first | refine blk_drewN ?_ _ | refine blk_drew ?_ | refine blk_alloc ?_ _)); exact BK257.out) hb); have n9_ := Aside0.mk (below_step (by repeat (first | (with_reducible first | exact HB.out | apply below_alloc | apply pw_below_drewN | apply below_drew1 | refine below_set ?_ GE223.out | refine below_set ?_ GE225.out | refine below_set ?_ GE257.out) | exact HB.out)) hb); clear HO231; clear HO234; clear HO239; clear HO249; clear HO253; clear BK223; clear BK225; clear BK257; clear HB; have HO231 := n0_; have HO234 := n1_; have HO239 := n2_; have HO249 := n3_; have HO253 := n4_; have HO261 := n5_; have BK223 := n6_; have BK225 := n7_; have BK257 := n8_; have HB := n9_; clear n0_ n1_ n2_ n3_ n4_ n5_ n6_ n7_ n8_ n9_; (try clear hb); (try clear hb2); (try clear hk); (try clear hi); (try clear ho0)) | ((with_reducible refine gate_dst (N := 12) rfl ?_); refine box_event ?hg (N := 12) ?hd (cs := #[.int .u64 0, .slice none 0 0, .int .i64 0, .string (⟨#[]⟩ : ByteArray)]) (t := 82) ?hr ?_; (case hd => rfl); (case hg => rfl); (case hr => first | (go_simp; done) | (go_simp; rfl)); intro gb265 hg w50 hbox hb; have n0_ := Aside0.mk (Kd.R_below (by (with_reducible repeat (first | apply Kd.R_alloc | apply Kd.R_drewN | apply Kd.R_drew)); exact HO231.out) hb); have n1_ := Aside0.mk (Kd.R_below (by (with_reducible repeat (first | apply Kd.R_alloc | apply Kd.R_drewN | apply Kd.R_drew)); exact HO234.out) hb); have n2_ := Aside0.mk (Kd.R_below (by (with_reducible repeat (first | apply Kd.R_alloc | apply Kd.R_drewN | apply Kd.R_drew)); exact HO239.out) hb); have n3_ := Aside0.mk (Kd.R_below (by (with_reducible repeat (first | apply Kd.R_alloc | apply Kd.R_drewN | apply Kd.R_drew)); exact HO249.out) hb); have n4_ := Aside0.mk (Kd.R_below (by (with_reducible repeat (first | apply Kd.R_alloc | apply Kd.R_drewN | apply Kd.R_drew)); exact HO253.out) hb); have n5_ := Aside0.mk (Kd.R_below (by (with_reducible repeat (first | apply Kd.R_alloc | apply Kd.R_drewN | apply Kd.R_drew)); exact HO261.out) hb); have n6_ := Aside0.mk (blk_below (g := gb223) (o := .cells #[.int .u64 a0_0, .slice A0_1 l0_1.length c0_1, .int .i64 a0_2, .string a0_3] 77 (0, 0)) (by (with_reducible repeat (first | refine blk_drewN ?_ _ | refine blk_drew ?_ | refine blk_alloc ?_ _)); exact BK223.out) hb); have n7_ := Aside0.mk (blk_below (g := gb225) (o := .cells #[.int .u64 a0_0, .slice Ao31 y229.length co31, .int .i64 a0_2, .string a0_3] 77 (0, 0)) (by (with_reducible repeat (first | refine blk_drewN ?_ _ | refine blk_drew ?_ | refine blk_alloc ?_ _)); exact BK225.out) hb); have n8_ := Aside0.mk (blk_below (g := gb257) (o := .cells #[.int .u64 t250, .slice Ao47 t251.length co47, .int .i64 t254, .string t255] 77 (0, 0)) (by (with_reducible repeat (first | refine blk_drewN ?_ _ | refine blk_drew ?_ | refine blk_alloc ?_ _)); exact BK257.out) hb); have n9_ := Aside0.mk (below_step (by repeat (first | (with_reducible first | exact HB.out | apply below_alloc | apply pw_below_drewN | apply below_drew1 | refine below_set ?_ GE223.out | refine below_set ?_ GE225.out | refine below_set ?_ GE257.out) | exact HB.out)) hb); have n10_ := Aside0.mk (hbox); have n11_ := Aside0.mk ((by rw [hg]; exact (below_size (by repeat (first | (with_reducible first | exact HB.out | apply below_alloc | apply pw_below_drewN | apply below_drew1 | refine below_set ?_ GE223.out | refine below_set ?_ GE225.out | refine below_set ?_ GE257.out) | exact HB.out))) : w.heap.size ≤ gb265)); have n12_ := Aside0.mk ((by rw [hg]; exact (below_size (by repeat (first | (with_reducible first | exact HB.out | apply below_alloc | apply pw_below_drewN | apply below_drew1 | refine below_set ?_ GE223.out | refine below_set ?_ GE225.out | refine below_set ?_ GE257.out) | exact HB.out))) : w.heap.size ≤ gb265)); have n13_ := Aside0.mk ((by rw [hg]; exact Nat.ne_of_lt (blk_lt (g := gb223) (o := .cells #[.int .u64 a0_0, .slice A0_1 l0_1.length c0_1, .int .i64 a0_2, .string a0_3] 77 (0, 0)) (by (with_reducible repeat (first | refine blk_drewN ?_ _ | refine blk_drew ?_ | refine blk_alloc ?_ _)); exact BK223.out)) : gb223 ≠ gb265)); have n14_ := Aside0.mk ((by rw [hg]; exact Nat.ne_of_gt (blk_lt (g := gb223) (o := .cells #[.int .u64 a0_0, .slice A0_1 l0_1.length c0_1, .int .i64 a0_2, .string a0_3] 77 (0, 0)) (by (with_reducible repeat (first | refine blk_drewN ?_ _ | refine blk_drew ?_ | refine blk_alloc ?_ _)); exact BK223.out)) : gb265 ≠ gb223)); have n15_ := Aside0.mk ((by rw [hg]; exact Nat.ne_of_lt (blk_lt (g := gb225) (o := .cells #[.int .u64 a0_0, .slice Ao31 y229.length co31, .int .i64 a0_2, .string a0_3] 77 (0, 0)) (by (with_reducible repeat (first | refine blk_drewN ?_ _ | refine blk_drew ?_ | refine blk_alloc ?_ _)); exact BK225.out)) : gb225 ≠ gb265)); have n16_ := Aside0.mk ((by rw [hg]; exact Nat.ne_of_gt (blk_lt (g := gb225) (o := .cells #[.int .u64 a0_0, .slice Ao31 y229.length co31, .int .i64 a0_2, .string a0_3] 77 (0, 0)) (by (with_reducible repeat (first | refine blk_drewN ?_ _ | refine blk_drew ?_ | refine blk_alloc ?_ _)); exact BK225.out)) : gb265 ≠ gb225)); have n17_ := Aside0.mk ((by rw [hg]; exact Nat.ne_of_lt (blk_lt (g := gb257) (o := .cells #[.int .u64 t250, .slice Ao47 t251.length co47, .int .i64 t254, .string t255] 77 (0, 0)) (by (with_reducible repeat (first | refine blk_drewN ?_ _ | refine blk_drew ?_ | refine blk_alloc ?_ _)); exact BK257.out)) : gb257 ≠ gb265)); have n18_ := Aside0.mk ((by rw [hg]; exact Nat.ne_of_gt (blk_lt (g := gb257) (o := .cells #[.int .u64 t250, .slice Ao47 t251.length co47, .int .i64 t254, .string t255] 77 (0, 0)) (by (with_reducible repeat (first | refine blk_drewN ?_ _ | refine blk_drew ?_ | refine blk_alloc ?_ _)); exact BK257.out)) : gb265 ≠ gb257)); clear HO231; clear HO234; clear HO239; clear HO249; clear HO253; clear HO261; clear BK223; clear BK225; clear BK257; clear HB; have HO231 := n0_; have HO234 := n1_; have HO239 := n2_; have HO249 := n3_; have HO253 := n4_; have HO261 := n5_; have BK223 := n6_; have BK225 := n7_; have BK257 := n8_; have HB := n9_; have BK265 := n10_; have GW265 := n11_; have GE265 := n12_; have NB223_265 := n13_; have NB265_223 := n14_; have NB225_265 := n15_; have NB265_225 := n16_; have NB257_265 := n17_; have NB265_257 := n18_; clear n0_ n1_ n2_ n3_ n4_ n5_ n6_ n7_ n8_ n9_ n10_ n11_ n12_ n13_ n14_ n15_ n16_ n17_ n18_; clear hb hbox hg; have hnb51 := NB265_223.out; have hnc51 := NB223_265.out; have hnb52 := NB265_225.out; have hnc52 := NB225_265.out; have hnb53 := NB265_257.out; have hnc53 := NB257_265.out; have hcz54_0 : w50.cell? ⟨gb265, 0, none⟩ = some (.int .u64 0) := (blk_cell BK265.out 0).trans rfl; have hcz54_1 : w50.cell? ⟨gb265, 1, none⟩ = some (.slice none 0 0) := (blk_cell BK265.out 1).trans rfl; have hcz54_2 : w50.cell? ⟨gb265, 2, none⟩ = some (.int .i64 0) := (blk_cell BK265.out 2).trans rfl; have hcz54_3 : w50.cell? ⟨gb265, 3, none⟩ = some (.string (⟨#[]⟩ : ByteArray)) := (blk_cell BK265.out 3).trans rfl; have hfz54_0 := blk_frozen BK265.out 0; have hfz54_1 := blk_frozen BK265.out 1; have hfz54_2 := blk_frozen BK265.out 2; have hfz54_3 := blk_frozen BK265.out 3; obtain ⟨Ao55, co55, eo55⟩ := Kd.R_slice HO261.out; subst eo55))
        have n0_ : Aside0 (Kd.R (Kd.int .u64) 65 ((((w50.setCell ⟨gb265, 0, none⟩ (.int .u64 t258)).setCell ⟨gb265, 1, none⟩ (.slice Ao55 t259.length co55)).setCell ⟨gb265, 2, none⟩ (.int .i64 t262)).setCell ⟨gb265, 3, none⟩ (.string t263)) w.heap.size (fun k_ => some k_ ≠ (.slice Ao47 t251.length co47 : Value).ownBlock) (.slice Ao31 y229.length co31) y229) := ⟨by (with_reducible repeat (first | apply Kd.R_alloc | apply Kd.R_drewN | apply Kd.R_drew)); exact Kd.R_mono (Kd.R_far (p := ⟨gb265, 3, none⟩) (Kd.R_far (p := ⟨gb265, 2, none⟩) (Kd.R_far (p := ⟨gb265, 1, none⟩) (Kd.R_far (p := ⟨gb265, 0, none⟩) (Kd.R_types HO231.out BK265.out (by decide)) (fun _ hk => hk.2) (.int .u64 t258)) (fun _ hk => hk.2) (.slice Ao55 t259.length co55)) (fun _ hk => hk.2) (.int .i64 t262)) (fun _ hk => hk.2) (.string t263)) (fun _ hk => hk.1.2)⟩
        have n1_ : Aside0 (Kd.R (Kd.int .u8) 5 ((((w50.setCell ⟨gb265, 0, none⟩ (.int .u64 t258)).setCell ⟨gb265, 1, none⟩ (.slice Ao55 t259.length co55)).setCell ⟨gb265, 2, none⟩ (.int .i64 t262)).setCell ⟨gb265, 3, none⟩ (.string t263)) w.heap.size (fun k_ => some k_ ≠ (.slice Ao41 y247.length co41 : Value).ownBlock) v233 t232) := ⟨by (with_reducible repeat (first | apply Kd.R_alloc | apply Kd.R_drewN | apply Kd.R_drew)); exact Kd.R_mono (Kd.R_far (p := ⟨gb265, 3, none⟩) (Kd.R_far (p := ⟨gb265, 2, none⟩) (Kd.R_far (p := ⟨gb265, 1, none⟩) (Kd.R_far (p := ⟨gb265, 0, none⟩) (Kd.R_types HO234.out BK265.out (by decide)) (fun _ hk => hk.2) (.int .u64 t258)) (fun _ hk => hk.2) (.slice Ao55 t259.length co55)) (fun _ hk => hk.2) (.int .i64 t262)) (fun _ hk => hk.2) (.string t263)) (fun _ hk => hk.1.2)⟩
        have n2_ : Aside0 (Kd.R (Kd.int .u64) 64 ((((w50.setCell ⟨gb265, 0, none⟩ (.int .u64 t258)).setCell ⟨gb265, 1, none⟩ (.slice Ao55 t259.length co55)).setCell ⟨gb265, 2, none⟩ (.int .i64 t262)).setCell ⟨gb265, 3, none⟩ (.string t263)) w.heap.size (fun k_ => some k_ ≠ (.slice Ao55 t259.length co55 : Value).ownBlock) (.slice Ao36 t237.length co36) t237) := ⟨by (with_reducible repeat (first | apply Kd.R_alloc | apply Kd.R_drewN | apply Kd.R_drew)); exact Kd.R_mono (Kd.R_far (p := ⟨gb265, 3, none⟩) (Kd.R_far (p := ⟨gb265, 2, none⟩) (Kd.R_far (p := ⟨gb265, 1, none⟩) (Kd.R_far (p := ⟨gb265, 0, none⟩) (Kd.R_types HO239.out BK265.out (by decide)) (fun _ hk => hk.2) (.int .u64 t258)) (fun _ hk => hk.2) (.slice Ao55 t259.length co55)) (fun _ hk => hk.2) (.int .i64 t262)) (fun _ hk => hk.2) (.string t263)) (fun _ hk => hk.1.2)⟩
        have n3_ : Aside0 (Kd.R (Kd.int .u8) 5 ((((w50.setCell ⟨gb265, 0, none⟩ (.int .u64 t258)).setCell ⟨gb265, 1, none⟩ (.slice Ao55 t259.length co55)).setCell ⟨gb265, 2, none⟩ (.int .i64 t262)).setCell ⟨gb265, 3, none⟩ (.string t263)) w.heap.size (fun k_ => some k_ ≠ (v233 : Value).ownBlock) (.slice Ao41 y247.length co41) y247) := ⟨by (with_reducible repeat (first | apply Kd.R_alloc | apply Kd.R_drewN | apply Kd.R_drew)); exact Kd.R_mono (Kd.R_far (p := ⟨gb265, 3, none⟩) (Kd.R_far (p := ⟨gb265, 2, none⟩) (Kd.R_far (p := ⟨gb265, 1, none⟩) (Kd.R_far (p := ⟨gb265, 0, none⟩) (Kd.R_types HO249.out BK265.out (by decide)) (fun _ hk => hk.2) (.int .u64 t258)) (fun _ hk => hk.2) (.slice Ao55 t259.length co55)) (fun _ hk => hk.2) (.int .i64 t262)) (fun _ hk => hk.2) (.string t263)) (fun _ hk => hk.1)⟩
        have n4_ : Aside0 (Kd.R (Kd.int .u64) 65 ((((w50.setCell ⟨gb265, 0, none⟩ (.int .u64 t258)).setCell ⟨gb265, 1, none⟩ (.slice Ao55 t259.length co55)).setCell ⟨gb265, 2, none⟩ (.int .i64 t262)).setCell ⟨gb265, 3, none⟩ (.string t263)) w.heap.size (fun k_ => some k_ ≠ (.slice Ao31 y229.length co31 : Value).ownBlock) (.slice Ao47 t251.length co47) t251) := ⟨by (with_reducible repeat (first | apply Kd.R_alloc | apply Kd.R_drewN | apply Kd.R_drew)); exact Kd.R_mono (Kd.R_far (p := ⟨gb265, 3, none⟩) (Kd.R_far (p := ⟨gb265, 2, none⟩) (Kd.R_far (p := ⟨gb265, 1, none⟩) (Kd.R_far (p := ⟨gb265, 0, none⟩) (Kd.R_types HO253.out BK265.out (by decide)) (fun _ hk => hk.2) (.int .u64 t258)) (fun _ hk => hk.2) (.slice Ao55 t259.length co55)) (fun _ hk => hk.2) (.int .i64 t262)) (fun _ hk => hk.2) (.string t263)) (fun _ hk => hk.1.2)⟩
        have n5_ : Aside0 (Kd.R (Kd.int .u64) 64 ((((w50.setCell ⟨gb265, 0, none⟩ (.int .u64 t258)).setCell ⟨gb265, 1, none⟩ (.slice Ao55 t259.length co55)).setCell ⟨gb265, 2, none⟩ (.int .i64 t262)).setCell ⟨gb265, 3, none⟩ (.string t263)) w.heap.size (fun k_ => some k_ ≠ (.slice Ao36 t237.length co36 : Value).ownBlock) (.slice Ao55 t259.length co55) t259) := ⟨by (with_reducible repeat (first | apply Kd.R_alloc | apply Kd.R_drewN | apply Kd.R_drew)); exact Kd.R_mono (Kd.R_far (p := ⟨gb265, 3, none⟩) (Kd.R_far (p := ⟨gb265, 2, none⟩) (Kd.R_far (p := ⟨gb265, 1, none⟩) (Kd.R_far (p := ⟨gb265, 0, none⟩) (Kd.R_types HO261.out BK265.out (by decide)) (fun _ hk => hk.2) (.int .u64 t258)) (fun _ hk => hk.2) (.slice Ao55 t259.length co55)) (fun _ hk => hk.2) (.int .i64 t262)) (fun _ hk => hk.2) (.string t263)) (fun _ hk => hk.1.2)⟩
        have n6_ : Aside0 (((((w50.setCell ⟨gb265, 0, none⟩ (.int .u64 t258)).setCell ⟨gb265, 1, none⟩ (.slice Ao55 t259.length co55)).setCell ⟨gb265, 2, none⟩ (.int .i64 t262)).setCell ⟨gb265, 3, none⟩ (.string t263)).heap[gb223]? = some (.cells #[.int .u64 a0_0, .slice A0_1 l0_1.length c0_1, .int .i64 a0_2, .string a0_3] 77 (0, 0))) := ⟨by (with_reducible repeat (first | refine blk_drewN ?_ _ | refine blk_drew ?_ | refine blk_alloc ?_ _)); refine blk_far ?_ NB223_265.out _; (with_reducible repeat (first | refine blk_drewN ?_ _ | refine blk_drew ?_ | refine blk_alloc ?_ _)); refine blk_far ?_ NB223_265.out _; (with_reducible repeat (first | refine blk_drewN ?_ _ | refine blk_drew ?_ | refine blk_alloc ?_ _)); refine blk_far ?_ NB223_265.out _; (with_reducible repeat (first | refine blk_drewN ?_ _ | refine blk_drew ?_ | refine blk_alloc ?_ _)); refine blk_far ?_ NB223_265.out _; (with_reducible repeat (first | refine blk_drewN ?_ _ | refine blk_drew ?_ | refine blk_alloc ?_ _)); exact BK223.out⟩
        have n7_ : Aside0 (((((w50.setCell ⟨gb265, 0, none⟩ (.int .u64 t258)).setCell ⟨gb265, 1, none⟩ (.slice Ao55 t259.length co55)).setCell ⟨gb265, 2, none⟩ (.int .i64 t262)).setCell ⟨gb265, 3, none⟩ (.string t263)).heap[gb225]? = some (.cells #[.int .u64 a0_0, .slice Ao31 y229.length co31, .int .i64 a0_2, .string a0_3] 77 (0, 0))) := ⟨by (with_reducible repeat (first | refine blk_drewN ?_ _ | refine blk_drew ?_ | refine blk_alloc ?_ _)); refine blk_far ?_ NB225_265.out _; (with_reducible repeat (first | refine blk_drewN ?_ _ | refine blk_drew ?_ | refine blk_alloc ?_ _)); refine blk_far ?_ NB225_265.out _; (with_reducible repeat (first | refine blk_drewN ?_ _ | refine blk_drew ?_ | refine blk_alloc ?_ _)); refine blk_far ?_ NB225_265.out _; (with_reducible repeat (first | refine blk_drewN ?_ _ | refine blk_drew ?_ | refine blk_alloc ?_ _)); refine blk_far ?_ NB225_265.out _; (with_reducible repeat (first | refine blk_drewN ?_ _ | refine blk_drew ?_ | refine blk_alloc ?_ _)); exact BK225.out⟩
        have n8_ : Aside0 (((((w50.setCell ⟨gb265, 0, none⟩ (.int .u64 t258)).setCell ⟨gb265, 1, none⟩ (.slice Ao55 t259.length co55)).setCell ⟨gb265, 2, none⟩ (.int .i64 t262)).setCell ⟨gb265, 3, none⟩ (.string t263)).heap[gb257]? = some (.cells #[.int .u64 t250, .slice Ao47 t251.length co47, .int .i64 t254, .string t255] 77 (0, 0))) := ⟨by (with_reducible repeat (first | refine blk_drewN ?_ _ | refine blk_drew ?_ | refine blk_alloc ?_ _)); refine blk_far ?_ NB257_265.out _; (with_reducible repeat (first | refine blk_drewN ?_ _ | refine blk_drew ?_ | refine blk_alloc ?_ _)); refine blk_far ?_ NB257_265.out _; (with_reducible repeat (first | refine blk_drewN ?_ _ | refine blk_drew ?_ | refine blk_alloc ?_ _)); refine blk_far ?_ NB257_265.out _; (with_reducible repeat (first | refine blk_drewN ?_ _ | refine blk_drew ?_ | refine blk_alloc ?_ _)); refine blk_far ?_ NB257_265.out _; (with_reducible repeat (first | refine blk_drewN ?_ _ | refine blk_drew ?_ | refine blk_alloc ?_ _)); exact BK257.out⟩
        have n9_ : Aside0 (((((w50.setCell ⟨gb265, 0, none⟩ (.int .u64 t258)).setCell ⟨gb265, 1, none⟩ (.slice Ao55 t259.length co55)).setCell ⟨gb265, 2, none⟩ (.int .i64 t262)).setCell ⟨gb265, 3, none⟩ (.string t263)).heap[gb265]? = some (.cells #[.int .u64 t258, .slice Ao55 t259.length co55, .int .i64 t262, .string t263] 82 (0, 0))) := ⟨by (with_reducible repeat (first | refine blk_drewN ?_ _ | refine blk_drew ?_ | refine blk_alloc ?_ _)); refine blk_put (cs := #[.int .u64 t258, .slice Ao55 t259.length co55, .int .i64 t262, .string (⟨#[]⟩ : ByteArray)]) ?_ 3 _ rfl; (with_reducible repeat (first | refine blk_drewN ?_ _ | refine blk_drew ?_ | refine blk_alloc ?_ _)); refine blk_put (cs := #[.int .u64 t258, .slice Ao55 t259.length co55, .int .i64 0, .string (⟨#[]⟩ : ByteArray)]) ?_ 2 _ rfl; (with_reducible repeat (first | refine blk_drewN ?_ _ | refine blk_drew ?_ | refine blk_alloc ?_ _)); refine blk_put (cs := #[.int .u64 t258, .slice none 0 0, .int .i64 0, .string (⟨#[]⟩ : ByteArray)]) ?_ 1 _ rfl; (with_reducible repeat (first | refine blk_drewN ?_ _ | refine blk_drew ?_ | refine blk_alloc ?_ _)); refine blk_put (cs := #[.int .u64 0, .slice none 0 0, .int .i64 0, .string (⟨#[]⟩ : ByteArray)]) ?_ 0 _ rfl; (with_reducible repeat (first | refine blk_drewN ?_ _ | refine blk_drew ?_ | refine blk_alloc ?_ _)); exact BK265.out⟩
        have n10_ : Aside0 (Below w.heap.size w ((((w50.setCell ⟨gb265, 0, none⟩ (.int .u64 t258)).setCell ⟨gb265, 1, none⟩ (.slice Ao55 t259.length co55)).setCell ⟨gb265, 2, none⟩ (.int .i64 t262)).setCell ⟨gb265, 3, none⟩ (.string t263))) := ⟨by repeat (first | (with_reducible first | exact HB.out | apply below_alloc | apply pw_below_drewN | apply below_drew1 | refine below_set ?_ GE223.out | refine below_set ?_ GE225.out | refine below_set ?_ GE257.out | refine below_set ?_ GE265.out) | exact HB.out)⟩
        (try clear HO231)
        (try clear HO234)
        (try clear HO239)
        (try clear HO249)
        (try clear HO253)
        (try clear HO261)
        (try clear BK223)
        (try clear BK225)
        (try clear BK257)
        (try clear BK265)
        (try clear HB)
        generalize ((((w50.setCell ⟨gb265, 0, none⟩ (.int .u64 t258)).setCell ⟨gb265, 1, none⟩ (.slice Ao55 t259.length co55)).setCell ⟨gb265, 2, none⟩ (.int .i64 t262)).setCell ⟨gb265, 3, none⟩ (.string t263)) = w56 at n0_ n1_ n2_ n3_ n4_ n5_ n6_ n7_ n8_ n9_ n10_ ⊢
        have HO231 := n0_
        have HO234 := n1_
        have HO239 := n2_
        have HO249 := n3_
        have HO253 := n4_
        have HO261 := n5_
        have BK223 := n6_
        have BK225 := n7_
        have BK257 := n8_
        have BK265 := n9_
        have HB := n10_
        clear n0_ n1_ n2_ n3_ n4_ n5_ n6_ n7_ n8_ n9_ n10_
        have n0_ := Aside0.mk (Kd.R_drew HO231.out)
        have n1_ := Aside0.mk (Kd.R_drew HO234.out)
        have n2_ := Aside0.mk (Kd.R_drew HO239.out)
        have n3_ := Aside0.mk (Kd.R_drew HO249.out)
        have n4_ := Aside0.mk (Kd.R_drew HO253.out)
        have n5_ := Aside0.mk (Kd.R_drew HO261.out)
        have n6_ := Aside0.mk (blk_drew BK223.out)
        have n7_ := Aside0.mk (blk_drew BK225.out)
        have n8_ := Aside0.mk (blk_drew BK257.out)
        have n9_ := Aside0.mk (blk_drew BK265.out)
        have n10_ := Aside0.mk (below_drew1 HB.out)
        clear HO231
        clear HO234
        clear HO239
        clear HO249
        clear HO253
        clear HO261
        clear BK223
        clear BK225
        clear BK257
        clear BK265
        clear HB
        have HO231 := n0_
        have HO234 := n1_
        have HO239 := n2_
        have HO249 := n3_
        have HO253 := n4_
        have HO261 := n5_
        have BK223 := n6_
        have BK225 := n7_
        have BK257 := n8_
        have BK265 := n9_
        have HB := n10_
        clear n0_ n1_ n2_ n3_ n4_ n5_ n6_ n7_ n8_ n9_ n10_
        refine start_ (n := 28) (S := fun w' => w'.cell? ⟨gb257, 0, none⟩ = some (.int .u64 t250) ∧ w'.cell? ⟨gb257, 1, none⟩ = some (.slice Ao47 t251.length co47) ∧ w'.cell? ⟨gb257, 2, none⟩ = some (.int .i64 t254) ∧ w'.cell? ⟨gb257, 3, none⟩ = some (.string t255) ∧ w'.cell? ⟨gb265, 0, none⟩ = some (.int .u64 t258) ∧ w'.cell? ⟨gb265, 1, none⟩ = some (.slice Ao55 t259.length co55) ∧ w'.cell? ⟨gb265, 2, none⟩ = some (.int .i64 t262) ∧ w'.cell? ⟨gb265, 3, none⟩ = some (.string t263) ∧ w'.cell? ⟨gb225, 0, none⟩ = some (.int .u64 a0_0) ∧ w'.cell? ⟨gb225, 1, none⟩ = some (.slice Ao31 y229.length co31) ∧ w'.cell? ⟨gb225, 2, none⟩ = some (.int .i64 a0_2) ∧ w'.cell? ⟨gb225, 3, none⟩ = some (.string a0_3) ∧ w'.cell? ⟨gb223, 0, none⟩ = some (.int .u64 a0_0) ∧ w'.cell? ⟨gb223, 1, none⟩ = some (.slice A0_1 l0_1.length c0_1) ∧ w'.cell? ⟨gb223, 2, none⟩ = some (.int .i64 a0_2) ∧ w'.cell? ⟨gb223, 3, none⟩ = some (.string a0_3)) (ds := []) (vb 0 28) (by kernel_rfl) rfl rfl ⟨(blk_cell BK257.out 0).trans rfl, (blk_cell BK257.out 1).trans rfl, (blk_cell BK257.out 2).trans rfl, (blk_cell BK257.out 3).trans rfl, (blk_cell BK265.out 0).trans rfl, (blk_cell BK265.out 1).trans rfl, (blk_cell BK265.out 2).trans rfl, (blk_cell BK265.out 3).trans rfl, (blk_cell BK225.out 0).trans rfl, (blk_cell BK225.out 1).trans rfl, (blk_cell BK225.out 2).trans rfl, (blk_cell BK225.out 3).trans rfl, (blk_cell BK223.out 0).trans rfl, (blk_cell BK223.out 1).trans rfl, (blk_cell BK223.out 2).trans rfl, (blk_cell BK223.out 3).trans rfl⟩ (fun hHeld => ?_); refine with_tabW forebearlaw08_ObjectCommits.tab9 forebearlaw08_ObjectCommits.bits9 (fun HT_ HW_ => ?_)
        generalize w56.drew = w57 at HO231 HO234 HO239 HO249 HO253 HO261 BK223 BK225 BK257 BK265 HB hHeld ⊢
        refine pure_ (i := 0) (N := some 46) (v := ?_) (a' := ?_) (vb 1 28) rfl rfl (any_of HT_.out (by kernel_rfl)) (fun _ _ _ h => h) (Or.inl ⟨by rfl, ?_⟩) ?_ ?_
        rotate_left
        ·intro w'
         go_simp
         with_reducible rfl
        rotate_left
        ·simp only [Act.put, List.setIfInBounds_toArray, List.set_cons_zero, List.set_cons_succ, i64_w, i32_w]
         rfl
        refine pure_ (i := 2) (N := some 48) (v := ?_) (a' := ?_) (vb 5 28) rfl rfl (any_of HT_.out (by kernel_rfl)) (fun _ _ _ h => h) (Or.inl ⟨by rfl, ?_⟩) ?_ ?_
        rotate_left
        ·intro w'
         go_simp
         with_reducible rfl
        rotate_left
        ·simp only [Act.put, List.setIfInBounds_toArray, List.set_cons_zero, List.set_cons_succ, i64_w, i32_w]
         rfl
        refine one_ (i := 1) (N := some 47) (vb 7 28) rfl rfl (one_of HT_.out (by kernel_rfl)) (by decide) (fun K hK => ?_)
        have hcv58 := own_string (P := Try.prog) Try.underlying53 Try.underlying5 Try.underlying9 (Kd.own_of_R HO234.out)
        refine value_ (w1 := ?_) (v := ?_) (by rfl) rfl ?_ ?_
        rotate_left 2
        ·go_simp
         constructor
         ·rfl
         ·rfl
        clear hcv58
        refine hK.out _ _ ⟨(blk_cell BK257.out 0).trans rfl, (blk_cell BK257.out 1).trans rfl, (blk_cell BK257.out 2).trans rfl, (blk_cell BK257.out 3).trans rfl, (blk_cell BK265.out 0).trans rfl, (blk_cell BK265.out 1).trans rfl, (blk_cell BK265.out 2).trans rfl, (blk_cell BK265.out 3).trans rfl, (blk_cell BK225.out 0).trans rfl, (blk_cell BK225.out 1).trans rfl, (blk_cell BK225.out 2).trans rfl, (blk_cell BK225.out 3).trans rfl, (blk_cell BK223.out 0).trans rfl, (blk_cell BK223.out 1).trans rfl, (blk_cell BK223.out 2).trans rfl, (blk_cell BK223.out 3).trans rfl⟩ (fun hHeld => ?_)
        clear hK K
        refine norm_ (a' := ?_) ?_ ?_
        rotate_left
        ·show Act.put _ (some 47) _ = _
         simp only [Act.put, List.setIfInBounds_toArray, List.set_cons_zero, List.set_cons_succ, i64_w, i32_w]
         rfl
        refine pure_ (i := 3) (N := some 49) (v := ?_) (a' := ?_) (vb 15 28) rfl rfl (any_of HT_.out (by kernel_rfl)) (fun _ _ _ h => h) (Or.inl ⟨by rfl, ?_⟩) ?_ ?_
        rotate_left
        ·intro w'
         go_simp
         with_reducible rfl
        rotate_left
        ·simp only [Act.put, List.setIfInBounds_toArray, List.set_cons_zero, List.set_cons_succ, i64_w, i32_w]
         rfl
        refine pure_ (i := 4) (N := some 50) (v := ?_) (a' := ?_) (vb 31 28) rfl rfl (any_of HT_.out (by kernel_rfl)) (fun _ _ _ h => h) (Or.inl ⟨by rfl, ?_⟩) ?_ ?_
        rotate_left
        ·intro w'
         go_simp
         with_reducible rfl
        rotate_left
        ·simp only [Act.put, List.setIfInBounds_toArray, List.set_cons_zero, List.set_cons_succ, i64_w, i32_w]
         rfl
        refine pure_ (i := 5) (N := some 51) (v := ?_) (a' := ?_) (vb 63 28) rfl rfl (any_of HT_.out (by kernel_rfl)) (fun _ _ _ h => h) (Or.inl ⟨by rfl, ?_⟩) ?_ ?_
        rotate_left
        ·intro w'
         go_simp
         with_reducible rfl
        rotate_left
        ·simp only [Act.put, List.setIfInBounds_toArray, List.set_cons_zero, List.set_cons_succ, i64_w, i32_w]
         rfl
        refine pure_ (i := 6) (N := some 52) (v := ?_) (a' := ?_) (vb 127 28) rfl rfl (any_of HT_.out (by kernel_rfl)) (fun _ _ _ h => h) (Or.inl ⟨by rfl, ?_⟩) ?_ ?_
        rotate_left
        ·intro w'
         go_simp
         with_reducible rfl
        rotate_left
        ·simp only [Act.put, List.setIfInBounds_toArray, List.set_cons_zero, List.set_cons_succ, i64_w, i32_w]
         rfl
        refine pure_ (i := 7) (N := some 53) (v := ?_) (a' := ?_) (vb 255 28) rfl rfl (any_of HT_.out (by kernel_rfl)) (fun _ _ _ h => h) (Or.inl ⟨by rfl, ?_⟩) ?_ ?_
        rotate_left
        ·intro w'
         go_simp
         with_reducible rfl
        rotate_left
        ·simp only [Act.put, List.setIfInBounds_toArray, List.set_cons_zero, List.set_cons_succ, i64_w, i32_w]
         rfl
        refine pure_ (i := 8) (N := some 54) (v := ?_) (a' := ?_) (vb 511 28) rfl rfl (any_of HT_.out (by kernel_rfl)) (fun _ _ _ h => h) (Or.inl ⟨by rfl, ?_⟩) ?_ ?_
        rotate_left
        ·intro w'
         go_simp
         with_reducible rfl
        rotate_left
        ·simp only [Act.put, List.setIfInBounds_toArray, List.set_cons_zero, List.set_cons_succ, i64_w, i32_w]
         rfl
        refine pure_ (i := 9) (N := some 55) (v := ?_) (a' := ?_) (vb 1023 28) rfl rfl (any_of HT_.out (by kernel_rfl)) (fun _ _ _ h => h) (Or.inl ⟨by rfl, ?_⟩) ?_ ?_
        rotate_left
        ·intro w'
         go_simp
         with_reducible rfl
        rotate_left
        ·simp only [Act.put, List.setIfInBounds_toArray, List.set_cons_zero, List.set_cons_succ, i64_w, i32_w]
         rfl
        refine take_ (i := 10) (N := some 56) (v := ?_) (a' := ?_) (vb 2047 28) rfl rfl (take_ofW HT_.out HW_.out (by kernel_rfl)) (fun _ _ _ h => h) (Or.inl ⟨by rfl, ?_⟩) hHeld ?_ ?_
        rotate_left
        ·rintro w' ⟨s0, s1, s2, s3, s4, s5, s6, s7, s8, s9, s10, s11, s12, s13, s14, s15⟩
         go_simp
         with_reducible rfl
        rotate_left
        ·simp only [Act.put, List.setIfInBounds_toArray, List.set_cons_zero, List.set_cons_succ, i64_w, i32_w]
         rfl
        refine take_ (i := 12) (N := some 58) (v := ?_) (a' := ?_) (vb 6143 28) rfl rfl (take_ofW HT_.out HW_.out (by kernel_rfl)) (fun _ _ _ h => h) (Or.inl ⟨by rfl, ?_⟩) hHeld ?_ ?_
        rotate_left
        ·rintro w' ⟨s0, s1, s2, s3, s4, s5, s6, s7, s8, s9, s10, s11, s12, s13, s14, s15⟩
         go_simp
         with_reducible rfl
        rotate_left
        ·simp only [Act.put, List.setIfInBounds_toArray, List.set_cons_zero, List.set_cons_succ, i64_w, i32_w]
         rfl
        refine one_ (i := 11) (N := some 57) (vb 8191 28) rfl rfl (one_of HT_.out (by kernel_rfl)) (by decide) (fun K hK => ?_)
        refine goes_ Try.func32 (by kernel_rfl) rfl #[.agg #[.int .u64 t250, .slice Ao47 t251.length co47, .int .i64 t254, .string t255]] (by rfl) rfl rfl (by (try simp only [List.map_toArray, List.map_cons, List.map_nil]); first | done | rfl | (simp only [List.length_drop, List.length_take]; rfl)) ?_
        with_reducible refine (forebearlaw08_Commit.calls k t250 _ _ t251 t254 t255 t266 t267 t270 t271 _ ?side1 ?side2 A14.out).mono ?_
        (case side1 => repeat (first | exact (Kd.R_reads' HO253.out).2.2 | (with_reducible refine Kd.C_alloc ?_ _) | (with_reducible refine Kd.C_drewN ?_ _) | (with_reducible refine Kd.C_drew ?_)))
        (case side2 => exact (Kd.R_reads' HO253.out).2.1)
        rintro e w59 ⟨v268, rfl, ho0, hb⟩
        refine ⟨_, rfl, ?_⟩
        have n0_ := Aside0.mk (Kd.R_below (by (with_reducible repeat (first | apply Kd.R_alloc | apply Kd.R_drewN | apply Kd.R_drew)); exact HO231.out) hb)
        have n1_ := Aside0.mk (Kd.R_below (by (with_reducible repeat (first | apply Kd.R_alloc | apply Kd.R_drewN | apply Kd.R_drew)); exact HO234.out) hb)
        have n2_ := Aside0.mk (Kd.R_elder' (by (with_reducible repeat (first | apply Kd.R_alloc | apply Kd.R_drewN | apply Kd.R_drew)); exact HO239.out) (Kd.R_base ho0) hb)
        have n3_ := Aside0.mk (Kd.R_below (by (with_reducible repeat (first | apply Kd.R_alloc | apply Kd.R_drewN | apply Kd.R_drew)); exact HO249.out) hb)
        have n4_ := Aside0.mk (Kd.R_below (by (with_reducible repeat (first | apply Kd.R_alloc | apply Kd.R_drewN | apply Kd.R_drew)); exact HO253.out) hb)
        have n5_ := Aside0.mk (Kd.R_elder' (by (with_reducible repeat (first | apply Kd.R_alloc | apply Kd.R_drewN | apply Kd.R_drew)); exact HO261.out) (Kd.R_base ho0) hb)
        have n6_ := Aside0.mk (Kd.R_lower (Kd.R_new' (Kd.R_new' ho0 (Kd.R_lt (by (with_reducible repeat (first | apply Kd.R_alloc | apply Kd.R_drewN | apply Kd.R_drew)); exact HO239.out))) (Kd.R_lt (by (with_reducible repeat (first | apply Kd.R_alloc | apply Kd.R_drewN | apply Kd.R_drew)); exact HO261.out))) (below_size (by repeat (first | (with_reducible first | exact HB.out | apply below_alloc | apply pw_below_drewN | apply below_drew1 | refine below_set ?_ GE223.out | refine below_set ?_ GE225.out | refine below_set ?_ GE257.out | refine below_set ?_ GE265.out) | exact HB.out))))
        have n7_ := Aside0.mk (blk_below (g := gb223) (o := .cells #[.int .u64 a0_0, .slice A0_1 l0_1.length c0_1, .int .i64 a0_2, .string a0_3] 77 (0, 0)) (by (with_reducible repeat (first | refine blk_drewN ?_ _ | refine blk_drew ?_ | refine blk_alloc ?_ _)); exact BK223.out) hb)
        have n8_ := Aside0.mk (blk_below (g := gb225) (o := .cells #[.int .u64 a0_0, .slice Ao31 y229.length co31, .int .i64 a0_2, .string a0_3] 77 (0, 0)) (by (with_reducible repeat (first | refine blk_drewN ?_ _ | refine blk_drew ?_ | refine blk_alloc ?_ _)); exact BK225.out) hb)
        have n9_ := Aside0.mk (blk_below (g := gb257) (o := .cells #[.int .u64 t250, .slice Ao47 t251.length co47, .int .i64 t254, .string t255] 77 (0, 0)) (by (with_reducible repeat (first | refine blk_drewN ?_ _ | refine blk_drew ?_ | refine blk_alloc ?_ _)); exact BK257.out) hb)
        have n10_ := Aside0.mk (blk_below (g := gb265) (o := .cells #[.int .u64 t258, .slice Ao55 t259.length co55, .int .i64 t262, .string t263] 82 (0, 0)) (by (with_reducible repeat (first | refine blk_drewN ?_ _ | refine blk_drew ?_ | refine blk_alloc ?_ _)); exact BK265.out) hb)
        have n11_ := Aside0.mk (below_step (by repeat (first | (with_reducible first | exact HB.out | apply below_alloc | apply pw_below_drewN | apply below_drew1 | refine below_set ?_ GE223.out | refine below_set ?_ GE225.out | refine below_set ?_ GE257.out | refine below_set ?_ GE265.out) | exact HB.out)) hb)
        clear HO231
        clear HO234
        clear HO239
        clear HO249
        clear HO253
        clear HO261
        clear BK223
        clear BK225
        clear BK257
        clear BK265
        clear HB
        have HO231 := n0_
        have HO234 := n1_
        have HO239 := n2_
        have HO249 := n3_
        have HO253 := n4_
        have HO261 := n5_
        have HO269 := n6_
        have BK223 := n7_
        have BK225 := n8_
        have BK257 := n9_
        have BK265 := n10_
        have HB := n11_
        clear n0_ n1_ n2_ n3_ n4_ n5_ n6_ n7_ n8_ n9_ n10_ n11_
        (try clear hb)
        (try clear hb2)
        (try clear hk)
        (try clear hi)
        (try clear ho0)
        obtain ⟨Ao60, co60, eo60⟩ := Kd.R_slice HO269.out
        (first | subst eo60 | (injection eo60 with f1_ f2_ f3_; have f4_ := f1_.symm; have f5_ := f3_.symm; clear f1_ f2_ f3_; subst f4_; subst f5_))
        refine hK.out _ _ ⟨(blk_cell BK257.out 0).trans rfl, (blk_cell BK257.out 1).trans rfl, (blk_cell BK257.out 2).trans rfl, (blk_cell BK257.out 3).trans rfl, (blk_cell BK265.out 0).trans rfl, (blk_cell BK265.out 1).trans rfl, (blk_cell BK265.out 2).trans rfl, (blk_cell BK265.out 3).trans rfl, (blk_cell BK225.out 0).trans rfl, (blk_cell BK225.out 1).trans rfl, (blk_cell BK225.out 2).trans rfl, (blk_cell BK225.out 3).trans rfl, (blk_cell BK223.out 0).trans rfl, (blk_cell BK223.out 1).trans rfl, (blk_cell BK223.out 2).trans rfl, (blk_cell BK223.out 3).trans rfl⟩ (fun hHeld => ?_)
        clear hK K
        refine norm_ (a' := ?_) ?_ ?_
        rotate_left
        ·show Act.put _ (some 57) _ = _
         simp only [Act.put, List.setIfInBounds_toArray, List.set_cons_zero, List.set_cons_succ, i64_w, i32_w]
         rfl
        refine one_ (i := 13) (N := some 59) (vb 16383 28) rfl rfl (one_of HT_.out (by kernel_rfl)) (by decide) (fun K hK => ?_)
        refine goes_ Try.func35 (by kernel_rfl) rfl #[.agg #[.int .u64 t266, .slice Ao60 t267.length co60, .int .i64 t270, .string t271], .agg #[.int .u64 t258, .slice Ao55 t259.length co55, .int .i64 t262, .string t263]] (by rfl) rfl rfl (by (try simp only [List.map_toArray, List.map_cons, List.map_nil]); first | done | rfl | (simp only [List.length_drop, List.length_take]; rfl)) ?_
        with_reducible refine (forebearref08_SameCommit.calls k t266 _ _ t267 t270 t271 t258 _ _ t259 t262 t263 true _ ?side1 ?side2 ?side3 ?side4 A15.out).mono ?_
        (case side1 => repeat (first | exact (Kd.R_reads' HO269.out).2.2 | (with_reducible refine Kd.C_alloc ?_ _) | (with_reducible refine Kd.C_drewN ?_ _) | (with_reducible refine Kd.C_drew ?_)))
        (case side2 => exact (Kd.R_reads' HO269.out).2.1)
        (case side3 => repeat (first | exact (Kd.R_reads' HO261.out).2.2 | (with_reducible refine Kd.C_alloc ?_ _) | (with_reducible refine Kd.C_drewN ?_ _) | (with_reducible refine Kd.C_drew ?_)))
        (case side4 => exact (Kd.R_reads' HO261.out).2.1)
        rintro e w61 ⟨rfl, hb⟩
        refine ⟨_, rfl, ?_⟩
        have n0_ := Aside0.mk (Kd.R_below (by (with_reducible repeat (first | apply Kd.R_alloc | apply Kd.R_drewN | apply Kd.R_drew)); exact HO231.out) hb)
        have n1_ := Aside0.mk (Kd.R_below (by (with_reducible repeat (first | apply Kd.R_alloc | apply Kd.R_drewN | apply Kd.R_drew)); exact HO234.out) hb)
        have n2_ := Aside0.mk (Kd.R_below (by (with_reducible repeat (first | apply Kd.R_alloc | apply Kd.R_drewN | apply Kd.R_drew)); exact HO239.out) hb)
        have n3_ := Aside0.mk (Kd.R_below (by (with_reducible repeat (first | apply Kd.R_alloc | apply Kd.R_drewN | apply Kd.R_drew)); exact HO249.out) hb)
        have n4_ := Aside0.mk (Kd.R_below (by (with_reducible repeat (first | apply Kd.R_alloc | apply Kd.R_drewN | apply Kd.R_drew)); exact HO253.out) hb)
        have n5_ := Aside0.mk (Kd.R_below (by (with_reducible repeat (first | apply Kd.R_alloc | apply Kd.R_drewN | apply Kd.R_drew)); exact HO261.out) hb)
        have n6_ := Aside0.mk (Kd.R_below (by (with_reducible repeat (first | apply Kd.R_alloc | apply Kd.R_drewN | apply Kd.R_drew)); exact HO269.out) hb)
        have n7_ := Aside0.mk (blk_below (g := gb223) (o := .cells #[.int .u64 a0_0, .slice A0_1 l0_1.length c0_1, .int .i64 a0_2, .string a0_3] 77 (0, 0)) (by (with_reducible repeat (first | refine blk_drewN ?_ _ | refine blk_drew ?_ | refine blk_alloc ?_ _)); exact BK223.out) hb)
        have n8_ := Aside0.mk (blk_below (g := gb225) (o := .cells #[.int .u64 a0_0, .slice Ao31 y229.length co31, .int .i64 a0_2, .string a0_3] 77 (0, 0)) (by (with_reducible repeat (first | refine blk_drewN ?_ _ | refine blk_drew ?_ | refine blk_alloc ?_ _)); exact BK225.out) hb)
        have n9_ := Aside0.mk (blk_below (g := gb257) (o := .cells #[.int .u64 t250, .slice Ao47 t251.length co47, .int .i64 t254, .string t255] 77 (0, 0)) (by (with_reducible repeat (first | refine blk_drewN ?_ _ | refine blk_drew ?_ | refine blk_alloc ?_ _)); exact BK257.out) hb)
        have n10_ := Aside0.mk (blk_below (g := gb265) (o := .cells #[.int .u64 t258, .slice Ao55 t259.length co55, .int .i64 t262, .string t263] 82 (0, 0)) (by (with_reducible repeat (first | refine blk_drewN ?_ _ | refine blk_drew ?_ | refine blk_alloc ?_ _)); exact BK265.out) hb)
        have n11_ := Aside0.mk (below_step (by repeat (first | (with_reducible first | exact HB.out | apply below_alloc | apply pw_below_drewN | apply below_drew1 | refine below_set ?_ GE223.out | refine below_set ?_ GE225.out | refine below_set ?_ GE257.out | refine below_set ?_ GE265.out) | exact HB.out)) hb)
        clear HO231
        clear HO234
        clear HO239
        clear HO249
        clear HO253
        clear HO261
        clear HO269
        clear BK223
        clear BK225
        clear BK257
        clear BK265
        clear HB
        have HO231 := n0_
        have HO234 := n1_
        have HO239 := n2_
        have HO249 := n3_
        have HO253 := n4_
        have HO261 := n5_
        have HO269 := n6_
        have BK223 := n7_
        have BK225 := n8_
        have BK257 := n9_
        have BK265 := n10_
        have HB := n11_
        clear n0_ n1_ n2_ n3_ n4_ n5_ n6_ n7_ n8_ n9_ n10_ n11_
        (try clear hb)
        (try clear hb2)
        (try clear hk)
        (try clear hi)
        refine hK.out _ _ ⟨(blk_cell BK257.out 0).trans rfl, (blk_cell BK257.out 1).trans rfl, (blk_cell BK257.out 2).trans rfl, (blk_cell BK257.out 3).trans rfl, (blk_cell BK265.out 0).trans rfl, (blk_cell BK265.out 1).trans rfl, (blk_cell BK265.out 2).trans rfl, (blk_cell BK265.out 3).trans rfl, (blk_cell BK225.out 0).trans rfl, (blk_cell BK225.out 1).trans rfl, (blk_cell BK225.out 2).trans rfl, (blk_cell BK225.out 3).trans rfl, (blk_cell BK223.out 0).trans rfl, (blk_cell BK223.out 1).trans rfl, (blk_cell BK223.out 2).trans rfl, (blk_cell BK223.out 3).trans rfl⟩ (fun hHeld => ?_)
        clear hK K
        refine norm_ (a' := ?_) ?_ ?_
        rotate_left
        ·show Act.put _ (some 59) _ = _
         simp only [Act.put, List.setIfInBounds_toArray, List.set_cons_zero, List.set_cons_succ, i64_w, i32_w]
         rfl
        refine pure_ (i := 14) (N := some 60) (v := ?_) (a' := ?_) (vb 32767 28) rfl rfl (any_of HT_.out (by kernel_rfl)) (fun _ _ _ h => h) (Or.inl ⟨by rfl, ?_⟩) ?_ ?_
        rotate_left
        ·intro w'
         go_simp
         with_reducible rfl
        rotate_left
        ·simp only [Act.put, List.setIfInBounds_toArray, List.set_cons_zero, List.set_cons_succ, i64_w, i32_w]
         rfl
        refine pure_ (i := 15) (N := some 61) (v := ?_) (a' := ?_) (vb 65535 28) rfl rfl (any_of HT_.out (by kernel_rfl)) (fun _ _ _ h => h) (Or.inl ⟨by rfl, ?_⟩) ?_ ?_
        rotate_left
        ·intro w'
         go_simp
         with_reducible rfl
        rotate_left
        ·simp only [Act.put, List.setIfInBounds_toArray, List.set_cons_zero, List.set_cons_succ, i64_w, i32_w]
         rfl
        refine pure_ (i := 16) (N := some 62) (v := ?_) (a' := ?_) (vb 131071 28) rfl rfl (any_of HT_.out (by kernel_rfl)) (fun _ _ _ h => h) (Or.inl ⟨by rfl, ?_⟩) ?_ ?_
        rotate_left
        ·intro w'
         go_simp
         with_reducible rfl
        rotate_left
        ·simp only [Act.put, List.setIfInBounds_toArray, List.set_cons_zero, List.set_cons_succ, i64_w, i32_w]
         rfl
        refine pure_ (i := 17) (N := some 63) (v := ?_) (a' := ?_) (vb 262143 28) rfl rfl (any_of HT_.out (by kernel_rfl)) (fun _ _ _ h => h) (Or.inl ⟨by rfl, ?_⟩) ?_ ?_
        rotate_left
        ·intro w'
         go_simp
         with_reducible rfl
        rotate_left
        ·simp only [Act.put, List.setIfInBounds_toArray, List.set_cons_zero, List.set_cons_succ, i64_w, i32_w]
         rfl
        refine pure_ (i := 18) (N := some 64) (v := ?_) (a' := ?_) (vb 524287 28) rfl rfl (any_of HT_.out (by kernel_rfl)) (fun _ _ _ h => h) (Or.inl ⟨by rfl, ?_⟩) ?_ ?_
        rotate_left
        ·intro w'
         go_simp
         with_reducible rfl
        rotate_left
        ·simp only [Act.put, List.setIfInBounds_toArray, List.set_cons_zero, List.set_cons_succ, i64_w, i32_w]
         rfl
        refine pure_ (i := 19) (N := some 65) (v := ?_) (a' := ?_) (vb 1048575 28) rfl rfl (any_of HT_.out (by kernel_rfl)) (fun _ _ _ h => h) (Or.inl ⟨by rfl, ?_⟩) ?_ ?_
        rotate_left
        ·intro w'
         go_simp
         with_reducible rfl
        rotate_left
        ·simp only [Act.put, List.setIfInBounds_toArray, List.set_cons_zero, List.set_cons_succ, i64_w, i32_w]
         rfl
        refine pure_ (i := 20) (N := some 66) (v := ?_) (a' := ?_) (vb 2097151 28) rfl rfl (any_of HT_.out (by kernel_rfl)) (fun _ _ _ h => h) (Or.inl ⟨by rfl, ?_⟩) ?_ ?_
        rotate_left
        ·intro w'
         go_simp
         with_reducible rfl
        rotate_left
        ·simp only [Act.put, List.setIfInBounds_toArray, List.set_cons_zero, List.set_cons_succ, i64_w, i32_w]
         rfl
        refine take_ (i := 21) (N := some 67) (v := ?_) (a' := ?_) (vb 4194303 28) rfl rfl (take_ofW HT_.out HW_.out (by kernel_rfl)) (fun _ _ _ h => h) (Or.inl ⟨by rfl, ?_⟩) hHeld ?_ ?_
        rotate_left
        ·rintro w' ⟨s0, s1, s2, s3, s4, s5, s6, s7, s8, s9, s10, s11, s12, s13, s14, s15⟩
         go_simp
         with_reducible rfl
        rotate_left
        ·simp only [Act.put, List.setIfInBounds_toArray, List.set_cons_zero, List.set_cons_succ, i64_w, i32_w]
         rfl
        refine take_ (i := 23) (N := some 69) (v := ?_) (a' := ?_) (vb 12582911 28) rfl rfl (take_ofW HT_.out HW_.out (by kernel_rfl)) (fun _ _ _ h => h) (Or.inl ⟨by rfl, ?_⟩) hHeld ?_ ?_
        rotate_left
        ·rintro w' ⟨s0, s1, s2, s3, s4, s5, s6, s7, s8, s9, s10, s11, s12, s13, s14, s15⟩
         go_simp
         with_reducible rfl
        rotate_left
        ·simp only [Act.put, List.setIfInBounds_toArray, List.set_cons_zero, List.set_cons_succ, i64_w, i32_w]
         rfl
        refine one_ (i := 22) (N := some 68) (vb 16777215 28) rfl rfl (one_of HT_.out (by kernel_rfl)) (by decide) (fun K hK => ?_)
        refine goes_ Try.func32 (by kernel_rfl) rfl #[.agg #[.int .u64 a0_0, .slice Ao31 y229.length co31, .int .i64 a0_2, .string a0_3]] (by rfl) rfl rfl (by (try simp only [List.map_toArray, List.map_cons, List.map_nil]); first | done | rfl | (simp only [List.length_drop, List.length_take]; rfl)) ?_
        with_reducible refine (forebearlaw08_Commit.calls k a0_0 _ _ y229 a0_2 a0_3 t273 t274 t277 t278 _ ?side1 ?side2 A18.out).mono ?_
        (case side1 => repeat (first | exact (Kd.R_reads' HO231.out).2.2 | (with_reducible refine Kd.C_alloc ?_ _) | (with_reducible refine Kd.C_drewN ?_ _) | (with_reducible refine Kd.C_drew ?_)))
        (case side2 => exact (Kd.R_reads' HO231.out).2.1)
        rintro e w62 ⟨v275, rfl, ho0, hb⟩
        refine ⟨_, rfl, ?_⟩
        have n0_ := Aside0.mk (Kd.R_below (by (with_reducible repeat (first | apply Kd.R_alloc | apply Kd.R_drewN | apply Kd.R_drew)); exact HO231.out) hb)
        have n1_ := Aside0.mk (Kd.R_below (by (with_reducible repeat (first | apply Kd.R_alloc | apply Kd.R_drewN | apply Kd.R_drew)); exact HO234.out) hb)
        have n2_ := Aside0.mk (Kd.R_elder' (by (with_reducible repeat (first | apply Kd.R_alloc | apply Kd.R_drewN | apply Kd.R_drew)); exact HO239.out) (Kd.R_base ho0) hb)
        have n3_ := Aside0.mk (Kd.R_below (by (with_reducible repeat (first | apply Kd.R_alloc | apply Kd.R_drewN | apply Kd.R_drew)); exact HO249.out) hb)
        have n4_ := Aside0.mk (Kd.R_below (by (with_reducible repeat (first | apply Kd.R_alloc | apply Kd.R_drewN | apply Kd.R_drew)); exact HO253.out) hb)
        have n5_ := Aside0.mk (Kd.R_elder' (by (with_reducible repeat (first | apply Kd.R_alloc | apply Kd.R_drewN | apply Kd.R_drew)); exact HO261.out) (Kd.R_base ho0) hb)
        have n6_ := Aside0.mk (Kd.R_elder' (by (with_reducible repeat (first | apply Kd.R_alloc | apply Kd.R_drewN | apply Kd.R_drew)); exact HO269.out) (Kd.R_base ho0) hb)
        have n7_ := Aside0.mk (Kd.R_lower (Kd.R_new' (Kd.R_new' (Kd.R_new' ho0 (Kd.R_lt (by (with_reducible repeat (first | apply Kd.R_alloc | apply Kd.R_drewN | apply Kd.R_drew)); exact HO239.out))) (Kd.R_lt (by (with_reducible repeat (first | apply Kd.R_alloc | apply Kd.R_drewN | apply Kd.R_drew)); exact HO261.out))) (Kd.R_lt (by (with_reducible repeat (first | apply Kd.R_alloc | apply Kd.R_drewN | apply Kd.R_drew)); exact HO269.out))) (below_size (by repeat (first | (with_reducible first | exact HB.out | apply below_alloc | apply pw_below_drewN | apply below_drew1 | refine below_set ?_ GE223.out | refine below_set ?_ GE225.out | refine below_set ?_ GE257.out | refine below_set ?_ GE265.out) | exact HB.out))))
        have n8_ := Aside0.mk (blk_below (g := gb223) (o := .cells #[.int .u64 a0_0, .slice A0_1 l0_1.length c0_1, .int .i64 a0_2, .string a0_3] 77 (0, 0)) (by (with_reducible repeat (first | refine blk_drewN ?_ _ | refine blk_drew ?_ | refine blk_alloc ?_ _)); exact BK223.out) hb)
        have n9_ := Aside0.mk (blk_below (g := gb225) (o := .cells #[.int .u64 a0_0, .slice Ao31 y229.length co31, .int .i64 a0_2, .string a0_3] 77 (0, 0)) (by (with_reducible repeat (first | refine blk_drewN ?_ _ | refine blk_drew ?_ | refine blk_alloc ?_ _)); exact BK225.out) hb)
        have n10_ := Aside0.mk (blk_below (g := gb257) (o := .cells #[.int .u64 t250, .slice Ao47 t251.length co47, .int .i64 t254, .string t255] 77 (0, 0)) (by (with_reducible repeat (first | refine blk_drewN ?_ _ | refine blk_drew ?_ | refine blk_alloc ?_ _)); exact BK257.out) hb)
        have n11_ := Aside0.mk (blk_below (g := gb265) (o := .cells #[.int .u64 t258, .slice Ao55 t259.length co55, .int .i64 t262, .string t263] 82 (0, 0)) (by (with_reducible repeat (first | refine blk_drewN ?_ _ | refine blk_drew ?_ | refine blk_alloc ?_ _)); exact BK265.out) hb)
        have n12_ := Aside0.mk (below_step (by repeat (first | (with_reducible first | exact HB.out | apply below_alloc | apply pw_below_drewN | apply below_drew1 | refine below_set ?_ GE223.out | refine below_set ?_ GE225.out | refine below_set ?_ GE257.out | refine below_set ?_ GE265.out) | exact HB.out)) hb)
        clear HO231
        clear HO234
        clear HO239
        clear HO249
        clear HO253
        clear HO261
        clear HO269
        clear BK223
        clear BK225
        clear BK257
        clear BK265
        clear HB
        have HO231 := n0_
        have HO234 := n1_
        have HO239 := n2_
        have HO249 := n3_
        have HO253 := n4_
        have HO261 := n5_
        have HO269 := n6_
        have HO276 := n7_
        have BK223 := n8_
        have BK225 := n9_
        have BK257 := n10_
        have BK265 := n11_
        have HB := n12_
        clear n0_ n1_ n2_ n3_ n4_ n5_ n6_ n7_ n8_ n9_ n10_ n11_ n12_
        (try clear hb)
        (try clear hb2)
        (try clear hk)
        (try clear hi)
        (try clear ho0)
        refine hK.out _ _ ⟨(blk_cell BK257.out 0).trans rfl, (blk_cell BK257.out 1).trans rfl, (blk_cell BK257.out 2).trans rfl, (blk_cell BK257.out 3).trans rfl, (blk_cell BK265.out 0).trans rfl, (blk_cell BK265.out 1).trans rfl, (blk_cell BK265.out 2).trans rfl, (blk_cell BK265.out 3).trans rfl, (blk_cell BK225.out 0).trans rfl, (blk_cell BK225.out 1).trans rfl, (blk_cell BK225.out 2).trans rfl, (blk_cell BK225.out 3).trans rfl, (blk_cell BK223.out 0).trans rfl, (blk_cell BK223.out 1).trans rfl, (blk_cell BK223.out 2).trans rfl, (blk_cell BK223.out 3).trans rfl⟩ (fun hHeld => ?_)
        clear hK K
        refine norm_ (a' := ?_) ?_ ?_
        rotate_left
        ·show Act.put _ (some 68) _ = _
         simp only [Act.put, List.setIfInBounds_toArray, List.set_cons_zero, List.set_cons_succ, i64_w, i32_w]
         rfl
        refine one_ (i := 24) (N := some 70) (vb 33554431 28) rfl rfl (one_of HT_.out (by kernel_rfl)) (by decide) (fun K hK => ?_)
        refine goes_ Try.func32 (by kernel_rfl) rfl #[.agg #[.int .u64 a0_0, .slice A0_1 l0_1.length c0_1, .int .i64 a0_2, .string a0_3]] (by rfl) rfl rfl (by (try simp only [List.map_toArray, List.map_cons, List.map_nil]); first | done | rfl | (simp only [List.length_drop, List.length_take]; rfl)) ?_
        with_reducible refine (forebearlaw08_Commit.calls k a0_0 _ _ l0_1 a0_2 a0_3 t279 t280 t283 t284 _ ?side1 ?side2 A19.out).mono ?_
        (case side1 => repeat (first | exact (Kd.C_below HR0_1.out HB.out) | (with_reducible refine Kd.C_alloc ?_ _) | (with_reducible refine Kd.C_drewN ?_ _) | (with_reducible refine Kd.C_drew ?_)))
        (case side2 => exact HC0_1.out)
        rintro e w63 ⟨v281, rfl, ho0, hb⟩
        refine ⟨_, rfl, ?_⟩
        have n0_ := Aside0.mk (Kd.R_below (by (with_reducible repeat (first | apply Kd.R_alloc | apply Kd.R_drewN | apply Kd.R_drew)); exact HO231.out) hb)
        have n1_ := Aside0.mk (Kd.R_below (by (with_reducible repeat (first | apply Kd.R_alloc | apply Kd.R_drewN | apply Kd.R_drew)); exact HO234.out) hb)
        have n2_ := Aside0.mk (Kd.R_elder' (by (with_reducible repeat (first | apply Kd.R_alloc | apply Kd.R_drewN | apply Kd.R_drew)); exact HO239.out) (Kd.R_base ho0) hb)
        have n3_ := Aside0.mk (Kd.R_below (by (with_reducible repeat (first | apply Kd.R_alloc | apply Kd.R_drewN | apply Kd.R_drew)); exact HO249.out) hb)
        have n4_ := Aside0.mk (Kd.R_below (by (with_reducible repeat (first | apply Kd.R_alloc | apply Kd.R_drewN | apply Kd.R_drew)); exact HO253.out) hb)
        have n5_ := Aside0.mk (Kd.R_elder' (by (with_reducible repeat (first | apply Kd.R_alloc | apply Kd.R_drewN | apply Kd.R_drew)); exact HO261.out) (Kd.R_base ho0) hb)
        have n6_ := Aside0.mk (Kd.R_elder' (by (with_reducible repeat (first | apply Kd.R_alloc | apply Kd.R_drewN | apply Kd.R_drew)); exact HO269.out) (Kd.R_base ho0) hb)
        have n7_ := Aside0.mk (Kd.R_elder' (by (with_reducible repeat (first | apply Kd.R_alloc | apply Kd.R_drewN | apply Kd.R_drew)); exact HO276.out) (Kd.R_base ho0) hb)
        have n8_ := Aside0.mk (Kd.R_lower (Kd.R_new' (Kd.R_new' (Kd.R_new' (Kd.R_new' ho0 (Kd.R_lt (by (with_reducible repeat (first | apply Kd.R_alloc | apply Kd.R_drewN | apply Kd.R_drew)); exact HO239.out))) (Kd.R_lt (by (with_reducible repeat (first | apply Kd.R_alloc | apply Kd.R_drewN | apply Kd.R_drew)); exact HO261.out))) (Kd.R_lt (by (with_reducible repeat (first | apply Kd.R_alloc | apply Kd.R_drewN | apply Kd.R_drew)); exact HO269.out))) (Kd.R_lt (by (with_reducible repeat (first | apply Kd.R_alloc | apply Kd.R_drewN | apply Kd.R_drew)); exact HO276.out))) (below_size (by repeat (first | (with_reducible first | exact HB.out | apply below_alloc | apply pw_below_drewN | apply below_drew1 | refine below_set ?_ GE223.out | refine below_set ?_ GE225.out | refine below_set ?_ GE257.out | refine below_set ?_ GE265.out) | exact HB.out))))
        have n9_ := Aside0.mk (blk_below (g := gb223) (o := .cells #[.int .u64 a0_0, .slice A0_1 l0_1.length c0_1, .int .i64 a0_2, .string a0_3] 77 (0, 0)) (by (with_reducible repeat (first | refine blk_drewN ?_ _ | refine blk_drew ?_ | refine blk_alloc ?_ _)); exact BK223.out) hb)
        have n10_ := Aside0.mk (blk_below (g := gb225) (o := .cells #[.int .u64 a0_0, .slice Ao31 y229.length co31, .int .i64 a0_2, .string a0_3] 77 (0, 0)) (by (with_reducible repeat (first | refine blk_drewN ?_ _ | refine blk_drew ?_ | refine blk_alloc ?_ _)); exact BK225.out) hb)
        have n11_ := Aside0.mk (blk_below (g := gb257) (o := .cells #[.int .u64 t250, .slice Ao47 t251.length co47, .int .i64 t254, .string t255] 77 (0, 0)) (by (with_reducible repeat (first | refine blk_drewN ?_ _ | refine blk_drew ?_ | refine blk_alloc ?_ _)); exact BK257.out) hb)
        have n12_ := Aside0.mk (blk_below (g := gb265) (o := .cells #[.int .u64 t258, .slice Ao55 t259.length co55, .int .i64 t262, .string t263] 82 (0, 0)) (by (with_reducible repeat (first | refine blk_drewN ?_ _ | refine blk_drew ?_ | refine blk_alloc ?_ _)); exact BK265.out) hb)
        have n13_ := Aside0.mk (below_step (by repeat (first | (with_reducible first | exact HB.out | apply below_alloc | apply pw_below_drewN | apply below_drew1 | refine below_set ?_ GE223.out | refine below_set ?_ GE225.out | refine below_set ?_ GE257.out | refine below_set ?_ GE265.out) | exact HB.out)) hb)
        clear HO231
        clear HO234
        clear HO239
        clear HO249
        clear HO253
        clear HO261
        clear HO269
        clear HO276
        clear BK223
        clear BK225
        clear BK257
        clear BK265
        clear HB
        have HO231 := n0_
        have HO234 := n1_
        have HO239 := n2_
        have HO249 := n3_
        have HO253 := n4_
        have HO261 := n5_
        have HO269 := n6_
        have HO276 := n7_
        have HO282 := n8_
        have BK223 := n9_
        have BK225 := n10_
        have BK257 := n11_
        have BK265 := n12_
        have HB := n13_
        clear n0_ n1_ n2_ n3_ n4_ n5_ n6_ n7_ n8_ n9_ n10_ n11_ n12_ n13_
        (try clear hb)
        (try clear hb2)
        (try clear hk)
        (try clear hi)
        (try clear ho0)
        obtain ⟨Ao64, co64, eo64⟩ := Kd.R_slice HO276.out
        (first | subst eo64 | (injection eo64 with f1_ f2_ f3_; have f4_ := f1_.symm; have f5_ := f3_.symm; clear f1_ f2_ f3_; subst f4_; subst f5_))
        obtain ⟨Ao65, co65, eo65⟩ := Kd.R_slice HO282.out
        (first | subst eo65 | (injection eo65 with f1_ f2_ f3_; have f4_ := f1_.symm; have f5_ := f3_.symm; clear f1_ f2_ f3_; subst f4_; subst f5_))
        refine hK.out _ _ ⟨(blk_cell BK257.out 0).trans rfl, (blk_cell BK257.out 1).trans rfl, (blk_cell BK257.out 2).trans rfl, (blk_cell BK257.out 3).trans rfl, (blk_cell BK265.out 0).trans rfl, (blk_cell BK265.out 1).trans rfl, (blk_cell BK265.out 2).trans rfl, (blk_cell BK265.out 3).trans rfl, (blk_cell BK225.out 0).trans rfl, (blk_cell BK225.out 1).trans rfl, (blk_cell BK225.out 2).trans rfl, (blk_cell BK225.out 3).trans rfl, (blk_cell BK223.out 0).trans rfl, (blk_cell BK223.out 1).trans rfl, (blk_cell BK223.out 2).trans rfl, (blk_cell BK223.out 3).trans rfl⟩ (fun hHeld => ?_)
        clear hK K
        refine norm_ (a' := ?_) ?_ ?_
        rotate_left
        ·show Act.put _ (some 70) _ = _
         simp only [Act.put, List.setIfInBounds_toArray, List.set_cons_zero, List.set_cons_succ, i64_w, i32_w]
         rfl
        refine one_ (i := 25) (N := some 71) (vb 67108863 28) rfl rfl (one_of HT_.out (by kernel_rfl)) (by decide) (fun K hK => ?_)
        refine goes_ Try.func35 (by kernel_rfl) rfl #[.agg #[.int .u64 t273, .slice Ao64 t274.length co64, .int .i64 t277, .string t278], .agg #[.int .u64 t279, .slice Ao65 t280.length co65, .int .i64 t283, .string t284]] (by rfl) rfl rfl (by (try simp only [List.map_toArray, List.map_cons, List.map_nil]); first | done | rfl | (simp only [List.length_drop, List.length_take]; rfl)) ?_
        with_reducible refine (forebearref08_SameCommit.calls k t273 _ _ t274 t277 t278 t279 _ _ t280 t283 t284 t285 _ ?side1 ?side2 ?side3 ?side4 A20.out).mono ?_
        (case side1 => repeat (first | exact (Kd.R_reads' HO276.out).2.2 | (with_reducible refine Kd.C_alloc ?_ _) | (with_reducible refine Kd.C_drewN ?_ _) | (with_reducible refine Kd.C_drew ?_)))
        (case side2 => exact (Kd.R_reads' HO276.out).2.1)
        (case side3 => repeat (first | exact (Kd.R_reads' HO282.out).2.2 | (with_reducible refine Kd.C_alloc ?_ _) | (with_reducible refine Kd.C_drewN ?_ _) | (with_reducible refine Kd.C_drew ?_)))
        (case side4 => exact (Kd.R_reads' HO282.out).2.1)
        rintro e w66 ⟨rfl, hb⟩
        refine ⟨_, rfl, ?_⟩
        have n0_ := Aside0.mk (Kd.R_below (by (with_reducible repeat (first | apply Kd.R_alloc | apply Kd.R_drewN | apply Kd.R_drew)); exact HO231.out) hb)
        have n1_ := Aside0.mk (Kd.R_below (by (with_reducible repeat (first | apply Kd.R_alloc | apply Kd.R_drewN | apply Kd.R_drew)); exact HO234.out) hb)
        have n2_ := Aside0.mk (Kd.R_below (by (with_reducible repeat (first | apply Kd.R_alloc | apply Kd.R_drewN | apply Kd.R_drew)); exact HO239.out) hb)
        have n3_ := Aside0.mk (Kd.R_below (by (with_reducible repeat (first | apply Kd.R_alloc | apply Kd.R_drewN | apply Kd.R_drew)); exact HO249.out) hb)
        have n4_ := Aside0.mk (Kd.R_below (by (with_reducible repeat (first | apply Kd.R_alloc | apply Kd.R_drewN | apply Kd.R_drew)); exact HO253.out) hb)
        have n5_ := Aside0.mk (Kd.R_below (by (with_reducible repeat (first | apply Kd.R_alloc | apply Kd.R_drewN | apply Kd.R_drew)); exact HO261.out) hb)
        have n6_ := Aside0.mk (Kd.R_below (by (with_reducible repeat (first | apply Kd.R_alloc | apply Kd.R_drewN | apply Kd.R_drew)); exact HO269.out) hb)
        have n7_ := Aside0.mk (Kd.R_below (by (with_reducible repeat (first | apply Kd.R_alloc | apply Kd.R_drewN | apply Kd.R_drew)); exact HO276.out) hb)
        have n8_ := Aside0.mk (Kd.R_below (by (with_reducible repeat (first | apply Kd.R_alloc | apply Kd.R_drewN | apply Kd.R_drew)); exact HO282.out) hb)
        have n9_ := Aside0.mk (blk_below (g := gb223) (o := .cells #[.int .u64 a0_0, .slice A0_1 l0_1.length c0_1, .int .i64 a0_2, .string a0_3] 77 (0, 0)) (by (with_reducible repeat (first | refine blk_drewN ?_ _ | refine blk_drew ?_ | refine blk_alloc ?_ _)); exact BK223.out) hb)
        have n10_ := Aside0.mk (blk_below (g := gb225) (o := .cells #[.int .u64 a0_0, .slice Ao31 y229.length co31, .int .i64 a0_2, .string a0_3] 77 (0, 0)) (by (with_reducible repeat (first | refine blk_drewN ?_ _ | refine blk_drew ?_ | refine blk_alloc ?_ _)); exact BK225.out) hb)
        have n11_ := Aside0.mk (blk_below (g := gb257) (o := .cells #[.int .u64 t250, .slice Ao47 t251.length co47, .int .i64 t254, .string t255] 77 (0, 0)) (by (with_reducible repeat (first | refine blk_drewN ?_ _ | refine blk_drew ?_ | refine blk_alloc ?_ _)); exact BK257.out) hb)
        have n12_ := Aside0.mk (blk_below (g := gb265) (o := .cells #[.int .u64 t258, .slice Ao55 t259.length co55, .int .i64 t262, .string t263] 82 (0, 0)) (by (with_reducible repeat (first | refine blk_drewN ?_ _ | refine blk_drew ?_ | refine blk_alloc ?_ _)); exact BK265.out) hb)
        have n13_ := Aside0.mk (below_step (by repeat (first | (with_reducible first | exact HB.out | apply below_alloc | apply pw_below_drewN | apply below_drew1 | refine below_set ?_ GE223.out | refine below_set ?_ GE225.out | refine below_set ?_ GE257.out | refine below_set ?_ GE265.out) | exact HB.out)) hb)
        clear HO231
        clear HO234
        clear HO239
        clear HO249
        clear HO253
        clear HO261
        clear HO269
        clear HO276
        clear HO282
        clear BK223
        clear BK225
        clear BK257
        clear BK265
        clear HB
        have HO231 := n0_
        have HO234 := n1_
        have HO239 := n2_
        have HO249 := n3_
        have HO253 := n4_
        have HO261 := n5_
        have HO269 := n6_
        have HO276 := n7_
        have HO282 := n8_
        have BK223 := n9_
        have BK225 := n10_
        have BK257 := n11_
        have BK265 := n12_
        have HB := n13_
        clear n0_ n1_ n2_ n3_ n4_ n5_ n6_ n7_ n8_ n9_ n10_ n11_ n12_ n13_
        (try clear hb)
        (try clear hb2)
        (try clear hk)
        (try clear hi)
        refine hK.out _ _ ⟨(blk_cell BK257.out 0).trans rfl, (blk_cell BK257.out 1).trans rfl, (blk_cell BK257.out 2).trans rfl, (blk_cell BK257.out 3).trans rfl, (blk_cell BK265.out 0).trans rfl, (blk_cell BK265.out 1).trans rfl, (blk_cell BK265.out 2).trans rfl, (blk_cell BK265.out 3).trans rfl, (blk_cell BK225.out 0).trans rfl, (blk_cell BK225.out 1).trans rfl, (blk_cell BK225.out 2).trans rfl, (blk_cell BK225.out 3).trans rfl, (blk_cell BK223.out 0).trans rfl, (blk_cell BK223.out 1).trans rfl, (blk_cell BK223.out 2).trans rfl, (blk_cell BK223.out 3).trans rfl⟩ (fun hHeld => ?_)
        clear hK K
        refine norm_ (a' := ?_) ?_ ?_
        rotate_left
        ·show Act.put _ (some 71) _ = _
         simp only [Act.put, List.setIfInBounds_toArray, List.set_cons_zero, List.set_cons_succ, i64_w, i32_w]
         rfl
        refine pure_ (i := 26) (N := some 72) (v := ?_) (a' := ?_) (vb 134217727 28) rfl rfl (any_of HT_.out (by kernel_rfl)) (fun _ _ _ h => h) (Or.inl ⟨by rfl, ?_⟩) ?_ ?_
        rotate_left
        ·intro w'
         go_simp
         with_reducible rfl
        rotate_left
        ·simp only [Act.put, List.setIfInBounds_toArray, List.set_cons_zero, List.set_cons_succ, i64_w, i32_w]
         rfl
        refine pure_ (i := 27) (N := some 4) (v := ?_) (a' := ?_) (vb 268435455 28) rfl rfl (any_of HT_.out (by kernel_rfl)) (fun _ _ _ h => h) (Or.inl ⟨by rfl, ?_⟩) ?_ ?_
        rotate_left
        ·intro w'
         go_simp
         with_reducible rfl
        rotate_left
        ·simp only [Act.put, List.setIfInBounds_toArray, List.set_cons_zero, List.set_cons_succ, i64_w, i32_w]
         rfl
        refine done_ (done_of HT_.out (by kernel_rfl)) ?_
        try go_wp2
        go_ret
        exact ⟨by first | rfl | (simp [errW_none, errW_some] <;> rfl) | (simp [*, errW_none, errW_some] <;> rfl), by repeat (first | (with_reducible first | exact HB.out | apply below_alloc | apply pw_below_drewN | apply below_drew1 | refine below_set ?_ GE223.out | refine below_set ?_ GE225.out | refine below_set ?_ GE257.out | refine below_set ?_ GE265.out) | exact HB.out)⟩
       ·rw [if_neg c17] at H
        have c17b0 : (t256 == t264) = false := beq_eq_false_iff_ne.mpr c17
        have c17b1 : (t256 != t264) = true := bne_iff_ne.mpr c17
        exact absurd (Option.some.inj H) (by rw [HR_.out]; decide)
      ·replace c16 := Bool.eq_false_iff.mpr c16
       subst c16
       have H1 : (some false) = some r := by rw [if_neg (show ¬ (false = true) by decide)] at H; exact H
       clear H
       have H := H1
       clear H1
       exact absurd (Option.some.inj H) (by rw [HR_.out]; decide)
     ·rw [if_neg c13] at H
      have c13b0 : (t235 == t243) = false := beq_eq_false_iff_ne.mpr c13
      have c13b1 : (t235 != t243) = true := bne_iff_ne.mpr c13
      exact absurd (Option.some.inj H) (by rw [HR_.out]; decide)
    ·rw [if_neg c12] at H
     have c12b0 : ((strOfNums t232).toList == t242.toList) = false := beq_eq_false_iff_ne.mpr c12
     have c12b1 : ((strOfNums t232).toList != t242.toList) = true := bne_iff_ne.mpr c12
     exact absurd (Option.some.inj H) (by rw [HR_.out]; decide)
   ·rw [if_neg c9] at H
    exact absurd H (by simp)
  ·rw [if_neg c5] at H
   exact absurd H (by simp)
 ·replace c4 := Bool.eq_false_iff.mpr c4
  subst c4
  have H1 : (some false) = some r := by rw [if_neg (show ¬ (false = true) by decide)] at H; exact H
  clear H
  have H := H1
  clear H1
  exact absurd (Option.some.inj H) (by rw [HR_.out]; decide)
def gS77 (x : S77) : Prop := ((Lit.int .u64 x.f0).wf = true) ∧ ((x.f1.length * 8 ≤ 140737488351232 ∧ x.f1.length ≤ 9223372036854775807 ∧ ∀ y_xf1 ∈ x.f1, (Lit.int .u64 y_xf1).wf = true)) ∧ ((Lit.int .i64 x.f2).wf = true) ∧ x.f3.size ≤ 140737488351232
theorem oS77 : Opn Try.prog 77 k77 gS77 := opn_struct (fun x : S77 => (x.f0, x.f1, x.f2, x.f3)) (fun p => ⟨p.1, p.2.1, p.2.2.1, p.2.2.2⟩) (fun _ => rfl) Try.underlying77 (by kernel_rfl) (opnF_cons rfl (by kernel_rfl) (opn_int Try.underlying65) (opnF_cons rfl (by kernel_rfl) (opn_slice (B := 8) Try.underlying75 (by kernel_rfl) (by kernel_rfl) (opn_int Try.underlying65)) (opnF_cons rfl (by kernel_rfl) (opn_int Try.underlying2) (opnF_one rfl (by kernel_rfl) (opn_string Try.underlying9)))))
/-- THE ONE PURE STATEMENT of forebearlaw08_ObjectCommits. -/
def forebearlaw08_ObjectCommits.Pure : Prop := ∀ (x0 : S77) (l1 : List Int), gS77 x0 → (l1.length * 1 ≤ 140737488351232 ∧ l1.length ≤ 9223372036854775807 ∧ ∀ y_l1 ∈ l1, (Lit.int .u8 y_l1).wf = true) → ∃ k, forebearlaw08_ObjectCommits.f k x0.f0 x0.f1 x0.f2 x0.f3 l1 = some true
theorem forebearlaw08_ObjectCommits.walk (P : forebearlaw08_ObjectCommits.Pure) (x0 : S77) (l1 : List Int) (A0_1 : Option Addr) (c0_1 : Nat) (A1 : Option Addr) (c1 : Nat) (w : World) (g0 : gS77 x0) (g1 : (l1.length * 1 ≤ 140737488351232 ∧ l1.length ≤ 9223372036854775807 ∧ ∀ y_l1 ∈ l1, (Lit.int .u8 y_l1).wf = true)) (hc0_1 : x0.f1.length ≤ c0_1) (hr0_1 : Kd.C (Kd.int .u64) w A0_1 x0.f1.length x0.f1) (hc1 : l1.length ≤ c1) (hr1 : Kd.C (Kd.int .u8) w A1 l1.length l1) :
  Calls Try.prog 10 #[.agg #[.int .u64 x0.f0, .slice A0_1 x0.f1.length c0_1, .int .i64 x0.f2, .string x0.f3], .slice A1 l1.length c1] w fun e w' => e = .returned (.bool true) ∧ Below w.heap.size w w' := by
 obtain ⟨k, h⟩ := P x0 l1 g0 g1
 refine (forebearlaw08_ObjectCommits.calls k x0.f0 _ _ x0.f1 x0.f2 x0.f3 _ _ l1 true w hr0_1 hc0_1 hr1 hc1 h).mono ?_
 rintro e w' ⟨rfl, hd⟩
 exact ⟨rfl, hd⟩

end Go.Proofs.Ythigjlahanejjaa.MO

/- Laid by this claim's own program (myprint) out of the translation: functions that the laws of the group T reach, each as a plain function, with the proof that the Go code comes to it. No condition. -/
import Derived.Test.YtjnefjggmeieaaaWPlus
import Derived.Test.YtjnefjggmeieaaaMTx0
import Derived.Test.YtjnefjggmeieaaaMTx1
import Derived.Test.YtjnefjggmeieaaaMTx3
import Derived.Test.YtjnefjggmeieaaaMTx4
import Derived.Test.YtjnefjggmeieaaaMTx9
import Derived.Test.YtjnefjggmeieaaaMTx12
import Derived.Test.YtjnefjggmeieaaaMTx20
import Derived.Test.YtjnefjggmeieaaaMTx22
namespace Go.Proofs.Ytjnefjggmeieaaa.MT
open Go.Proofs.Ytjnefjggmeieaaa.Opening
open Go.RowKit Go.Proofs.YtjnefjggmeieaaaW.PrintWords Go.Proofs.YtjnefjggmeieaaaW.PrintLast Go.Proofs.YtjnefjggmeieaaaW.PrintMore
attribute [local go_sem] max2_int min2_int max_two min_two max_three min_three max_four min_four   -- for this text's walks alone
set_option linter.unusedVariables false
set_option linter.unusedSimpArgs false

attribute [local go_sem high] eqA51
/-! ### forebearlaw10_TreeParts: function 7 -/
mutual
def forebearlaw10_TreeParts.j0 : Nat → List (S38) → List (S38) → Int → List ByteArray → Bool → List ByteArray → Option (Bool)
 | 0, _, _, _, _, _, _ => none
 | k + 1, x0, x1, x3, x11, x42, x508000 => if x42 = true then (some true) else (if (IntKind.u64.wrap (wrap64 ((x11.length : Int) - 1))) = 0 then (none) else (if 0 ≤ (wrap64 (1 + (wrap64 (Int.tmod (IntKind.u64.wrap (x3)) (IntKind.u64.wrap (wrap64 ((x11.length : Int) - 1))))))) then (if (wrap64 (1 + (wrap64 (Int.tmod (IntKind.u64.wrap (x3)) (IntKind.u64.wrap (wrap64 ((x11.length : Int) - 1))))))) ≤ (x11.length : Int) then ((path_Limit.f k (x11.take ((wrap64 (1 + (wrap64 (Int.tmod (IntKind.u64.wrap (x3)) (IntKind.u64.wrap (wrap64 ((x11.length : Int) - 1))))))) : Int).toNat)).bind fun bt520 => ((path_Limit.f k (x11.drop ((wrap64 (1 + (wrap64 (Int.tmod (IntKind.u64.wrap (x3)) (IntKind.u64.wrap (wrap64 ((x11.length : Int) - 1))))))) : Int).toNat)).bind fun bt525 => (if bt520.2 = 0 then (forebearlaw10_TreeParts.j1 k x0 x1 (bt525.2 != 0) x508000 bt520.1 bt525.1) else (forebearlaw10_TreeParts.j1 k x0 x1 true x508000 bt520.1 bt525.1)))) else (none)) else (none)))
def forebearlaw10_TreeParts.j1 : Nat → List (S38) → List (S38) → Bool → List ByteArray → List ByteArray → List ByteArray → Option (Bool)
 | 0, _, _, _, _, _, _ => none
 | k + 1, x0, x1, x71, x508000, x525000, x530000 => if x71 = true then (some false) else ((tree_Diff.f k x0 x1 x508000).bind fun t530 => ((tree_Diff.f k x0 x1 x525000).bind fun t533 => ((tree_Diff.f k x0 x1 x530000).bind fun t536 => (if t533.length + t536.length < 4398046511104 then ((some (t533 ++ t536 : List (S51))).bind fun y539 => (if (y539.length : Int) = (t530.length : Int) then (forebearlaw10_TreeParts.l0 k t530 y539 0 x508000 x525000 x530000) else (some false))) else (none)))))
def forebearlaw10_TreeParts.l0 : Nat → List (S51) → List (S51) → Int → List ByteArray → List ByteArray → List ByteArray → Option (Bool)
 | 0, _, _, _, _, _, _ => none
 | k + 1, x16, x17, x18, x508000, x525000, x530000 => if x18 < (x16.length : Int) then (forebearlaw10_TreeParts.l1 k x16 x17 x18 false 0 x508000 x525000 x530000) else (some true)
def forebearlaw10_TreeParts.l1 : Nat → List (S51) → List (S51) → Int → Bool → Int → List ByteArray → List ByteArray → List ByteArray → Option (Bool)
 | 0, _, _, _, _, _, _, _, _ => none
 | k + 1, x16, x17, x18, x19, x20, x508000, x525000, x530000 => if x20 < (x17.length : Int) then (if x19 = true then (forebearlaw10_TreeParts.l1 k x16 x17 x18 true (wrap64 (x20 + 1)) x508000 x525000 x530000) else (if 0 ≤ x20 then (if 0 ≤ x18 then (if x18 < (x16.length : Int) then (forebearlaw10_TreeParts.l1 k x16 x17 x18 ((((rd_T51 x17 x20).f0).toList) == (((rd_T51 x16 x18).f0).toList) && (((rd_T51 x17 x20).f1) == ((rd_T51 x16 x18).f1) && (((rd_T51 x17 x20).f2) == ((rd_T51 x16 x18).f2)))) (wrap64 (x20 + 1)) x508000 x525000 x530000) else (none)) else (none)) else (none))) else (if x19 = true then (if 0 ≤ x18 then (if x18 < (x16.length : Int) then ((path_Set_Has.f k x508000 ((rd_T51 x16 x18).f0)).bind fun t545 => (if t545 = true then ((path_Set_Has.f k x525000 ((rd_T51 x16 x18).f0)).bind fun t547 => ((path_Set_Has.f k x530000 ((rd_T51 x16 x18).f0)).bind fun t549 => (if (t547 == t549) = true then (some false) else (forebearlaw10_TreeParts.l0 k x16 x17 (wrap64 (x18 + 1)) x508000 x525000 x530000)))) else (some false))) else (none)) else (none)) else (some false))
end
def forebearlaw10_TreeParts.f (k : Nat) (l0 : List (S38)) (l1 : List (S38)) (l2 : List ByteArray) (a3 : Int) : Option (Bool) := (forebearlaw10_awake.f k).bind fun t502 => (if t502 = true then ((path_Limit.f k l2).bind fun bt503 => ((path_Set_Paths.f bt503.1).bind fun t508 => (if bt503.2 = 0 then ((forebearlaw10_right.f k l0 l1).bind fun t511 => (if t511 = true then (forebearlaw10_TreeParts.j0 k l0 l1 a3 t508 (decide ((t508.length : Int) < 2)) bt503.1) else (forebearlaw10_TreeParts.j0 k l0 l1 a3 t508 true bt503.1))) else (forebearlaw10_TreeParts.j0 k l0 l1 a3 t508 true bt503.1)))) else (some false))
theorem forebearlaw10_TreeParts.mono_l : ∀ k, (∀ y0 y1 y2 y3 y4 y5, LeO (forebearlaw10_TreeParts.j0 k y0 y1 y2 y3 y4 y5) (forebearlaw10_TreeParts.j0 (k + 1) y0 y1 y2 y3 y4 y5)) ∧ (∀ y0 y1 y2 y3 y4 y5, LeO (forebearlaw10_TreeParts.j1 k y0 y1 y2 y3 y4 y5) (forebearlaw10_TreeParts.j1 (k + 1) y0 y1 y2 y3 y4 y5)) ∧ (∀ y0 y1 y2 y3 y4 y5, LeO (forebearlaw10_TreeParts.l0 k y0 y1 y2 y3 y4 y5) (forebearlaw10_TreeParts.l0 (k + 1) y0 y1 y2 y3 y4 y5)) ∧ (∀ y0 y1 y2 y3 y4 y5 y6 y7, LeO (forebearlaw10_TreeParts.l1 k y0 y1 y2 y3 y4 y5 y6 y7) (forebearlaw10_TreeParts.l1 (k + 1) y0 y1 y2 y3 y4 y5 y6 y7))
 | 0 => ⟨fun _ _ _ _ _ _ r h => by simp [forebearlaw10_TreeParts.j0] at h, fun _ _ _ _ _ _ r h => by simp [forebearlaw10_TreeParts.j1] at h, fun _ _ _ _ _ _ r h => by simp [forebearlaw10_TreeParts.l0] at h, fun _ _ _ _ _ _ _ _ r h => by simp [forebearlaw10_TreeParts.l1] at h⟩
 | k + 1 => by
  obtain ⟨ih0, ih1, ih2, ih3⟩ := forebearlaw10_TreeParts.mono_l k
  refine ⟨?_, ?_, ?_, ?_⟩
  ·intro y0 y1 y2 y3 y4 y5
   unfold forebearlaw10_TreeParts.j0
   repeat' first
   | (with_reducible exact ih0 _ _ _ _ _ _)
   | (with_reducible exact ih1 _ _ _ _ _ _)
   | (with_reducible exact ih2 _ _ _ _ _ _)
   | (with_reducible exact ih3 _ _ _ _ _ _ _ _)
   | (with_reducible exact forebearlaw10_awake.mono _)
   | (with_reducible exact forebearlaw10_right.mono _ _ _)
   | (with_reducible exact path_Limit.mono _ _)
   | (with_reducible exact path_Set_Has.mono _ _ _)
   | (with_reducible exact tree_Diff.mono _ _ _ _)
   | (with_reducible exact LeO.refl _)
   | (with_reducible exact LeO.none _)
   | (with_reducible refine LeO.ite ?_ ?_)
   | (with_reducible refine LeO.bind ?_ (fun _ => ?_))
   | exact ih0 _ _ _ _ _ _
   | exact ih1 _ _ _ _ _ _
   | exact ih2 _ _ _ _ _ _
   | exact ih3 _ _ _ _ _ _ _ _
   | exact forebearlaw10_awake.mono _
   | exact forebearlaw10_right.mono _ _ _
   | exact path_Limit.mono _ _
   | exact path_Set_Has.mono _ _ _
   | exact tree_Diff.mono _ _ _ _
   | exact LeO.none _
   | refine LeO.ite ?_ ?_
   | refine LeO.bind ?_ (fun _ => ?_)
  ·intro y0 y1 y2 y3 y4 y5
   unfold forebearlaw10_TreeParts.j1
   repeat' first
   | (with_reducible exact ih0 _ _ _ _ _ _)
   | (with_reducible exact ih1 _ _ _ _ _ _)
   | (with_reducible exact ih2 _ _ _ _ _ _)
   | (with_reducible exact ih3 _ _ _ _ _ _ _ _)
   | (with_reducible exact forebearlaw10_awake.mono _)
   | (with_reducible exact forebearlaw10_right.mono _ _ _)
   | (with_reducible exact path_Limit.mono _ _)
   | (with_reducible exact path_Set_Has.mono _ _ _)
   | (with_reducible exact tree_Diff.mono _ _ _ _)
   | (with_reducible exact LeO.refl _)
   | (with_reducible exact LeO.none _)
   | (with_reducible refine LeO.ite ?_ ?_)
   | (with_reducible refine LeO.bind ?_ (fun _ => ?_))
   | exact ih0 _ _ _ _ _ _
   | exact ih1 _ _ _ _ _ _
   | exact ih2 _ _ _ _ _ _
   | exact ih3 _ _ _ _ _ _ _ _
   | exact forebearlaw10_awake.mono _
   | exact forebearlaw10_right.mono _ _ _
   | exact path_Limit.mono _ _
   | exact path_Set_Has.mono _ _ _
   | exact tree_Diff.mono _ _ _ _
   | exact LeO.none _
   | refine LeO.ite ?_ ?_
   | refine LeO.bind ?_ (fun _ => ?_)
  ·intro y0 y1 y2 y3 y4 y5
   unfold forebearlaw10_TreeParts.l0
   repeat' first
   | (with_reducible exact ih0 _ _ _ _ _ _)
   | (with_reducible exact ih1 _ _ _ _ _ _)
   | (with_reducible exact ih2 _ _ _ _ _ _)
   | (with_reducible exact ih3 _ _ _ _ _ _ _ _)
   | (with_reducible exact forebearlaw10_awake.mono _)
   | (with_reducible exact forebearlaw10_right.mono _ _ _)
   | (with_reducible exact path_Limit.mono _ _)
   | (with_reducible exact path_Set_Has.mono _ _ _)
   | (with_reducible exact tree_Diff.mono _ _ _ _)
   | (with_reducible exact LeO.refl _)
   | (with_reducible exact LeO.none _)
   | (with_reducible refine LeO.ite ?_ ?_)
   | (with_reducible refine LeO.bind ?_ (fun _ => ?_))
   | exact ih0 _ _ _ _ _ _
   | exact ih1 _ _ _ _ _ _
   | exact ih2 _ _ _ _ _ _
   | exact ih3 _ _ _ _ _ _ _ _
   | exact forebearlaw10_awake.mono _
   | exact forebearlaw10_right.mono _ _ _
   | exact path_Limit.mono _ _
   | exact path_Set_Has.mono _ _ _
   | exact tree_Diff.mono _ _ _ _
   | exact LeO.none _
   | refine LeO.ite ?_ ?_
   | refine LeO.bind ?_ (fun _ => ?_)
  ·intro y0 y1 y2 y3 y4 y5 y6 y7
   unfold forebearlaw10_TreeParts.l1
   repeat' first
   | (with_reducible exact ih0 _ _ _ _ _ _)
   | (with_reducible exact ih1 _ _ _ _ _ _)
   | (with_reducible exact ih2 _ _ _ _ _ _)
   | (with_reducible exact ih3 _ _ _ _ _ _ _ _)
   | (with_reducible exact forebearlaw10_awake.mono _)
   | (with_reducible exact forebearlaw10_right.mono _ _ _)
   | (with_reducible exact path_Limit.mono _ _)
   | (with_reducible exact path_Set_Has.mono _ _ _)
   | (with_reducible exact tree_Diff.mono _ _ _ _)
   | (with_reducible exact LeO.refl _)
   | (with_reducible exact LeO.none _)
   | (with_reducible refine LeO.ite ?_ ?_)
   | (with_reducible refine LeO.bind ?_ (fun _ => ?_))
   | exact ih0 _ _ _ _ _ _
   | exact ih1 _ _ _ _ _ _
   | exact ih2 _ _ _ _ _ _
   | exact ih3 _ _ _ _ _ _ _ _
   | exact forebearlaw10_awake.mono _
   | exact forebearlaw10_right.mono _ _ _
   | exact path_Limit.mono _ _
   | exact path_Set_Has.mono _ _ _
   | exact tree_Diff.mono _ _ _ _
   | exact LeO.none _
   | refine LeO.ite ?_ ?_
   | refine LeO.bind ?_ (fun _ => ?_)
theorem forebearlaw10_TreeParts.mono : ∀ a0 a1 a2 a3 k, LeO (forebearlaw10_TreeParts.f k a0 a1 a2 a3) (forebearlaw10_TreeParts.f (k + 1) a0 a1 a2 a3) := by
 intro a0 a1 a2 a3 k
 obtain ⟨ih0, ih1, ih2, ih3⟩ := forebearlaw10_TreeParts.mono_l k
 unfold forebearlaw10_TreeParts.f
 repeat' first
   | (with_reducible exact ih0 _ _ _ _ _ _)
   | (with_reducible exact ih1 _ _ _ _ _ _)
   | (with_reducible exact ih2 _ _ _ _ _ _)
   | (with_reducible exact ih3 _ _ _ _ _ _ _ _)
   | (with_reducible exact forebearlaw10_awake.mono _)
   | (with_reducible exact forebearlaw10_right.mono _ _ _)
   | (with_reducible exact path_Limit.mono _ _)
   | (with_reducible exact path_Set_Has.mono _ _ _)
   | (with_reducible exact tree_Diff.mono _ _ _ _)
   | (with_reducible exact LeO.refl _)
   | (with_reducible exact LeO.none _)
   | (with_reducible refine LeO.ite ?_ ?_)
   | (with_reducible refine LeO.bind ?_ (fun _ => ?_))
   | exact ih0 _ _ _ _ _ _
   | exact ih1 _ _ _ _ _ _
   | exact ih2 _ _ _ _ _ _
   | exact ih3 _ _ _ _ _ _ _ _
   | exact forebearlaw10_awake.mono _
   | exact forebearlaw10_right.mono _ _ _
   | exact path_Limit.mono _ _
   | exact path_Set_Has.mono _ _ _
   | exact tree_Diff.mono _ _ _ _
   | exact LeO.none _
   | refine LeO.ite ?_ ?_
   | refine LeO.bind ?_ (fun _ => ?_)
def forebearlaw10_TreeParts.T13 : Bool × List (List Nat × List Nat) := (true, [([], []), ([], []), ([], []), ([0, 1, 2], [0, 1, 2]), ([], []), ([], []), ([], []), ([4, 5, 6, 3], [4, 5, 6]), ([3, 7, 7], [3, 7]), ([8, 8, 0, 1, 2, 3, 4, 5, 6, 7, 8], [8])])
def forebearlaw10_TreeParts.B13 : List Nat := [0, 0, 0, 7, 0, 0, 0, 127, 255, 511]
theorem forebearlaw10_TreeParts.tab13 : rtab .any (opsOf Try.f7 13) = forebearlaw10_TreeParts.T13 := by kernel_rfl
theorem forebearlaw10_TreeParts.bits13 : waitsOk forebearlaw10_TreeParts.T13.2 forebearlaw10_TreeParts.B13 = true := by kernel_rfl
def forebearlaw10_TreeParts.T23 : Bool × List (List Nat × List Nat) := (true, [([], []), ([0], [0]), ([1], [1]), ([1], [1]), ([2, 3, 1], [1, 2, 3]), ([4, 1], [1, 4]), ([1], [1]), ([1], [1]), ([6, 7, 1], [1, 6, 7]), ([8, 1], [1, 8]), ([5, 9, 1], [1, 5, 9]), ([1, 10], [1, 10]), ([11, 1, 0, 1, 2, 3, 4, 5, 6, 7, 8, 9, 10, 11], [0, 11])])
def forebearlaw10_TreeParts.B23 : List Nat := [0, 1, 3, 3, 15, 31, 3, 3, 195, 451, 1023, 2047, 4095]
theorem forebearlaw10_TreeParts.tab23 : rtab .any (opsOf Try.f7 23) = forebearlaw10_TreeParts.T23 := by kernel_rfl
theorem forebearlaw10_TreeParts.bits23 : waitsOk forebearlaw10_TreeParts.T23.2 forebearlaw10_TreeParts.B23 = true := by kernel_rfl
def forebearlaw10_TreeParts.T24 : Bool × List (List Nat × List Nat) := (true, [([], []), ([0], [0]), ([1], [1]), ([2], [2]), ([2], [2]), ([2], [2]), ([4, 5, 2], [2, 4, 5]), ([6, 2], [2, 6]), ([7, 2], [2, 7]), ([3, 8, 2, 2], [2, 3, 8]), ([9, 2], [2, 9]), ([2, 10], [2, 10]), ([11, 9], [11]), ([12], [12]), ([12], [12]), ([12], [12]), ([14, 15, 12], [12, 14, 15]), ([16, 12], [12, 16]), ([17, 12], [12, 17]), ([13, 18, 12, 12], [12, 13, 18]), ([12], [12]), ([12], [12]), ([12], [12]), ([21, 22, 12], [12, 21, 22]), ([23, 12], [12, 23]), ([24, 12], [12, 24]), ([20, 25, 19, 12], [12, 20, 25]), ([19, 26, 12], [12, 19, 26]), ([12, 27], [12, 27])])
def forebearlaw10_TreeParts.B24 : List Nat := [0, 1, 3, 7, 7, 7, 55, 119, 247, 511, 1023, 2047, 4095, 8191, 8191, 8191, 57343, 122879, 253951, 524287, 8191, 8191, 8191, 6299647, 14688255, 31465471, 67108863, 134217727, 268435455]
theorem forebearlaw10_TreeParts.tab24 : rtab .any (opsOf Try.f7 24) = forebearlaw10_TreeParts.T24 := by kernel_rfl
theorem forebearlaw10_TreeParts.bits24 : waitsOk forebearlaw10_TreeParts.T24.2 forebearlaw10_TreeParts.B24 = true := by kernel_rfl
set_option maxHeartbeats 8000000 in
set_option maxRecDepth 100000 in
theorem forebearlaw10_TreeParts.calls (k : Nat) (A0 : Option Addr) (c0 : Nat) (l0 : List (S38)) (A1 : Option Addr) (c1 : Nat) (l1 : List (S38)) (A2 : Option Addr) (c2 : Nat) (l2 : List ByteArray) (a3 : Int) (r : Bool) (w : World) (hr0 : Kd.C k38 w A0 l0.length l0) (hc0 : l0.length ≤ c0) (hr1 : Kd.C k38 w A1 l1.length l1) (hc1 : l1.length ≤ c1) (hr2 : Kd.C Kd.string w A2 l2.length l2) (hc2 : l2.length ≤ c2) (h : forebearlaw10_TreeParts.f k l0 l1 l2 a3 = some r) (hr_ : r = true := by rfl) :
  Calls Try.prog 7 #[.slice A0 l0.length c0, .slice A1 l1.length c1, .slice A2 l2.length c2, .int .i64 a3] w fun e w' => e = .returned (.bool r) ∧ Below w.heap.size w w' := by
 have hu46 := Try.underlying46
 have hu51 := Try.underlying51
 have HR0 := Aside0.mk hr0
 have HC0 := Aside0.mk hc0
 clear hr0 hc0
 have HR1 := Aside0.mk hr1
 have HC1 := Aside0.mk hc1
 clear hr1 hc1
 have HR2 := Aside0.mk hr2
 have HC2 := Aside0.mk hc2
 clear hr2 hc2
 have HB := Aside0.mk (Below.refl w.heap.size w)
 have HR_ := Aside0.mk hr_
 clear hr_
 have H : ((forebearlaw10_awake.f k).bind fun t502 => (if t502 = true then ((path_Limit.f k l2).bind fun bt503 => ((path_Set_Paths.f bt503.1).bind fun t508 => (if bt503.2 = 0 then ((forebearlaw10_right.f k l0 l1).bind fun t511 => (if t511 = true then (forebearlaw10_TreeParts.j0 k l0 l1 a3 t508 (decide ((t508.length : Int) < 2)) bt503.1) else (forebearlaw10_TreeParts.j0 k l0 l1 a3 t508 true bt503.1))) else (forebearlaw10_TreeParts.j0 k l0 l1 a3 t508 true bt503.1)))) else (some false))) = some r := h
 clear h
 replace H := Option.bind_eq_some_iff.mp H
 obtain ⟨t502, A50, H⟩ := H
 replace H : (if t502 = true then ((path_Limit.f k l2).bind fun bt503 => ((path_Set_Paths.f bt503.1).bind fun t508 => (if bt503.2 = 0 then ((forebearlaw10_right.f k l0 l1).bind fun t511 => (if t511 = true then (forebearlaw10_TreeParts.j0 k l0 l1 a3 t508 (decide ((t508.length : Int) < 2)) bt503.1) else (forebearlaw10_TreeParts.j0 k l0 l1 a3 t508 true bt503.1))) else (forebearlaw10_TreeParts.j0 k l0 l1 a3 t508 true bt503.1)))) else (some false)) = some r := H
 have A5 := Aside0.mk A50
 clear A50
 by_cases c6 : t502 = true
 ·subst c6
  have H1 : ((path_Limit.f k l2).bind fun bt503 => ((path_Set_Paths.f bt503.1).bind fun t508 => (if bt503.2 = 0 then ((forebearlaw10_right.f k l0 l1).bind fun t511 => (if t511 = true then (forebearlaw10_TreeParts.j0 k l0 l1 a3 t508 (decide ((t508.length : Int) < 2)) bt503.1) else (forebearlaw10_TreeParts.j0 k l0 l1 a3 t508 true bt503.1))) else (forebearlaw10_TreeParts.j0 k l0 l1 a3 t508 true bt503.1)))) = some r := by rw [if_pos rfl] at H; exact H
  clear H
  have H := H1
  clear H1
  replace H := Option.bind_eq_some_iff.mp H
  obtain ⟨⟨t503, t506⟩, A70, H⟩ := H
  replace H : ((path_Set_Paths.f t503).bind fun t508 => (if t506 = 0 then ((forebearlaw10_right.f k l0 l1).bind fun t511 => (if t511 = true then (forebearlaw10_TreeParts.j0 k l0 l1 a3 t508 (decide ((t508.length : Int) < 2)) t503) else (forebearlaw10_TreeParts.j0 k l0 l1 a3 t508 true t503))) else (forebearlaw10_TreeParts.j0 k l0 l1 a3 t508 true t503))) = some r := H
  have A7 := Aside0.mk A70
  clear A70
  replace H := Option.bind_eq_some_iff.mp H
  obtain ⟨t508, A80, H⟩ := H
  replace H : (if t506 = 0 then ((forebearlaw10_right.f k l0 l1).bind fun t511 => (if t511 = true then (forebearlaw10_TreeParts.j0 k l0 l1 a3 t508 (decide ((t508.length : Int) < 2)) t503) else (forebearlaw10_TreeParts.j0 k l0 l1 a3 t508 true t503))) else (forebearlaw10_TreeParts.j0 k l0 l1 a3 t508 true t503)) = some r := H
  have A8 := Aside0.mk A80
  clear A80
  have HC9 := Aside0.mk H
  clear H
  go_enter Try.func7, Try.ntmps7
  go_upto_region 5 with (first | ((with_reducible refine gate_callee (f := 8) rfl ?_); refine goesL_ (some 21) rfl rfl Try.func8 (by kernel_rfl) rfl #[] rfl (by (try simp only [List.map_toArray, List.map_cons, List.map_nil]); first | done | rfl | (simp only [List.length_drop, List.length_take]; rfl)) ?_; (with_reducible refine (forebearlaw10_awake.calls k  true _ A5.out).mono ?_); rintro e w10 ⟨rfl, hb⟩; refine ⟨_, rfl, ?_⟩; have n0_ := Aside0.mk (below_step (by repeat (first | (with_reducible first | exact HB.out | apply below_alloc | apply pw_below_drewN | apply below_drew1) | exact HB.out)) hb); clear HB; have HB := n0_; clear n0_; (try clear hb); (try clear hb2); (try clear hk); (try clear hi)) | ((with_reducible refine gate_callee (f := 22) rfl ?_); refine goesL_ (some 25) rfl rfl Try.func22 (by kernel_rfl) rfl #[.slice A2 l2.length c2] rfl (by (try simp only [List.map_toArray, List.map_cons, List.map_nil]); first | done | rfl | (simp only [List.length_drop, List.length_take]; rfl)) ?_; (with_reducible refine (path_Limit.calls k _ _ l2 t503 t506 _ ?side1 ?side2 A7.out).mono ?_); (case side1 => repeat (first | exact (Kd.C_below HR2.out HB.out) | (with_reducible refine Kd.C_alloc ?_ _) | (with_reducible refine Kd.C_drewN ?_ _) | (with_reducible refine Kd.C_drew ?_))); (case side2 => exact HC2.out); rintro e w11 ⟨v504, rfl, ho0, hb⟩; refine ⟨_, rfl, ?_⟩; have n0_ := Aside0.mk (Kd.R_lower ho0 (below_size (by repeat (first | (with_reducible first | exact HB.out | apply below_alloc | apply pw_below_drewN | apply below_drew1) | exact HB.out)))); have n1_ := Aside0.mk (below_step (by repeat (first | (with_reducible first | exact HB.out | apply below_alloc | apply pw_below_drewN | apply below_drew1) | exact HB.out)) hb); clear HB; have HO505 := n0_; have HB := n1_; clear n0_ n1_; (try clear hb); (try clear hb2); (try clear hk); (try clear hi); (try clear ho0)) | ((with_reducible refine gate_dst (N := 9) rfl ?_); (try (refine gate_guard (by rfl) ?_; dsimp only)); refine box_event ?hg (N := 9) ?hd (cs := #[.slice none 0 0]) (t := 46) ?hr ?_; (case hd => rfl); (case hg => rfl); (case hr => first | (go_simp; done) | (go_simp; rfl)); intro gb507 hg w12 hbox hb; have n0_ := Aside0.mk (Kd.R_below (by (with_reducible repeat (first | apply Kd.R_alloc | apply Kd.R_drewN | apply Kd.R_drew)); exact HO505.out) hb); have n1_ := Aside0.mk (below_step (by repeat (first | (with_reducible first | exact HB.out | apply below_alloc | apply pw_below_drewN | apply below_drew1) | exact HB.out)) hb); have n2_ := Aside0.mk (hbox); have n3_ := Aside0.mk ((by rw [hg]; exact (below_size (by repeat (first | (with_reducible first | exact HB.out | apply below_alloc | apply pw_below_drewN | apply below_drew1) | exact HB.out))) : w.heap.size ≤ gb507)); have n4_ := Aside0.mk ((by rw [hg]; exact (below_size (by repeat (first | (with_reducible first | exact HB.out | apply below_alloc | apply pw_below_drewN | apply below_drew1) | exact HB.out))) : w.heap.size ≤ gb507)); clear HO505; clear HB; have HO505 := n0_; have HB := n1_; have BK507 := n2_; have GW507 := n3_; have GE507 := n4_; clear n0_ n1_ n2_ n3_ n4_; clear hb hbox hg; obtain ⟨Ao13, co13, eo13⟩ := Kd.R_slice HO505.out; subst eo13; have hcz14_0 : w12.cell? ⟨gb507, 0, none⟩ = some (.slice none 0 0) := (blk_cell BK507.out 0).trans rfl; have hfz14_0 := blk_frozen BK507.out 0) | ((with_reducible refine gate_callee (f := 24) rfl ?_); refine goesL_ (some 29) rfl rfl Try.func24 (by kernel_rfl) rfl #[.agg #[.slice Ao13 t503.length co13]] rfl (by (try simp only [List.map_toArray, List.map_cons, List.map_nil]); first | done | rfl | (simp only [List.length_drop, List.length_take]; rfl)) ?_; (with_reducible refine (path_Set_Paths.calls _ _ t503 t508 _ ?side1 ?side2 A8.out).mono ?_); (case side1 => refine (Kd.R_reads' (e := 9) (base := w.heap.size) (ok := fun k_ => True) (n := t503.length) (c := co13) ?_).2.2; exact (by (with_reducible repeat (first | apply Kd.R_alloc | apply Kd.R_drewN | apply Kd.R_drew)); exact (Kd.R_mono (Kd.R_far (p := ⟨gb507, 0, none⟩) (Kd.R_types HO505.out BK507.out (by decide)) (fun _ hk => hk.2) (.slice Ao13 t503.length co13)) (fun _ h_ => h_.1)))); (case side2 => exact (Kd.R_reads' HO505.out).2.1); rintro e w15 ⟨v509, rfl, ho0, hb⟩; refine ⟨_, rfl, ?_⟩; have n0_ := Aside0.mk (Kd.R_elder' (by (with_reducible repeat (first | apply Kd.R_alloc | apply Kd.R_drewN | apply Kd.R_drew)); exact (Kd.R_mono (Kd.R_far (p := ⟨gb507, 0, none⟩) (Kd.R_types HO505.out BK507.out (by decide)) (fun _ hk => hk.2) (.slice Ao13 t503.length co13)) (fun _ h_ => h_.1))) (Kd.R_base ho0) hb); have n1_ := Aside0.mk (Kd.R_lower (Kd.R_new' ho0 (Kd.R_lt (by (with_reducible repeat (first | apply Kd.R_alloc | apply Kd.R_drewN | apply Kd.R_drew)); exact (Kd.R_mono (Kd.R_far (p := ⟨gb507, 0, none⟩) (Kd.R_types HO505.out BK507.out (by decide)) (fun _ hk => hk.2) (.slice Ao13 t503.length co13)) (fun _ h_ => h_.1))))) (below_size (by repeat (first | (with_reducible first | exact HB.out | apply below_alloc | apply pw_below_drewN | apply below_drew1 | refine below_set ?_ GE507.out) | exact HB.out)))); have n2_ := Aside0.mk (blk_below (g := gb507) (o := .cells #[.slice Ao13 t503.length co13] 46 (0, 0)) (by (with_reducible repeat (first | refine blk_drewN ?_ _ | refine blk_drew ?_ | refine blk_alloc ?_ _)); refine blk_put (cs := #[.slice none 0 0]) ?_ 0 _ rfl; (with_reducible repeat (first | refine blk_drewN ?_ _ | refine blk_drew ?_ | refine blk_alloc ?_ _)); exact BK507.out) hb); have n3_ := Aside0.mk (below_step (by repeat (first | (with_reducible first | exact HB.out | apply below_alloc | apply pw_below_drewN | apply below_drew1 | refine below_set ?_ GE507.out) | exact HB.out)) hb); clear HO505; clear BK507; clear HB; have HO505 := n0_; have HO510 := n1_; have BK507 := n2_; have HB := n3_; clear n0_ n1_ n2_ n3_; (try clear hb); (try clear hb2); (try clear hk); (try clear hi); (try clear ho0)))
  (try simp only [Act.put, List.setIfInBounds_toArray, List.set_cons_zero, List.set_cons_succ])
  go_cut [42] (fun v42 wc => ∃ (kq : Nat) (x42_8 : Bool), v42 = .bool x42_8 ∧ Aside0 (forebearlaw10_TreeParts.j0 kq l0 l1 a3 t508 x42_8 t503 = some r) ∧ Aside0 (kq ≤ k) ∧ Aside0 (Kd.R Kd.string 9 wc w.heap.size (fun k_ => some k_ ≠ ((.slice Ao13 t503.length co13) : Value).ownBlock) v509 t508) ∧ Aside0 (Kd.R Kd.string 9 wc w.heap.size (fun k_ => some k_ ≠ (v509 : Value).ownBlock) (.slice Ao13 t503.length co13) t503) ∧ Aside0 (wc.heap[gb507]? = some (.cells #[(.slice Ao13 t503.length co13)] 46 (0, 0))) ∧ Aside0 (Below w.heap.size w wc))
  case first =>
   have H := HC9.out
   clear HC9
   by_cases c16 : t506 = 0
   ·rw [if_pos c16] at H
    have c16b0 : (t506 == 0) = true := beq_iff_eq.mpr c16
    have c16b1 : (t506 != 0) = false := bne_eq_false_iff_eq.mpr c16
    clear c16
    (first | rw [c16b0] | (simp only [i64_w, i32_w]; rw [c16b0]) | skip)
    replace H := Option.bind_eq_some_iff.mp H
    obtain ⟨t511, A170, H⟩ := H
    replace H : (if t511 = true then (forebearlaw10_TreeParts.j0 k l0 l1 a3 t508 (decide ((t508.length : Int) < 2)) t503) else (forebearlaw10_TreeParts.j0 k l0 l1 a3 t508 true t503)) = some r := H
    have A17 := Aside0.mk A170
    clear A170
    by_cases c18 : t511 = true
    ·subst c18
     have H1 : (forebearlaw10_TreeParts.j0 k l0 l1 a3 t508 (decide ((t508.length : Int) < 2)) t503) = some r := by rw [if_pos rfl] at H; exact H
     clear H
     have H := H1
     clear H1
     have H' := Aside0.mk H
     clear H
     go_wp2_with (first | (go_at_call 9; (with_reducible refine (forebearlaw10_right.calls k _ _ l0 _ _ l1 true _ ?side1 ?side2 ?side3 ?side4 A17.out).mono ?_); (case side1 => repeat (first | exact (Kd.C_below HR0.out HB.out) | (with_reducible refine Kd.C_alloc ?_ _) | (with_reducible refine Kd.C_drewN ?_ _) | (with_reducible refine Kd.C_drew ?_))); (case side2 => exact HC0.out); (case side3 => repeat (first | exact (Kd.C_below HR1.out HB.out) | (with_reducible refine Kd.C_alloc ?_ _) | (with_reducible refine Kd.C_drewN ?_ _) | (with_reducible refine Kd.C_drew ?_))); (case side4 => exact HC1.out); rintro e w19 ⟨rfl, hb⟩; have n0_ := Aside0.mk (Kd.R_below (by (with_reducible repeat (first | apply Kd.R_alloc | apply Kd.R_drewN | apply Kd.R_drew)); exact HO505.out) hb); have n1_ := Aside0.mk (Kd.R_below (by (with_reducible repeat (first | apply Kd.R_alloc | apply Kd.R_drewN | apply Kd.R_drew)); exact HO510.out) hb); have n2_ := Aside0.mk (blk_below (g := gb507) (o := .cells #[.slice Ao13 t503.length co13] 46 (0, 0)) (by (with_reducible repeat (first | refine blk_drewN ?_ _ | refine blk_drew ?_ | refine blk_alloc ?_ _)); exact BK507.out) hb); have n3_ := Aside0.mk (below_step (by repeat (first | (with_reducible first | exact HB.out | apply below_alloc | apply pw_below_drewN | apply below_drew1 | refine below_set ?_ GE507.out) | exact HB.out)) hb); clear HO505; clear HO510; clear BK507; clear HB; have HO505 := n0_; have HO510 := n1_; have BK507 := n2_; have HB := n3_; clear n0_ n1_ n2_ n3_; (try clear hb); (try clear hb2); (try clear hk); (try clear hi); obtain ⟨Ao20, co20, eo20⟩ := Kd.R_slice HO510.out; subst eo20))
     go_meet
     case rel => exact ⟨_, (decide ((t508.length : Int) < 2)), (by first | rfl | (simp; done) | (simp [*]; done)), H', ⟨by first | omega | exact Nat.le_refl _⟩, ⟨by (with_reducible repeat (first | apply Kd.R_alloc | apply Kd.R_drewN | apply Kd.R_drew)); exact Kd.R_mono HO510.out (fun _ hk => hk.2)⟩, ⟨by (with_reducible repeat (first | apply Kd.R_alloc | apply Kd.R_drewN | apply Kd.R_drew)); exact Kd.R_mono HO505.out (fun _ hk => hk.2)⟩, ⟨by (with_reducible repeat (first | refine blk_drewN ?_ _ | refine blk_drew ?_ | refine blk_alloc ?_ _)); exact BK507.out⟩, ⟨by repeat (first | (with_reducible first | exact HB.out | apply below_alloc | apply pw_below_drewN | apply below_drew1 | refine below_set ?_ GE507.out) | exact HB.out)⟩⟩
    ·replace c18 := Bool.eq_false_iff.mpr c18
     subst c18
     have H1 : (forebearlaw10_TreeParts.j0 k l0 l1 a3 t508 true t503) = some r := by rw [if_neg (show ¬ (false = true) by decide)] at H; exact H
     clear H
     have H := H1
     clear H1
     have H' := Aside0.mk H
     clear H
     go_wp2_with (first | (go_at_call 9; (with_reducible refine (forebearlaw10_right.calls k _ _ l0 _ _ l1 false _ ?side1 ?side2 ?side3 ?side4 A17.out).mono ?_); (case side1 => repeat (first | exact (Kd.C_below HR0.out HB.out) | (with_reducible refine Kd.C_alloc ?_ _) | (with_reducible refine Kd.C_drewN ?_ _) | (with_reducible refine Kd.C_drew ?_))); (case side2 => exact HC0.out); (case side3 => repeat (first | exact (Kd.C_below HR1.out HB.out) | (with_reducible refine Kd.C_alloc ?_ _) | (with_reducible refine Kd.C_drewN ?_ _) | (with_reducible refine Kd.C_drew ?_))); (case side4 => exact HC1.out); rintro e w21 ⟨rfl, hb⟩; have n0_ := Aside0.mk (Kd.R_below (by (with_reducible repeat (first | apply Kd.R_alloc | apply Kd.R_drewN | apply Kd.R_drew)); exact HO505.out) hb); have n1_ := Aside0.mk (Kd.R_below (by (with_reducible repeat (first | apply Kd.R_alloc | apply Kd.R_drewN | apply Kd.R_drew)); exact HO510.out) hb); have n2_ := Aside0.mk (blk_below (g := gb507) (o := .cells #[.slice Ao13 t503.length co13] 46 (0, 0)) (by (with_reducible repeat (first | refine blk_drewN ?_ _ | refine blk_drew ?_ | refine blk_alloc ?_ _)); exact BK507.out) hb); have n3_ := Aside0.mk (below_step (by repeat (first | (with_reducible first | exact HB.out | apply below_alloc | apply pw_below_drewN | apply below_drew1 | refine below_set ?_ GE507.out) | exact HB.out)) hb); clear HO505; clear HO510; clear BK507; clear HB; have HO505 := n0_; have HO510 := n1_; have BK507 := n2_; have HB := n3_; clear n0_ n1_ n2_ n3_; (try clear hb); (try clear hb2); (try clear hk); (try clear hi)))
     go_meet
     case rel => exact ⟨_, (true), (by first | rfl | (simp; done) | (simp [*]; done)), H', ⟨by first | omega | exact Nat.le_refl _⟩, ⟨by (with_reducible repeat (first | apply Kd.R_alloc | apply Kd.R_drewN | apply Kd.R_drew)); exact Kd.R_mono HO510.out (fun _ hk => hk.2)⟩, ⟨by (with_reducible repeat (first | apply Kd.R_alloc | apply Kd.R_drewN | apply Kd.R_drew)); exact Kd.R_mono HO505.out (fun _ hk => hk.2)⟩, ⟨by (with_reducible repeat (first | refine blk_drewN ?_ _ | refine blk_drew ?_ | refine blk_alloc ?_ _)); exact BK507.out⟩, ⟨by repeat (first | (with_reducible first | exact HB.out | apply below_alloc | apply pw_below_drewN | apply below_drew1 | refine below_set ?_ GE507.out) | exact HB.out)⟩⟩
   ·rw [if_neg c16] at H
    have c16b0 : (t506 == 0) = false := beq_eq_false_iff_ne.mpr c16
    have c16b1 : (t506 != 0) = true := bne_iff_ne.mpr c16
    (first | rw [c16b0] | (simp only [i64_w, i32_w]; rw [c16b0]) | skip)
    have H' := Aside0.mk H
    clear H
    go_wp2
    go_meet
    case rel => exact ⟨_, (true), (by first | rfl | (simp; done) | (simp [*]; done)), H', ⟨by first | omega | exact Nat.le_refl _⟩, ⟨by (with_reducible repeat (first | apply Kd.R_alloc | apply Kd.R_drewN | apply Kd.R_drew)); exact Kd.R_mono HO510.out (fun _ hk => hk.2)⟩, ⟨by (with_reducible repeat (first | apply Kd.R_alloc | apply Kd.R_drewN | apply Kd.R_drew)); exact Kd.R_mono HO505.out (fun _ hk => hk.2)⟩, ⟨by (with_reducible repeat (first | refine blk_drewN ?_ _ | refine blk_drew ?_ | refine blk_alloc ?_ _)); exact BK507.out⟩, ⟨by repeat (first | (with_reducible first | exact HB.out | apply below_alloc | apply pw_below_drewN | apply below_drew1 | refine below_set ?_ GE507.out) | exact HB.out)⟩⟩
  case rest =>
   clear HC9
   try clear c1
   try clear c2
   try clear p2
   try clear c6
   try clear c7
   try clear c8
   try clear c16
   try clear c16b0
   try clear c16b1
   try clear c18
   try clear hcz14_0
   try clear hfz14_0
   obtain ⟨kq, x42_8, rfl, HA, HJ8, HO_11, HO_508000, BK507, HB⟩ := hcut
   cases kq with
   | zero => exact absurd HA.out (by simp [forebearlaw10_TreeParts.j0])
   | succ kj8 =>
    have H := HA.out
    clear HA
    simp only [forebearlaw10_TreeParts.j0] at H
    by_cases c22 : x42_8 = true
    ·subst c22
     have H1 : (some true) = some r := by rw [if_pos rfl] at H; exact H
     clear H
     have H := H1
     clear H1
     obtain rfl := Option.some.inj H
     go_wp2
     go_ret
     exact ⟨by first | rfl | (simp [errW_none, errW_some] <;> rfl) | (simp [*, errW_none, errW_some] <;> rfl), by repeat (first | (with_reducible first | exact HB.out | apply below_alloc | apply pw_below_drewN | apply below_drew1 | refine below_set ?_ GE507.out) | exact HB.out)⟩
    ·replace c22 := Bool.eq_false_iff.mpr c22
     subst c22
     have H1 : (if (IntKind.u64.wrap (wrap64 ((t508.length : Int) - 1))) = 0 then (none) else (if 0 ≤ (wrap64 (1 + (wrap64 (Int.tmod (IntKind.u64.wrap (a3)) (IntKind.u64.wrap (wrap64 ((t508.length : Int) - 1))))))) then (if (wrap64 (1 + (wrap64 (Int.tmod (IntKind.u64.wrap (a3)) (IntKind.u64.wrap (wrap64 ((t508.length : Int) - 1))))))) ≤ (t508.length : Int) then ((path_Limit.f kj8 (t508.take ((wrap64 (1 + (wrap64 (Int.tmod (IntKind.u64.wrap (a3)) (IntKind.u64.wrap (wrap64 ((t508.length : Int) - 1))))))) : Int).toNat)).bind fun bt520 => ((path_Limit.f kj8 (t508.drop ((wrap64 (1 + (wrap64 (Int.tmod (IntKind.u64.wrap (a3)) (IntKind.u64.wrap (wrap64 ((t508.length : Int) - 1))))))) : Int).toNat)).bind fun bt525 => (if bt520.2 = 0 then (forebearlaw10_TreeParts.j1 kj8 l0 l1 (bt525.2 != 0) t503 bt520.1 bt525.1) else (forebearlaw10_TreeParts.j1 kj8 l0 l1 true t503 bt520.1 bt525.1)))) else (none)) else (none))) = some r := by rw [if_neg (show ¬ (false = true) by decide)] at H; exact H
     clear H
     have H := H1
     clear H1
     by_cases c23 : (IntKind.u64.wrap (wrap64 ((t508.length : Int) - 1))) = 0
     ·rw [if_pos c23] at H
      exact absurd H (by simp)
     ·rw [if_neg c23] at H
      have c23b0 : ((IntKind.u64.wrap (wrap64 ((t508.length : Int) - 1))) == 0) = false := beq_eq_false_iff_ne.mpr c23
      have c23b1 : ((IntKind.u64.wrap (wrap64 ((t508.length : Int) - 1))) != 0) = true := bne_iff_ne.mpr c23
      obtain ⟨ji24, hji24⟩ : ∃ j_ : Int, (wrap64 (1 + (wrap64 (Int.tmod (IntKind.u64.wrap (a3)) (IntKind.u64.wrap (wrap64 ((t508.length : Int) - 1))))))) = j_ := ⟨_, rfl⟩
      replace H : (if 0 ≤ (ji24) then (if (ji24) ≤ (t508.length : Int) then ((path_Limit.f kj8 (t508.take ((ji24) : Int).toNat)).bind fun bt520 => ((path_Limit.f kj8 (t508.drop ((ji24) : Int).toNat)).bind fun bt525 => (if bt520.2 = 0 then (forebearlaw10_TreeParts.j1 kj8 l0 l1 (bt525.2 != 0) t503 bt520.1 bt525.1) else (forebearlaw10_TreeParts.j1 kj8 l0 l1 true t503 bt520.1 bt525.1)))) else (none)) else (none)) = some r := by first | (rw [hji24] at H; exact H) | (simp only [hji24] at H ⊢; exact H)
      have hji24w : (IntKind.i64.wrap (1 + (wrap64 (Int.tmod (IntKind.u64.wrap (a3)) (IntKind.u64.wrap (wrap64 ((t508.length : Int) - 1))))))) = ji24 := (i64_w _).trans hji24
      by_cases c25 : 0 ≤ (ji24)
      ·rw [if_pos c25] at H
       have c25b0 := eq_true c25
       have c25b1 : decide (0 ≤ (ji24)) = true := decide_eq_true c25
       clear c25
       by_cases c26 : (ji24) ≤ (t508.length : Int)
       ·rw [if_pos c26] at H
        have c26b0 := eq_true c26
        have c26b1 : decide ((ji24) ≤ (t508.length : Int)) = true := decide_eq_true c26
        clear c26
        obtain ⟨y512, hy512⟩ : ∃ y_ : List ByteArray, y_ = (t508.take ((ji24) : Int).toNat) := ⟨_, rfl⟩
        replace H : ((path_Limit.f kj8 y512).bind fun bt520 => ((path_Limit.f kj8 (t508.drop ((ji24) : Int).toNat)).bind fun bt525 => (if bt520.2 = 0 then (forebearlaw10_TreeParts.j1 kj8 l0 l1 (bt525.2 != 0) t503 bt520.1 bt525.1) else (forebearlaw10_TreeParts.j1 kj8 l0 l1 true t503 bt520.1 bt525.1)))) = some r := by first | (rw [hy512]; with_reducible exact H) | (have H2_ := (Option.bind_some _ _).symm.trans H; rw [hy512]; with_reducible exact H2_) | (have H2_ := (Option.bind_some _ _).symm.trans H; with_reducible exact H2_) | with_reducible exact H | (rw [hy512]; exact H) | exact H
        have Ny512 := Aside0.mk hy512
        clear hy512
        have c27b0 := eq_true (of_decide_eq_true (by first | (with_reducible assumption) | assumption) : 0 ≤ (ji24))
        have c28b0 := eq_true (of_decide_eq_true (by first | (with_reducible assumption) | assumption) : (ji24) ≤ (t508.length : Int))
        obtain ⟨y516, hy516⟩ : ∃ y_ : List ByteArray, y_ = (t508.drop ((ji24) : Int).toNat) := ⟨_, rfl⟩
        replace H : ((path_Limit.f kj8 y512).bind fun bt520 => ((path_Limit.f kj8 y516).bind fun bt525 => (if bt520.2 = 0 then (forebearlaw10_TreeParts.j1 kj8 l0 l1 (bt525.2 != 0) t503 bt520.1 bt525.1) else (forebearlaw10_TreeParts.j1 kj8 l0 l1 true t503 bt520.1 bt525.1)))) = some r := by first | (rw [hy516]; with_reducible exact H) | (have H2_ := (Option.bind_some _ _).symm.trans H; rw [hy516]; with_reducible exact H2_) | (have H2_ := (Option.bind_some _ _).symm.trans H; with_reducible exact H2_) | with_reducible exact H | (rw [hy516]; exact H) | exact H
        have Ny516 := Aside0.mk hy516
        clear hy516
        replace H := Option.bind_eq_some_iff.mp H
        obtain ⟨⟨t520, t523⟩, A290, H⟩ := H
        replace H : ((path_Limit.f kj8 y516).bind fun bt525 => (if t523 = 0 then (forebearlaw10_TreeParts.j1 kj8 l0 l1 (bt525.2 != 0) t503 t520 bt525.1) else (forebearlaw10_TreeParts.j1 kj8 l0 l1 true t503 t520 bt525.1))) = some r := H
        have A29 := Aside0.mk A290
        clear A290
        replace H := Option.bind_eq_some_iff.mp H
        obtain ⟨⟨t525, t528⟩, A300, H⟩ := H
        replace H : (if t523 = 0 then (forebearlaw10_TreeParts.j1 kj8 l0 l1 (t528 != 0) t503 t520 t525) else (forebearlaw10_TreeParts.j1 kj8 l0 l1 true t503 t520 t525)) = some r := H
        have A30 := Aside0.mk A300
        clear A300
        have HC31 := Aside0.mk H
        clear H
        obtain ⟨Ao32, co32, eo32⟩ := Kd.R_slice HO_11.out
        subst eo32
        have q33 : ((ji24) : Int) ≤ ((t508.length : Int) : Int) := of_decide_eq_true (by first | (with_reducible assumption) | assumption)
        obtain ⟨i033, hi033, _, hsz33, _⟩ := info_parts info9
        have hroom33 : t508.length ≤ co32 := (Kd.R_reads' HO_11.out).2.1
        have hC33 : Kd.C Kd.string _ Ao32 t508.length t508 := (Kd.R_reads' HO_11.out).2.2
        have hcut33 := cut_to (P := Try.prog) 34 9 .i64 Try.underlying34 hi033 Ao32 t508.length co32 (ji24) (of_decide_eq_true (by first | (with_reducible assumption) | assumption)) q33 hroom33
        have hr33 := Kd.C_take (m := ((ji24) : Int).toNat) hC33 (by omega)
        have hy33 : y512.length = ((ji24) : Int).toNat := (by rw [Ny512.out, List.length_take]; omega)
        rw [← Ny512.out] at hr33
        rw [← hy33] at hcut33
        have HR515 := Aside0.mk hr33
        have HC515 := Aside0.mk (show y512.length ≤ co32 from by omega)
        clear hr33 hC33 hroom33 hi033 hsz33
        have KY33 := Aside0.mk hy33
        clear hy33
        have KL33 := Aside0.mk (show ((ji24) : Int).toNat ≤ t508.length from by omega)
        replace q33 := eq_true q33
        have q34 : ((ji24) : Int) ≤ ((t508.length : Int) : Int) := of_decide_eq_true (by first | (with_reducible assumption) | assumption)
        obtain ⟨i034, hi034, _, hsz34, _⟩ := info_parts info9
        have hroom34 : t508.length ≤ co32 := (Kd.R_reads' HO_11.out).2.1
        have hC34 : Kd.C Kd.string _ Ao32 t508.length t508 := (Kd.R_reads' HO_11.out).2.2
        have q034 : (0 : Int) ≤ ((ji24) : Int) := of_decide_eq_true (by first | (with_reducible assumption) | assumption)
        have hcut34 := cut_from (P := Try.prog) 34 9 .i64 Try.underlying34 hi034 1 hsz34 Ao32 t508.length co32 (ji24) q034 q34
        have hr34 := Kd.C_drop (m := ((ji24) : Int).toNat) (c := co32) hC34 (by omega) hroom34
        obtain ⟨A34, hA34⟩ : ∃ A1, A1 = (if co32 = ((ji24) : Int).toNat then Ao32 else (Ao32 : Option Addr).map (·.add (((ji24) : Int).toNat * 1))) := ⟨_, rfl⟩
        obtain ⟨c34, hc34⟩ : ∃ c1, c1 = co32 - ((ji24) : Int).toNat := ⟨_, rfl⟩
        have hy34 : y516.length = t508.length - ((ji24) : Int).toNat := (by rw [Ny516.out, List.length_drop] <;> omega)
        rw [show (t508).drop ((ji24) : Int).toNat = y516 from Ny516.out.symm] at hr34
        replace hr34 : Kd.C Kd.string _ A34 y516.length y516 := (by rw [hA34]; exact hr34)
        rw [← hy34, ← hA34, ← hc34] at hcut34
        have HR519 := Aside0.mk hr34
        have HC519 := Aside0.mk (show y516.length ≤ c34 from by rw [hy34, hc34]; exact Nat.sub_le_sub_right hroom34 _)
        clear hr34 hC34 hroom34 hi034 hsz34 hc34
        have KY34 := Aside0.mk hy34
        have KA34 := Aside0.mk hA34
        clear hy34 hA34
        have KL34 := Aside0.mk (show ((ji24) : Int).toNat ≤ t508.length from by omega)
        replace q34 := eq_true q34
        go_upto_region 10 with (first | ((with_reducible refine gate_callee (f := 22) rfl ?_); refine goesL_ (some 56) rfl rfl Try.func22 (by kernel_rfl) rfl #[.slice Ao32 y512.length co32] rfl (by (try simp only [List.map_toArray, List.map_cons, List.map_nil]); first | done | rfl | (simp only [List.length_drop, List.length_take]; rfl)) ?_; (with_reducible refine (path_Limit.calls kj8 _ _ y512 t520 t523 _ ?side1 ?side2 A29.out).mono ?_); (case side1 => repeat (first | exact (by repeat (first | (with_reducible exact HR515.out) | (with_reducible refine Kd.C_alloc ?_ _) | (with_reducible refine Kd.C_drewN ?_ _) | (with_reducible refine Kd.C_drew ?_) | exact HR515.out)) | (with_reducible refine Kd.C_alloc ?_ _) | (with_reducible refine Kd.C_drewN ?_ _) | (with_reducible refine Kd.C_drew ?_))); (case side2 => exact HC515.out); rintro e w35 ⟨v521, rfl, ho0, hb⟩; refine ⟨_, rfl, ?_⟩; have n0_ := Aside0.mk (Kd.R_elder' (by (with_reducible repeat (first | apply Kd.R_alloc | apply Kd.R_drewN | apply Kd.R_drew)); exact HO_11.out) (Kd.R_base ho0) hb); have n1_ := Aside0.mk (Kd.R_elder' (by (with_reducible repeat (first | apply Kd.R_alloc | apply Kd.R_drewN | apply Kd.R_drew)); exact HO_508000.out) (Kd.R_base ho0) hb); have n2_ := Aside0.mk (Kd.R_lower (Kd.R_new' (Kd.R_new' ho0 (Kd.R_lt (by (with_reducible repeat (first | apply Kd.R_alloc | apply Kd.R_drewN | apply Kd.R_drew)); exact HO_11.out))) (Kd.R_lt (by (with_reducible repeat (first | apply Kd.R_alloc | apply Kd.R_drewN | apply Kd.R_drew)); exact HO_508000.out))) (below_size (by repeat (first | (with_reducible first | exact HB.out | apply below_alloc | apply pw_below_drewN | apply below_drew1 | refine below_set ?_ GE507.out) | exact HB.out)))); have n3_ := Aside0.mk (blk_below (g := gb507) (o := .cells #[.slice Ao13 t503.length co13] 46 (0, 0)) (by (with_reducible repeat (first | refine blk_drewN ?_ _ | refine blk_drew ?_ | refine blk_alloc ?_ _)); exact BK507.out) hb); have n4_ := Aside0.mk (Kd.C_below (by repeat (first | (with_reducible exact HR515.out) | (with_reducible refine Kd.C_alloc ?_ _) | (with_reducible refine Kd.C_drewN ?_ _) | (with_reducible refine Kd.C_drew ?_) | exact HR515.out)) hb); have n5_ := Aside0.mk (Kd.C_below (by repeat (first | (with_reducible exact HR519.out) | (with_reducible refine Kd.C_alloc ?_ _) | (with_reducible refine Kd.C_drewN ?_ _) | (with_reducible refine Kd.C_drew ?_) | exact HR519.out)) hb); have n6_ := Aside0.mk (below_step (by repeat (first | (with_reducible first | exact HB.out | apply below_alloc | apply pw_below_drewN | apply below_drew1 | refine below_set ?_ GE507.out) | exact HB.out)) hb); clear HO_11; clear HO_508000; clear BK507; clear HR515; clear HR519; clear HB; have HO_11 := n0_; have HO_508000 := n1_; have HO522 := n2_; have BK507 := n3_; have HR515 := n4_; have HR519 := n5_; have HB := n6_; clear n0_ n1_ n2_ n3_ n4_ n5_ n6_; (try clear hb); (try clear hb2); (try clear hk); (try clear hi); (try clear ho0)) | ((with_reducible refine gate_dst (N := 12) rfl ?_); (try (refine gate_guard (by rfl) ?_; dsimp only)); refine box_event ?hg (N := 12) ?hd (cs := #[.slice none 0 0]) (t := 46) ?hr ?_; (case hd => rfl); (case hg => rfl); (case hr => first | (go_simp; done) | (go_simp; rfl)); intro gb524 hg w36 hbox hb; have n0_ := Aside0.mk (Kd.R_below (by (with_reducible repeat (first | apply Kd.R_alloc | apply Kd.R_drewN | apply Kd.R_drew)); exact HO_11.out) hb); have n1_ := Aside0.mk (Kd.R_below (by (with_reducible repeat (first | apply Kd.R_alloc | apply Kd.R_drewN | apply Kd.R_drew)); exact HO_508000.out) hb); have n2_ := Aside0.mk (Kd.R_below (by (with_reducible repeat (first | apply Kd.R_alloc | apply Kd.R_drewN | apply Kd.R_drew)); exact HO522.out) hb); have n3_ := Aside0.mk (blk_below (g := gb507) (o := .cells #[.slice Ao13 t503.length co13] 46 (0, 0)) (by (with_reducible repeat (first | refine blk_drewN ?_ _ | refine blk_drew ?_ | refine blk_alloc ?_ _)); exact BK507.out) hb); have n4_ := Aside0.mk (Kd.C_below (by repeat (first | (with_reducible exact HR515.out) | (with_reducible refine Kd.C_alloc ?_ _) | (with_reducible refine Kd.C_drewN ?_ _) | (with_reducible refine Kd.C_drew ?_) | exact HR515.out)) hb); have n5_ := Aside0.mk (Kd.C_below (by repeat (first | (with_reducible exact HR519.out) | (with_reducible refine Kd.C_alloc ?_ _) | (with_reducible refine Kd.C_drewN ?_ _) | (with_reducible refine Kd.C_drew ?_) | exact HR519.out)) hb); have n6_ := Aside0.mk (below_step (by repeat (first | (with_reducible first | exact HB.out | apply below_alloc | apply pw_below_drewN | apply below_drew1 | refine below_set ?_ GE507.out) | exact HB.out)) hb); have n7_ := Aside0.mk (hbox); have n8_ := Aside0.mk ((by rw [hg]; exact (below_size (by repeat (first | (with_reducible first | exact HB.out | apply below_alloc | apply pw_below_drewN | apply below_drew1 | refine below_set ?_ GE507.out) | exact HB.out))) : w.heap.size ≤ gb524)); have n9_ := Aside0.mk ((by rw [hg]; exact (below_size (by repeat (first | (with_reducible first | exact HB.out | apply below_alloc | apply pw_below_drewN | apply below_drew1 | refine below_set ?_ GE507.out) | exact HB.out))) : w.heap.size ≤ gb524)); have n10_ := Aside0.mk ((by rw [hg]; exact Nat.ne_of_lt (blk_lt (g := gb507) (o := .cells #[.slice Ao13 t503.length co13] 46 (0, 0)) (by (with_reducible repeat (first | refine blk_drewN ?_ _ | refine blk_drew ?_ | refine blk_alloc ?_ _)); exact BK507.out)) : gb507 ≠ gb524)); have n11_ := Aside0.mk ((by rw [hg]; exact Nat.ne_of_gt (blk_lt (g := gb507) (o := .cells #[.slice Ao13 t503.length co13] 46 (0, 0)) (by (with_reducible repeat (first | refine blk_drewN ?_ _ | refine blk_drew ?_ | refine blk_alloc ?_ _)); exact BK507.out)) : gb524 ≠ gb507)); clear HO_11; clear HO_508000; clear HO522; clear BK507; clear HR515; clear HR519; clear HB; have HO_11 := n0_; have HO_508000 := n1_; have HO522 := n2_; have BK507 := n3_; have HR515 := n4_; have HR519 := n5_; have HB := n6_; have BK524 := n7_; have GW524 := n8_; have GE524 := n9_; have NB507_524 := n10_; have NB524_507 := n11_; clear n0_ n1_ n2_ n3_ n4_ n5_ n6_ n7_ n8_ n9_ n10_ n11_; clear hb hbox hg; obtain ⟨Ao37, co37, eo37⟩ := Kd.R_slice HO522.out; subst eo37; have hnb38 := NB524_507.out; have hnc38 := NB507_524.out; have hcz39_0 : w36.cell? ⟨gb524, 0, none⟩ = some (.slice none 0 0) := (blk_cell BK524.out 0).trans rfl; have hfz39_0 := blk_frozen BK524.out 0) | ((with_reducible refine gate_callee (f := 22) rfl ?_); refine goesL_ (some 63) rfl rfl Try.func22 (by kernel_rfl) rfl #[.slice A34 y516.length c34] rfl (by (try simp only [List.map_toArray, List.map_cons, List.map_nil]); first | done | rfl | (simp only [List.length_drop, List.length_take]; rfl)) ?_; (with_reducible refine (path_Limit.calls kj8 _ _ y516 t525 t528 _ ?side1 ?side2 A30.out).mono ?_); (case side1 => repeat (first | exact ((show Kd.C Kd.string (w36.setCell ⟨gb524, 0, none⟩ (.slice Ao37 t520.length co37)) A34 y516.length y516 from by rw [Ny516.out, KA34.out]; exact Kd.C_drop (m := ((ji24) : Int).toNat) (c := co32) ((Kd.R_reads' ((Kd.R_far (p := ⟨gb524, 0, none⟩) (Kd.R_types HO_11.out BK524.out (by decide)) (fun _ hk => hk.2) (.slice Ao37 t520.length co37)))).2.2) KL34.out ((Kd.R_reads' ((Kd.R_far (p := ⟨gb524, 0, none⟩) (Kd.R_types HO_11.out BK524.out (by decide)) (fun _ hk => hk.2) (.slice Ao37 t520.length co37)))).2.1))) | (with_reducible refine Kd.C_alloc ?_ _) | (with_reducible refine Kd.C_drewN ?_ _) | (with_reducible refine Kd.C_drew ?_))); (case side2 => exact HC519.out); rintro e w40 ⟨v526, rfl, ho0, hb⟩; refine ⟨_, rfl, ?_⟩; have n0_ := Aside0.mk (Kd.R_elder' (by (with_reducible repeat (first | apply Kd.R_alloc | apply Kd.R_drewN | apply Kd.R_drew)); exact (Kd.R_mono (Kd.R_far (p := ⟨gb524, 0, none⟩) (Kd.R_types HO_11.out BK524.out (by decide)) (fun _ hk => hk.2) (.slice Ao37 t520.length co37)) (fun _ h_ => h_.1))) (Kd.R_base ho0) hb); have n1_ := Aside0.mk (Kd.R_elder' (by (with_reducible repeat (first | apply Kd.R_alloc | apply Kd.R_drewN | apply Kd.R_drew)); exact (Kd.R_mono (Kd.R_far (p := ⟨gb524, 0, none⟩) (Kd.R_types HO_508000.out BK524.out (by decide)) (fun _ hk => hk.2) (.slice Ao37 t520.length co37)) (fun _ h_ => h_.1))) (Kd.R_base ho0) hb); have n2_ := Aside0.mk (Kd.R_elder' (by (with_reducible repeat (first | apply Kd.R_alloc | apply Kd.R_drewN | apply Kd.R_drew)); exact (Kd.R_mono (Kd.R_far (p := ⟨gb524, 0, none⟩) (Kd.R_types HO522.out BK524.out (by decide)) (fun _ hk => hk.2) (.slice Ao37 t520.length co37)) (fun _ h_ => h_.1))) (Kd.R_base ho0) hb); have n3_ := Aside0.mk (Kd.R_lower (Kd.R_new' (Kd.R_new' (Kd.R_new' ho0 (Kd.R_lt (by (with_reducible repeat (first | apply Kd.R_alloc | apply Kd.R_drewN | apply Kd.R_drew)); exact (Kd.R_mono (Kd.R_far (p := ⟨gb524, 0, none⟩) (Kd.R_types HO_11.out BK524.out (by decide)) (fun _ hk => hk.2) (.slice Ao37 t520.length co37)) (fun _ h_ => h_.1))))) (Kd.R_lt (by (with_reducible repeat (first | apply Kd.R_alloc | apply Kd.R_drewN | apply Kd.R_drew)); exact (Kd.R_mono (Kd.R_far (p := ⟨gb524, 0, none⟩) (Kd.R_types HO_508000.out BK524.out (by decide)) (fun _ hk => hk.2) (.slice Ao37 t520.length co37)) (fun _ h_ => h_.1))))) (Kd.R_lt (by (with_reducible repeat (first | apply Kd.R_alloc | apply Kd.R_drewN | apply Kd.R_drew)); exact (Kd.R_mono (Kd.R_far (p := ⟨gb524, 0, none⟩) (Kd.R_types HO522.out BK524.out (by decide)) (fun _ hk => hk.2) (.slice Ao37 t520.length co37)) (fun _ h_ => h_.1))))) (below_size (by repeat (first | (with_reducible first | exact HB.out | apply below_alloc | apply pw_below_drewN | apply below_drew1 | refine below_set ?_ GE507.out | refine below_set ?_ GE524.out) | exact HB.out)))); have n4_ := Aside0.mk (blk_below (g := gb507) (o := .cells #[.slice Ao13 t503.length co13] 46 (0, 0)) (by (with_reducible repeat (first | refine blk_drewN ?_ _ | refine blk_drew ?_ | refine blk_alloc ?_ _)); refine blk_far ?_ NB507_524.out _; (with_reducible repeat (first | refine blk_drewN ?_ _ | refine blk_drew ?_ | refine blk_alloc ?_ _)); exact BK507.out) hb); have n5_ := Aside0.mk (Kd.C_below ((show Kd.C Kd.string (w36.setCell ⟨gb524, 0, none⟩ (.slice Ao37 t520.length co37)) Ao32 y512.length y512 from by rw [Ny512.out]; exact Kd.C_take (m := ((ji24) : Int).toNat) ((Kd.R_reads' ((Kd.R_far (p := ⟨gb524, 0, none⟩) (Kd.R_types HO_11.out BK524.out (by decide)) (fun _ hk => hk.2) (.slice Ao37 t520.length co37)))).2.2) KL33.out)) hb); have n6_ := Aside0.mk (Kd.C_below ((show Kd.C Kd.string (w36.setCell ⟨gb524, 0, none⟩ (.slice Ao37 t520.length co37)) A34 y516.length y516 from by rw [Ny516.out, KA34.out]; exact Kd.C_drop (m := ((ji24) : Int).toNat) (c := co32) ((Kd.R_reads' ((Kd.R_far (p := ⟨gb524, 0, none⟩) (Kd.R_types HO_11.out BK524.out (by decide)) (fun _ hk => hk.2) (.slice Ao37 t520.length co37)))).2.2) KL34.out ((Kd.R_reads' ((Kd.R_far (p := ⟨gb524, 0, none⟩) (Kd.R_types HO_11.out BK524.out (by decide)) (fun _ hk => hk.2) (.slice Ao37 t520.length co37)))).2.1))) hb); have n7_ := Aside0.mk (blk_below (g := gb524) (o := .cells #[.slice Ao37 t520.length co37] 46 (0, 0)) (by (with_reducible repeat (first | refine blk_drewN ?_ _ | refine blk_drew ?_ | refine blk_alloc ?_ _)); refine blk_put (cs := #[.slice none 0 0]) ?_ 0 _ rfl; (with_reducible repeat (first | refine blk_drewN ?_ _ | refine blk_drew ?_ | refine blk_alloc ?_ _)); exact BK524.out) hb); have n8_ := Aside0.mk (below_step (by repeat (first | (with_reducible first | exact HB.out | apply below_alloc | apply pw_below_drewN | apply below_drew1 | refine below_set ?_ GE507.out | refine below_set ?_ GE524.out) | exact HB.out)) hb); clear HO_11; clear HO_508000; clear HO522; clear BK507; clear HR515; clear HR519; clear BK524; clear HB; have HO_11 := n0_; have HO_508000 := n1_; have HO522 := n2_; have HO527 := n3_; have BK507 := n4_; have HR515 := n5_; have HR519 := n6_; have BK524 := n7_; have HB := n8_; clear n0_ n1_ n2_ n3_ n4_ n5_ n6_ n7_ n8_; (try clear hb); (try clear hb2); (try clear hk); (try clear hi); (try clear ho0)) | ((with_reducible refine gate_dst (N := 14) rfl ?_); (try (refine gate_guard (by rfl) ?_; dsimp only)); refine box_event ?hg (N := 14) ?hd (cs := #[.slice none 0 0]) (t := 46) ?hr ?_; (case hd => rfl); (case hg => rfl); (case hr => first | (go_simp; done) | (go_simp; rfl)); intro gb529 hg w41 hbox hb; have n0_ := Aside0.mk (Kd.R_below (by (with_reducible repeat (first | apply Kd.R_alloc | apply Kd.R_drewN | apply Kd.R_drew)); exact HO_11.out) hb); have n1_ := Aside0.mk (Kd.R_below (by (with_reducible repeat (first | apply Kd.R_alloc | apply Kd.R_drewN | apply Kd.R_drew)); exact HO_508000.out) hb); have n2_ := Aside0.mk (Kd.R_below (by (with_reducible repeat (first | apply Kd.R_alloc | apply Kd.R_drewN | apply Kd.R_drew)); exact HO522.out) hb); have n3_ := Aside0.mk (Kd.R_below (by (with_reducible repeat (first | apply Kd.R_alloc | apply Kd.R_drewN | apply Kd.R_drew)); exact HO527.out) hb); have n4_ := Aside0.mk (blk_below (g := gb507) (o := .cells #[.slice Ao13 t503.length co13] 46 (0, 0)) (by (with_reducible repeat (first | refine blk_drewN ?_ _ | refine blk_drew ?_ | refine blk_alloc ?_ _)); exact BK507.out) hb); have n5_ := Aside0.mk (Kd.C_below (by repeat (first | (with_reducible exact HR515.out) | (with_reducible refine Kd.C_alloc ?_ _) | (with_reducible refine Kd.C_drewN ?_ _) | (with_reducible refine Kd.C_drew ?_) | exact HR515.out)) hb); have n6_ := Aside0.mk (Kd.C_below (by repeat (first | (with_reducible exact HR519.out) | (with_reducible refine Kd.C_alloc ?_ _) | (with_reducible refine Kd.C_drewN ?_ _) | (with_reducible refine Kd.C_drew ?_) | exact HR519.out)) hb); have n7_ := Aside0.mk (blk_below (g := gb524) (o := .cells #[.slice Ao37 t520.length co37] 46 (0, 0)) (by (with_reducible repeat (first | refine blk_drewN ?_ _ | refine blk_drew ?_ | refine blk_alloc ?_ _)); exact BK524.out) hb); have n8_ := Aside0.mk (below_step (by repeat (first | (with_reducible first | exact HB.out | apply below_alloc | apply pw_below_drewN | apply below_drew1 | refine below_set ?_ GE507.out | refine below_set ?_ GE524.out) | exact HB.out)) hb); have n9_ := Aside0.mk (hbox); have n10_ := Aside0.mk ((by rw [hg]; exact (below_size (by repeat (first | (with_reducible first | exact HB.out | apply below_alloc | apply pw_below_drewN | apply below_drew1 | refine below_set ?_ GE507.out | refine below_set ?_ GE524.out) | exact HB.out))) : w.heap.size ≤ gb529)); have n11_ := Aside0.mk ((by rw [hg]; exact (below_size (by repeat (first | (with_reducible first | exact HB.out | apply below_alloc | apply pw_below_drewN | apply below_drew1 | refine below_set ?_ GE507.out | refine below_set ?_ GE524.out) | exact HB.out))) : w.heap.size ≤ gb529)); have n12_ := Aside0.mk ((by rw [hg]; exact Nat.ne_of_lt (blk_lt (g := gb507) (o := .cells #[.slice Ao13 t503.length co13] 46 (0, 0)) (by (with_reducible repeat (first | refine blk_drewN ?_ _ | refine blk_drew ?_ | refine blk_alloc ?_ _)); exact BK507.out)) : gb507 ≠ gb529)); have n13_ := Aside0.mk ((by rw [hg]; exact Nat.ne_of_gt (blk_lt (g := gb507) (o := .cells #[.slice Ao13 t503.length co13] 46 (0, 0)) (by (with_reducible repeat (first | refine blk_drewN ?_ _ | refine blk_drew ?_ | refine blk_alloc ?_ _)); exact BK507.out)) : gb529 ≠ gb507)); have n14_ := Aside0.mk ((by rw [hg]; exact Nat.ne_of_lt (blk_lt (g := gb524) (o := .cells #[.slice Ao37 t520.length co37] 46 (0, 0)) (by (with_reducible repeat (first | refine blk_drewN ?_ _ | refine blk_drew ?_ | refine blk_alloc ?_ _)); exact BK524.out)) : gb524 ≠ gb529)); have n15_ := Aside0.mk ((by rw [hg]; exact Nat.ne_of_gt (blk_lt (g := gb524) (o := .cells #[.slice Ao37 t520.length co37] 46 (0, 0)) (by (with_reducible repeat (first | refine blk_drewN ?_ _ | refine blk_drew ?_ | refine blk_alloc ?_ _)); exact BK524.out)) : gb529 ≠ gb524)); clear HO_11; clear HO_508000; clear HO522; clear HO527; clear BK507; clear HR515; clear HR519; clear BK524; clear HB; have HO_11 := n0_; have HO_508000 := n1_; have HO522 := n2_; have HO527 := n3_; have BK507 := n4_; have HR515 := n5_; have HR519 := n6_; have BK524 := n7_; have HB := n8_; have BK529 := n9_; have GW529 := n10_; have GE529 := n11_; have NB507_529 := n12_; have NB529_507 := n13_; have NB524_529 := n14_; have NB529_524 := n15_; clear n0_ n1_ n2_ n3_ n4_ n5_ n6_ n7_ n8_ n9_ n10_ n11_ n12_ n13_ n14_ n15_; clear hb hbox hg; obtain ⟨Ao42, co42, eo42⟩ := Kd.R_slice HO527.out; subst eo42; have hnb43 := NB529_507.out; have hnc43 := NB507_529.out; have hnb44 := NB529_524.out; have hnc44 := NB524_529.out; have hcz45_0 : w41.cell? ⟨gb529, 0, none⟩ = some (.slice none 0 0) := (blk_cell BK529.out 0).trans rfl; have hfz45_0 := blk_frozen BK529.out 0))
        (try simp only [Act.put, List.setIfInBounds_toArray, List.set_cons_zero, List.set_cons_succ])
        go_cut [71] (fun v71 wc => ∃ (kq : Nat) (x71_30 : Bool), v71 = .bool x71_30 ∧ Aside0 (forebearlaw10_TreeParts.j1 kq l0 l1 x71_30 t503 t520 t525 = some r) ∧ Aside0 (kq ≤ kj8) ∧ Aside0 (Kd.R Kd.string 9 wc w.heap.size (fun k_ => some k_ ≠ ((.slice Ao37 t520.length co37) : Value).ownBlock ∧ some k_ ≠ ((.slice Ao42 t525.length co42) : Value).ownBlock) (.slice Ao13 t503.length co13) t503) ∧ Aside0 (Kd.R Kd.string 9 wc w.heap.size (fun k_ => some k_ ≠ ((.slice Ao13 t503.length co13) : Value).ownBlock ∧ some k_ ≠ ((.slice Ao42 t525.length co42) : Value).ownBlock) (.slice Ao37 t520.length co37) t520) ∧ Aside0 (Kd.R Kd.string 9 wc w.heap.size (fun k_ => some k_ ≠ ((.slice Ao13 t503.length co13) : Value).ownBlock ∧ some k_ ≠ ((.slice Ao37 t520.length co37) : Value).ownBlock) (.slice Ao42 t525.length co42) t525) ∧ Aside0 (wc.heap[gb507]? = some (.cells #[(.slice Ao13 t503.length co13)] 46 (0, 0))) ∧ Aside0 (wc.heap[gb524]? = some (.cells #[(.slice Ao37 t520.length co37)] 46 (0, 0))) ∧ Aside0 (wc.heap[gb529]? = some (.cells #[(.slice Ao42 t525.length co42)] 46 (0, 0))) ∧ Aside0 (Kd.C Kd.string wc Ao32 y512.length y512) ∧ Aside0 (Kd.C Kd.string wc A34 y516.length y516) ∧ Aside0 (Below w.heap.size w wc))
        case first =>
         have H := HC31.out
         clear HC31
         by_cases c46 : t523 = 0
         ·rw [if_pos c46] at H
          have c46b0 : (t523 == 0) = true := beq_iff_eq.mpr c46
          have c46b1 : (t523 != 0) = false := bne_eq_false_iff_eq.mpr c46
          clear c46
          (first | rw [c46b0] | (simp only [i64_w, i32_w]; rw [c46b0]) | skip)
          have H' := Aside0.mk H
          clear H
          go_wp2
          go_meet
          case rel => exact ⟨_, ((t528 != 0)), (by first | rfl | (simp; done) | (simp [*]; done)), H', ⟨by have := HJ8.out; first | omega | exact Nat.le_refl _⟩, ⟨by (with_reducible repeat (first | apply Kd.R_alloc | apply Kd.R_drewN | apply Kd.R_drew)); exact Kd.R_mono (Kd.R_far (p := ⟨gb529, 0, none⟩) (Kd.R_types HO_508000.out BK529.out (by decide)) (fun _ hk => hk.2) (.slice Ao42 t525.length co42)) (fun _ hk => ⟨hk.1.1.2, hk.1.2⟩)⟩, ⟨by (with_reducible repeat (first | apply Kd.R_alloc | apply Kd.R_drewN | apply Kd.R_drew)); exact Kd.R_mono (Kd.R_far (p := ⟨gb529, 0, none⟩) (Kd.R_types HO522.out BK529.out (by decide)) (fun _ hk => hk.2) (.slice Ao42 t525.length co42)) (fun _ hk => ⟨hk.1.1.2, hk.1.2⟩)⟩, ⟨by (with_reducible repeat (first | apply Kd.R_alloc | apply Kd.R_drewN | apply Kd.R_drew)); exact Kd.R_mono (Kd.R_far (p := ⟨gb529, 0, none⟩) (Kd.R_types HO527.out BK529.out (by decide)) (fun _ hk => hk.2) (.slice Ao42 t525.length co42)) (fun _ hk => ⟨hk.1.1.2, hk.1.2⟩)⟩, ⟨by (with_reducible repeat (first | refine blk_drewN ?_ _ | refine blk_drew ?_ | refine blk_alloc ?_ _)); refine blk_far ?_ NB507_529.out _; (with_reducible repeat (first | refine blk_drewN ?_ _ | refine blk_drew ?_ | refine blk_alloc ?_ _)); exact BK507.out⟩, ⟨by (with_reducible repeat (first | refine blk_drewN ?_ _ | refine blk_drew ?_ | refine blk_alloc ?_ _)); refine blk_far ?_ NB524_529.out _; (with_reducible repeat (first | refine blk_drewN ?_ _ | refine blk_drew ?_ | refine blk_alloc ?_ _)); exact BK524.out⟩, ⟨by (with_reducible repeat (first | refine blk_drewN ?_ _ | refine blk_drew ?_ | refine blk_alloc ?_ _)); refine blk_put (cs := #[.slice none 0 0]) ?_ 0 _ rfl; (with_reducible repeat (first | refine blk_drewN ?_ _ | refine blk_drew ?_ | refine blk_alloc ?_ _)); exact BK529.out⟩, ⟨(show Kd.C Kd.string (w41.setCell ⟨gb529, 0, none⟩ (.slice Ao42 t525.length co42)) Ao32 y512.length y512 from by rw [Ny512.out]; exact Kd.C_take (m := ((ji24) : Int).toNat) ((Kd.R_reads' ((Kd.R_far (p := ⟨gb529, 0, none⟩) (Kd.R_types HO_11.out BK529.out (by decide)) (fun _ hk => hk.2) (.slice Ao42 t525.length co42)))).2.2) KL33.out)⟩, ⟨(show Kd.C Kd.string (w41.setCell ⟨gb529, 0, none⟩ (.slice Ao42 t525.length co42)) A34 y516.length y516 from by rw [Ny516.out, KA34.out]; exact Kd.C_drop (m := ((ji24) : Int).toNat) (c := co32) ((Kd.R_reads' ((Kd.R_far (p := ⟨gb529, 0, none⟩) (Kd.R_types HO_11.out BK529.out (by decide)) (fun _ hk => hk.2) (.slice Ao42 t525.length co42)))).2.2) KL34.out ((Kd.R_reads' ((Kd.R_far (p := ⟨gb529, 0, none⟩) (Kd.R_types HO_11.out BK529.out (by decide)) (fun _ hk => hk.2) (.slice Ao42 t525.length co42)))).2.1))⟩, ⟨by repeat (first | (with_reducible first | exact HB.out | apply below_alloc | apply pw_below_drewN | apply below_drew1 | refine below_set ?_ GE507.out | refine below_set ?_ GE524.out | refine below_set ?_ GE529.out) | exact HB.out)⟩⟩
         ·rw [if_neg c46] at H
          have c46b0 : (t523 == 0) = false := beq_eq_false_iff_ne.mpr c46
          have c46b1 : (t523 != 0) = true := bne_iff_ne.mpr c46
          (first | rw [c46b0] | (simp only [i64_w, i32_w]; rw [c46b0]) | skip)
          have H' := Aside0.mk H
          clear H
          go_wp2
          go_meet
          case rel => exact ⟨_, (true), (by first | rfl | (simp; done) | (simp [*]; done)), H', ⟨by have := HJ8.out; first | omega | exact Nat.le_refl _⟩, ⟨by (with_reducible repeat (first | apply Kd.R_alloc | apply Kd.R_drewN | apply Kd.R_drew)); exact Kd.R_mono (Kd.R_far (p := ⟨gb529, 0, none⟩) (Kd.R_types HO_508000.out BK529.out (by decide)) (fun _ hk => hk.2) (.slice Ao42 t525.length co42)) (fun _ hk => ⟨hk.1.1.2, hk.1.2⟩)⟩, ⟨by (with_reducible repeat (first | apply Kd.R_alloc | apply Kd.R_drewN | apply Kd.R_drew)); exact Kd.R_mono (Kd.R_far (p := ⟨gb529, 0, none⟩) (Kd.R_types HO522.out BK529.out (by decide)) (fun _ hk => hk.2) (.slice Ao42 t525.length co42)) (fun _ hk => ⟨hk.1.1.2, hk.1.2⟩)⟩, ⟨by (with_reducible repeat (first | apply Kd.R_alloc | apply Kd.R_drewN | apply Kd.R_drew)); exact Kd.R_mono (Kd.R_far (p := ⟨gb529, 0, none⟩) (Kd.R_types HO527.out BK529.out (by decide)) (fun _ hk => hk.2) (.slice Ao42 t525.length co42)) (fun _ hk => ⟨hk.1.1.2, hk.1.2⟩)⟩, ⟨by (with_reducible repeat (first | refine blk_drewN ?_ _ | refine blk_drew ?_ | refine blk_alloc ?_ _)); refine blk_far ?_ NB507_529.out _; (with_reducible repeat (first | refine blk_drewN ?_ _ | refine blk_drew ?_ | refine blk_alloc ?_ _)); exact BK507.out⟩, ⟨by (with_reducible repeat (first | refine blk_drewN ?_ _ | refine blk_drew ?_ | refine blk_alloc ?_ _)); refine blk_far ?_ NB524_529.out _; (with_reducible repeat (first | refine blk_drewN ?_ _ | refine blk_drew ?_ | refine blk_alloc ?_ _)); exact BK524.out⟩, ⟨by (with_reducible repeat (first | refine blk_drewN ?_ _ | refine blk_drew ?_ | refine blk_alloc ?_ _)); refine blk_put (cs := #[.slice none 0 0]) ?_ 0 _ rfl; (with_reducible repeat (first | refine blk_drewN ?_ _ | refine blk_drew ?_ | refine blk_alloc ?_ _)); exact BK529.out⟩, ⟨(show Kd.C Kd.string (w41.setCell ⟨gb529, 0, none⟩ (.slice Ao42 t525.length co42)) Ao32 y512.length y512 from by rw [Ny512.out]; exact Kd.C_take (m := ((ji24) : Int).toNat) ((Kd.R_reads' ((Kd.R_far (p := ⟨gb529, 0, none⟩) (Kd.R_types HO_11.out BK529.out (by decide)) (fun _ hk => hk.2) (.slice Ao42 t525.length co42)))).2.2) KL33.out)⟩, ⟨(show Kd.C Kd.string (w41.setCell ⟨gb529, 0, none⟩ (.slice Ao42 t525.length co42)) A34 y516.length y516 from by rw [Ny516.out, KA34.out]; exact Kd.C_drop (m := ((ji24) : Int).toNat) (c := co32) ((Kd.R_reads' ((Kd.R_far (p := ⟨gb529, 0, none⟩) (Kd.R_types HO_11.out BK529.out (by decide)) (fun _ hk => hk.2) (.slice Ao42 t525.length co42)))).2.2) KL34.out ((Kd.R_reads' ((Kd.R_far (p := ⟨gb529, 0, none⟩) (Kd.R_types HO_11.out BK529.out (by decide)) (fun _ hk => hk.2) (.slice Ao42 t525.length co42)))).2.1))⟩, ⟨by repeat (first | (with_reducible first | exact HB.out | apply below_alloc | apply pw_below_drewN | apply below_drew1 | refine below_set ?_ GE507.out | refine below_set ?_ GE524.out | refine below_set ?_ GE529.out) | exact HB.out)⟩⟩
        case rest =>
         clear HC31
         try clear c1
         try clear c2
         try clear p2
         try clear c3
         try clear q3
         try clear c4
         try clear c6
         try clear p6
         try clear c7
         try clear c8
         try clear c16
         try clear c16b0
         try clear c16b1
         try clear c18
         try clear c22
         try clear c23
         try clear c23b0
         try clear c23b1
         try clear c24
         try clear c25
         try clear c25b0
         try clear c25b1
         try clear c26
         try clear c26b0
         try clear c26b1
         try clear c27
         try clear c27b0
         try clear c28
         try clear c28b0
         try clear q33
         try clear c34
         try clear q34
         try clear c38
         try clear c43
         try clear c44
         try clear c46
         try clear c46b0
         try clear c46b1
         try clear hcz14_0
         try clear hcz39_0
         try clear hcz45_0
         try clear hfz14_0
         try clear hfz39_0
         try clear hfz45_0
         try clear p2
         try clear q034
         try clear q33
         try clear q34
         obtain ⟨kq, x71_30, rfl, HA, HJ30, HO_508000, HO_525000, HO_530000, BK507, BK524, BK529, HR515, HR519, HB⟩ := hcut
         cases kq with
         | zero => exact absurd HA.out (by simp [forebearlaw10_TreeParts.j1])
         | succ kj30 =>
          have H := HA.out
          clear HA
          simp only [forebearlaw10_TreeParts.j1] at H
          by_cases c47 : x71_30 = true
          ·subst c47
           have H1 : (some false) = some r := by rw [if_pos rfl] at H; exact H
           clear H
           have H := H1
           clear H1
           exact absurd (Option.some.inj H) (by rw [HR_.out]; decide)
          ·replace c47 := Bool.eq_false_iff.mpr c47
           subst c47
           have H1 : ((tree_Diff.f kj30 l0 l1 t503).bind fun t530 => ((tree_Diff.f kj30 l0 l1 t520).bind fun t533 => ((tree_Diff.f kj30 l0 l1 t525).bind fun t536 => (if t533.length + t536.length < 4398046511104 then ((some (t533 ++ t536 : List (S51))).bind fun y539 => (if (y539.length : Int) = (t530.length : Int) then (forebearlaw10_TreeParts.l0 kj30 t530 y539 0 t503 t520 t525) else (some false))) else (none))))) = some r := by rw [if_neg (show ¬ (false = true) by decide)] at H; exact H
           clear H
           have H := H1
           clear H1
           replace H := Option.bind_eq_some_iff.mp H
           obtain ⟨t530, A480, H⟩ := H
           replace H : ((tree_Diff.f kj30 l0 l1 t520).bind fun t533 => ((tree_Diff.f kj30 l0 l1 t525).bind fun t536 => (if t533.length + t536.length < 4398046511104 then ((some (t533 ++ t536 : List (S51))).bind fun y539 => (if (y539.length : Int) = (t530.length : Int) then (forebearlaw10_TreeParts.l0 kj30 t530 y539 0 t503 t520 t525) else (some false))) else (none)))) = some r := H
           have A48 := Aside0.mk A480
           clear A480
           replace H := Option.bind_eq_some_iff.mp H
           obtain ⟨t533, A490, H⟩ := H
           replace H : ((tree_Diff.f kj30 l0 l1 t525).bind fun t536 => (if t533.length + t536.length < 4398046511104 then ((some (t533 ++ t536 : List (S51))).bind fun y539 => (if (y539.length : Int) = (t530.length : Int) then (forebearlaw10_TreeParts.l0 kj30 t530 y539 0 t503 t520 t525) else (some false))) else (none))) = some r := H
           have A49 := Aside0.mk A490
           clear A490
           replace H := Option.bind_eq_some_iff.mp H
           obtain ⟨t536, A500, H⟩ := H
           replace H : (if t533.length + t536.length < 4398046511104 then ((some (t533 ++ t536 : List (S51))).bind fun y539 => (if (y539.length : Int) = (t530.length : Int) then (forebearlaw10_TreeParts.l0 kj30 t530 y539 0 t503 t520 t525) else (some false))) else (none)) = some r := H
           have A50 := Aside0.mk A500
           clear A500
           by_cases c51 : t533.length + t536.length < 4398046511104
           ·rw [if_pos c51] at H
            have LMc51 := Aside0.mk c51
            clear c51
            obtain ⟨y539, hy539⟩ : ∃ y_ : List (S51), y_ = (t533 ++ t536) := ⟨_, rfl⟩
            replace H : (if (y539.length : Int) = (t530.length : Int) then (forebearlaw10_TreeParts.l0 kj30 t530 y539 0 t503 t520 t525) else (some false)) = some r := by first | (rw [hy539]; with_reducible exact H) | (have H2_ := (Option.bind_some _ _).symm.trans H; rw [hy539]; with_reducible exact H2_) | (have H2_ := (Option.bind_some _ _).symm.trans H; with_reducible exact H2_) | with_reducible exact H | (rw [hy539]; exact H) | exact H
            have Ny539 := Aside0.mk hy539
            clear hy539
            by_cases c52 : (y539.length : Int) = (t530.length : Int)
            ·rw [if_pos c52] at H
             have c52b0 : ((y539.length : Int) == (t530.length : Int)) = true := beq_iff_eq.mpr c52
             have c52b1 : ((y539.length : Int) != (t530.length : Int)) = false := bne_eq_false_iff_eq.mpr c52
             have c52b2 : (y539.length == t530.length) = true := by first | simpa using c52 | (simp at c52 ⊢; omega)
             clear c52
             have H' := Aside0.mk H
             clear H
             have hnb53 := NB507_524.out
             have hnc53 := NB524_507.out
             have hnb54 := NB507_529.out
             have hnc54 := NB529_507.out
             have hcz55_0 : wc.cell? ⟨gb507, 0, none⟩ = some (.slice Ao13 t503.length co13) := (blk_cell BK507.out 0).trans rfl
             have hfz55_0 := blk_frozen BK507.out 0
             try go_wp2_with (first | ((with_reducible refine gate_callee (f := 15) rfl ?_); refine goesL_ (some 75) rfl rfl Try.func15 (by kernel_rfl) rfl #[.slice A0 l0.length c0, .slice A1 l1.length c1, .agg #[.slice Ao13 t503.length co13]] rfl (by (try simp only [List.map_toArray, List.map_cons, List.map_nil]); first | done | rfl | (simp only [List.length_drop, List.length_take]; rfl)) ?_; (with_reducible refine (tree_Diff.calls kj30 _ _ l0 _ _ l1 _ _ t503 t530 _ ?side1 ?side2 ?side3 ?side4 ?side5 ?side6 A48.out).mono ?_); (case side1 => repeat (first | exact (Kd.C_below HR0.out HB.out) | (with_reducible refine Kd.C_alloc ?_ _) | (with_reducible refine Kd.C_drewN ?_ _) | (with_reducible refine Kd.C_drew ?_))); (case side2 => exact HC0.out); (case side3 => repeat (first | exact (Kd.C_below HR1.out HB.out) | (with_reducible refine Kd.C_alloc ?_ _) | (with_reducible refine Kd.C_drewN ?_ _) | (with_reducible refine Kd.C_drew ?_))); (case side4 => exact HC1.out); (case side5 => repeat (first | exact (Kd.R_reads' HO_508000.out).2.2 | (with_reducible refine Kd.C_alloc ?_ _) | (with_reducible refine Kd.C_drewN ?_ _) | (with_reducible refine Kd.C_drew ?_))); (case side6 => exact (Kd.R_reads' HO_508000.out).2.1); rintro e w56 ⟨v531, rfl, ho0, hb⟩; refine ⟨_, rfl, ?_⟩; have n0_ := Aside0.mk (Kd.R_below (by (with_reducible repeat (first | apply Kd.R_alloc | apply Kd.R_drewN | apply Kd.R_drew)); exact HO_508000.out) hb); have n1_ := Aside0.mk (Kd.R_below (by (with_reducible repeat (first | apply Kd.R_alloc | apply Kd.R_drewN | apply Kd.R_drew)); exact HO_525000.out) hb); have n2_ := Aside0.mk (Kd.R_below (by (with_reducible repeat (first | apply Kd.R_alloc | apply Kd.R_drewN | apply Kd.R_drew)); exact HO_530000.out) hb); have n3_ := Aside0.mk (Kd.R_lower ho0 (below_size (by repeat (first | (with_reducible first | exact HB.out | apply below_alloc | apply pw_below_drewN | apply below_drew1 | refine below_set ?_ GE507.out | refine below_set ?_ GE524.out | refine below_set ?_ GE529.out) | exact HB.out)))); have n4_ := Aside0.mk (blk_below (g := gb507) (o := .cells #[.slice Ao13 t503.length co13] 46 (0, 0)) (by (with_reducible repeat (first | refine blk_drewN ?_ _ | refine blk_drew ?_ | refine blk_alloc ?_ _)); exact BK507.out) hb); have n5_ := Aside0.mk (blk_below (g := gb524) (o := .cells #[.slice Ao37 t520.length co37] 46 (0, 0)) (by (with_reducible repeat (first | refine blk_drewN ?_ _ | refine blk_drew ?_ | refine blk_alloc ?_ _)); exact BK524.out) hb); have n6_ := Aside0.mk (blk_below (g := gb529) (o := .cells #[.slice Ao42 t525.length co42] 46 (0, 0)) (by (with_reducible repeat (first | refine blk_drewN ?_ _ | refine blk_drew ?_ | refine blk_alloc ?_ _)); exact BK529.out) hb); have n7_ := Aside0.mk (Kd.C_below (by repeat (first | (with_reducible exact HR515.out) | (with_reducible refine Kd.C_alloc ?_ _) | (with_reducible refine Kd.C_drewN ?_ _) | (with_reducible refine Kd.C_drew ?_) | exact HR515.out)) hb); have n8_ := Aside0.mk (Kd.C_below (by repeat (first | (with_reducible exact HR519.out) | (with_reducible refine Kd.C_alloc ?_ _) | (with_reducible refine Kd.C_drewN ?_ _) | (with_reducible refine Kd.C_drew ?_) | exact HR519.out)) hb); have n9_ := Aside0.mk (below_step (by repeat (first | (with_reducible first | exact HB.out | apply below_alloc | apply pw_below_drewN | apply below_drew1 | refine below_set ?_ GE507.out | refine below_set ?_ GE524.out | refine below_set ?_ GE529.out) | exact HB.out)) hb); clear HO_508000; clear HO_525000; clear HO_530000; clear BK507; clear BK524; clear BK529; clear HR515; clear HR519; clear HB; have HO_508000 := n0_; have HO_525000 := n1_; have HO_530000 := n2_; have HO532 := n3_; have BK507 := n4_; have BK524 := n5_; have BK529 := n6_; have HR515 := n7_; have HR519 := n8_; have HB := n9_; clear n0_ n1_ n2_ n3_ n4_ n5_ n6_ n7_ n8_ n9_; (try clear hb); (try clear hb2); (try clear hk); (try clear hi); (try clear ho0)))
             have n0_ := Aside0.mk (Kd.R_drew HO_508000.out)
             have n1_ := Aside0.mk (Kd.R_drew HO_525000.out)
             have n2_ := Aside0.mk (Kd.R_drew HO_530000.out)
             have n3_ := Aside0.mk (Kd.R_drew HO532.out)
             have n4_ := Aside0.mk (blk_drew BK507.out)
             have n5_ := Aside0.mk (blk_drew BK524.out)
             have n6_ := Aside0.mk (blk_drew BK529.out)
             have n7_ := Aside0.mk (Kd.C_drew HR515.out)
             have n8_ := Aside0.mk (Kd.C_drew HR519.out)
             have n9_ := Aside0.mk (below_drew1 HB.out)
             clear HO_508000
             clear HO_525000
             clear HO_530000
             clear HO532
             clear BK507
             clear BK524
             clear BK529
             clear HR515
             clear HR519
             clear HB
             have HO_508000 := n0_
             have HO_525000 := n1_
             have HO_530000 := n2_
             have HO532 := n3_
             have BK507 := n4_
             have BK524 := n5_
             have BK529 := n6_
             have HR515 := n7_
             have HR519 := n8_
             have HB := n9_
             clear n0_ n1_ n2_ n3_ n4_ n5_ n6_ n7_ n8_ n9_
             refine start_ (n := 10) (S := fun w' => w'.cell? ⟨gb524, 0, none⟩ = some (.slice Ao37 t520.length co37) ∧ w'.cell? ⟨gb529, 0, none⟩ = some (.slice Ao42 t525.length co42)) (ds := []) #[false, false, false, false, false, false, false, false, false, false] (by kernel_rfl) rfl rfl ⟨(blk_cell BK524.out 0).trans rfl, (blk_cell BK529.out 0).trans rfl⟩ (fun hHeld => ?_); refine with_tabW forebearlaw10_TreeParts.tab13 forebearlaw10_TreeParts.bits13 (fun HT_ HW_ => ?_)
             generalize w56.drew = w57 at HO_508000 HO_525000 HO_530000 HO532 BK507 BK524 BK529 HR515 HR519 HB hHeld ⊢
             refine pure_ (i := 0) (N := some 76) (v := ?_) (a' := ?_) #[true, false, false, false, false, false, false, false, false, false] rfl rfl (any_of HT_.out (by kernel_rfl)) (fun _ _ _ h => h) (Or.inl ⟨by rfl, ?_⟩) ?_ ?_
             rotate_left
             ·intro w'
              go_simp
              with_reducible rfl
             rotate_left
             ·simp only [Act.put, List.setIfInBounds_toArray, List.set_cons_zero, List.set_cons_succ, i64_w, i32_w]
              rfl
             refine pure_ (i := 1) (N := some 77) (v := ?_) (a' := ?_) #[true, true, false, false, false, false, false, false, false, false] rfl rfl (any_of HT_.out (by kernel_rfl)) (fun _ _ _ h => h) (Or.inl ⟨by rfl, ?_⟩) ?_ ?_
             rotate_left
             ·intro w'
              go_simp
              with_reducible rfl
             rotate_left
             ·simp only [Act.put, List.setIfInBounds_toArray, List.set_cons_zero, List.set_cons_succ, i64_w, i32_w]
              rfl
             refine pure_ (i := 4) (N := some 80) (v := ?_) (a' := ?_) #[true, true, false, false, true, false, false, false, false, false] rfl rfl (any_of HT_.out (by kernel_rfl)) (fun _ _ _ h => h) (Or.inl ⟨by rfl, ?_⟩) ?_ ?_
             rotate_left
             ·intro w'
              go_simp
              with_reducible rfl
             rotate_left
             ·simp only [Act.put, List.setIfInBounds_toArray, List.set_cons_zero, List.set_cons_succ, i64_w, i32_w]
              rfl
             refine pure_ (i := 5) (N := some 81) (v := ?_) (a' := ?_) #[true, true, false, false, true, true, false, false, false, false] rfl rfl (any_of HT_.out (by kernel_rfl)) (fun _ _ _ h => h) (Or.inl ⟨by rfl, ?_⟩) ?_ ?_
             rotate_left
             ·intro w'
              go_simp
              with_reducible rfl
             rotate_left
             ·simp only [Act.put, List.setIfInBounds_toArray, List.set_cons_zero, List.set_cons_succ, i64_w, i32_w]
              rfl
             refine take_ (i := 2) (N := some 78) (v := ?_) (a' := ?_) #[true, true, true, false, true, true, false, false, false, false] rfl rfl (take_ofW HT_.out HW_.out (by kernel_rfl)) (fun _ _ _ h => h) (Or.inl ⟨by rfl, ?_⟩) hHeld ?_ ?_
             rotate_left
             ·rintro w' ⟨s0, s1⟩
              go_simp
              with_reducible rfl
             rotate_left
             ·simp only [Act.put, List.setIfInBounds_toArray, List.set_cons_zero, List.set_cons_succ, i64_w, i32_w]
              rfl
             refine take_ (i := 6) (N := some 82) (v := ?_) (a' := ?_) #[true, true, true, false, true, true, true, false, false, false] rfl rfl (take_ofW HT_.out HW_.out (by kernel_rfl)) (fun _ _ _ h => h) (Or.inl ⟨by rfl, ?_⟩) hHeld ?_ ?_
             rotate_left
             ·rintro w' ⟨s0, s1⟩
              go_simp
              with_reducible rfl
             rotate_left
             ·simp only [Act.put, List.setIfInBounds_toArray, List.set_cons_zero, List.set_cons_succ, i64_w, i32_w]
              rfl
             refine one_ (i := 3) (N := some 79) #[true, true, true, true, true, true, true, false, false, false] rfl rfl (one_of HT_.out (by kernel_rfl)) (by decide) (fun K hK => ?_)
             refine goes_ Try.func15 (by kernel_rfl) rfl #[.slice A0 l0.length c0, .slice A1 l1.length c1, .agg #[.slice Ao37 t520.length co37]] (by rfl) rfl rfl (by (try simp only [List.map_toArray, List.map_cons, List.map_nil]); first | done | rfl | (simp only [List.length_drop, List.length_take]; rfl)) ?_
             with_reducible refine (tree_Diff.calls kj30 _ _ l0 _ _ l1 _ _ t520 t533 _ ?side1 ?side2 ?side3 ?side4 ?side5 ?side6 A49.out).mono ?_
             (case side1 => repeat (first | exact (Kd.C_below HR0.out HB.out) | (with_reducible refine Kd.C_alloc ?_ _) | (with_reducible refine Kd.C_drewN ?_ _) | (with_reducible refine Kd.C_drew ?_)))
             (case side2 => exact HC0.out)
             (case side3 => repeat (first | exact (Kd.C_below HR1.out HB.out) | (with_reducible refine Kd.C_alloc ?_ _) | (with_reducible refine Kd.C_drewN ?_ _) | (with_reducible refine Kd.C_drew ?_)))
             (case side4 => exact HC1.out)
             (case side5 => repeat (first | exact (Kd.R_reads' HO_525000.out).2.2 | (with_reducible refine Kd.C_alloc ?_ _) | (with_reducible refine Kd.C_drewN ?_ _) | (with_reducible refine Kd.C_drew ?_)))
             (case side6 => exact (Kd.R_reads' HO_525000.out).2.1)
             rintro e w58 ⟨v534, rfl, ho0, hb⟩
             refine ⟨_, rfl, ?_⟩
             have n0_ := Aside0.mk (Kd.R_below (by (with_reducible repeat (first | apply Kd.R_alloc | apply Kd.R_drewN | apply Kd.R_drew)); exact HO_508000.out) hb)
             have n1_ := Aside0.mk (Kd.R_below (by (with_reducible repeat (first | apply Kd.R_alloc | apply Kd.R_drewN | apply Kd.R_drew)); exact HO_525000.out) hb)
             have n2_ := Aside0.mk (Kd.R_below (by (with_reducible repeat (first | apply Kd.R_alloc | apply Kd.R_drewN | apply Kd.R_drew)); exact HO_530000.out) hb)
             have n3_ := Aside0.mk (Kd.R_elder' (by (with_reducible repeat (first | apply Kd.R_alloc | apply Kd.R_drewN | apply Kd.R_drew)); exact HO532.out) (Kd.R_base ho0) hb)
             have n4_ := Aside0.mk (Kd.R_lower (Kd.R_new' ho0 (Kd.R_lt (by (with_reducible repeat (first | apply Kd.R_alloc | apply Kd.R_drewN | apply Kd.R_drew)); exact HO532.out))) (below_size (by repeat (first | (with_reducible first | exact HB.out | apply below_alloc | apply pw_below_drewN | apply below_drew1 | refine below_set ?_ GE507.out | refine below_set ?_ GE524.out | refine below_set ?_ GE529.out) | exact HB.out))))
             have n5_ := Aside0.mk (blk_below (g := gb507) (o := .cells #[.slice Ao13 t503.length co13] 46 (0, 0)) (by (with_reducible repeat (first | refine blk_drewN ?_ _ | refine blk_drew ?_ | refine blk_alloc ?_ _)); exact BK507.out) hb)
             have n6_ := Aside0.mk (blk_below (g := gb524) (o := .cells #[.slice Ao37 t520.length co37] 46 (0, 0)) (by (with_reducible repeat (first | refine blk_drewN ?_ _ | refine blk_drew ?_ | refine blk_alloc ?_ _)); exact BK524.out) hb)
             have n7_ := Aside0.mk (blk_below (g := gb529) (o := .cells #[.slice Ao42 t525.length co42] 46 (0, 0)) (by (with_reducible repeat (first | refine blk_drewN ?_ _ | refine blk_drew ?_ | refine blk_alloc ?_ _)); exact BK529.out) hb)
             have n8_ := Aside0.mk (Kd.C_below (by repeat (first | (with_reducible exact HR515.out) | (with_reducible refine Kd.C_alloc ?_ _) | (with_reducible refine Kd.C_drewN ?_ _) | (with_reducible refine Kd.C_drew ?_) | exact HR515.out)) hb)
             have n9_ := Aside0.mk (Kd.C_below (by repeat (first | (with_reducible exact HR519.out) | (with_reducible refine Kd.C_alloc ?_ _) | (with_reducible refine Kd.C_drewN ?_ _) | (with_reducible refine Kd.C_drew ?_) | exact HR519.out)) hb)
             have n10_ := Aside0.mk (below_step (by repeat (first | (with_reducible first | exact HB.out | apply below_alloc | apply pw_below_drewN | apply below_drew1 | refine below_set ?_ GE507.out | refine below_set ?_ GE524.out | refine below_set ?_ GE529.out) | exact HB.out)) hb)
             clear HO_508000
             clear HO_525000
             clear HO_530000
             clear HO532
             clear BK507
             clear BK524
             clear BK529
             clear HR515
             clear HR519
             clear HB
             have HO_508000 := n0_
             have HO_525000 := n1_
             have HO_530000 := n2_
             have HO532 := n3_
             have HO535 := n4_
             have BK507 := n5_
             have BK524 := n6_
             have BK529 := n7_
             have HR515 := n8_
             have HR519 := n9_
             have HB := n10_
             clear n0_ n1_ n2_ n3_ n4_ n5_ n6_ n7_ n8_ n9_ n10_
             (try clear hb)
             (try clear hb2)
             (try clear hk)
             (try clear hi)
             (try clear ho0)
             refine hK.out _ _ ⟨(blk_cell BK524.out 0).trans rfl, (blk_cell BK529.out 0).trans rfl⟩ (fun hHeld => ?_)
             clear hK K
             refine norm_ (a' := ?_) ?_ ?_
             rotate_left
             ·show Act.put _ (some 79) _ = _
              simp only [Act.put, List.setIfInBounds_toArray, List.set_cons_zero, List.set_cons_succ, i64_w, i32_w]
              rfl
             refine one_ (i := 7) (N := some 83) #[true, true, true, true, true, true, true, true, false, false] rfl rfl (one_of HT_.out (by kernel_rfl)) (by decide) (fun K hK => ?_)
             refine goes_ Try.func15 (by kernel_rfl) rfl #[.slice A0 l0.length c0, .slice A1 l1.length c1, .agg #[.slice Ao42 t525.length co42]] (by rfl) rfl rfl (by (try simp only [List.map_toArray, List.map_cons, List.map_nil]); first | done | rfl | (simp only [List.length_drop, List.length_take]; rfl)) ?_
             with_reducible refine (tree_Diff.calls kj30 _ _ l0 _ _ l1 _ _ t525 t536 _ ?side1 ?side2 ?side3 ?side4 ?side5 ?side6 A50.out).mono ?_
             (case side1 => repeat (first | exact (Kd.C_below HR0.out HB.out) | (with_reducible refine Kd.C_alloc ?_ _) | (with_reducible refine Kd.C_drewN ?_ _) | (with_reducible refine Kd.C_drew ?_)))
             (case side2 => exact HC0.out)
             (case side3 => repeat (first | exact (Kd.C_below HR1.out HB.out) | (with_reducible refine Kd.C_alloc ?_ _) | (with_reducible refine Kd.C_drewN ?_ _) | (with_reducible refine Kd.C_drew ?_)))
             (case side4 => exact HC1.out)
             (case side5 => repeat (first | exact (Kd.R_reads' HO_530000.out).2.2 | (with_reducible refine Kd.C_alloc ?_ _) | (with_reducible refine Kd.C_drewN ?_ _) | (with_reducible refine Kd.C_drew ?_)))
             (case side6 => exact (Kd.R_reads' HO_530000.out).2.1)
             rintro e w59 ⟨v537, rfl, ho0, hb⟩
             refine ⟨_, rfl, ?_⟩
             have n0_ := Aside0.mk (Kd.R_below (by (with_reducible repeat (first | apply Kd.R_alloc | apply Kd.R_drewN | apply Kd.R_drew)); exact HO_508000.out) hb)
             have n1_ := Aside0.mk (Kd.R_below (by (with_reducible repeat (first | apply Kd.R_alloc | apply Kd.R_drewN | apply Kd.R_drew)); exact HO_525000.out) hb)
             have n2_ := Aside0.mk (Kd.R_below (by (with_reducible repeat (first | apply Kd.R_alloc | apply Kd.R_drewN | apply Kd.R_drew)); exact HO_530000.out) hb)
             have n3_ := Aside0.mk (Kd.R_elder' (by (with_reducible repeat (first | apply Kd.R_alloc | apply Kd.R_drewN | apply Kd.R_drew)); exact HO532.out) (Kd.R_base ho0) hb)
             have n4_ := Aside0.mk (Kd.R_elder' (by (with_reducible repeat (first | apply Kd.R_alloc | apply Kd.R_drewN | apply Kd.R_drew)); exact HO535.out) (Kd.R_base ho0) hb)
             have n5_ := Aside0.mk (Kd.R_lower (Kd.R_new' (Kd.R_new' ho0 (Kd.R_lt (by (with_reducible repeat (first | apply Kd.R_alloc | apply Kd.R_drewN | apply Kd.R_drew)); exact HO532.out))) (Kd.R_lt (by (with_reducible repeat (first | apply Kd.R_alloc | apply Kd.R_drewN | apply Kd.R_drew)); exact HO535.out))) (below_size (by repeat (first | (with_reducible first | exact HB.out | apply below_alloc | apply pw_below_drewN | apply below_drew1 | refine below_set ?_ GE507.out | refine below_set ?_ GE524.out | refine below_set ?_ GE529.out) | exact HB.out))))
             have n6_ := Aside0.mk (blk_below (g := gb507) (o := .cells #[.slice Ao13 t503.length co13] 46 (0, 0)) (by (with_reducible repeat (first | refine blk_drewN ?_ _ | refine blk_drew ?_ | refine blk_alloc ?_ _)); exact BK507.out) hb)
             have n7_ := Aside0.mk (blk_below (g := gb524) (o := .cells #[.slice Ao37 t520.length co37] 46 (0, 0)) (by (with_reducible repeat (first | refine blk_drewN ?_ _ | refine blk_drew ?_ | refine blk_alloc ?_ _)); exact BK524.out) hb)
             have n8_ := Aside0.mk (blk_below (g := gb529) (o := .cells #[.slice Ao42 t525.length co42] 46 (0, 0)) (by (with_reducible repeat (first | refine blk_drewN ?_ _ | refine blk_drew ?_ | refine blk_alloc ?_ _)); exact BK529.out) hb)
             have n9_ := Aside0.mk (Kd.C_below (by repeat (first | (with_reducible exact HR515.out) | (with_reducible refine Kd.C_alloc ?_ _) | (with_reducible refine Kd.C_drewN ?_ _) | (with_reducible refine Kd.C_drew ?_) | exact HR515.out)) hb)
             have n10_ := Aside0.mk (Kd.C_below (by repeat (first | (with_reducible exact HR519.out) | (with_reducible refine Kd.C_alloc ?_ _) | (with_reducible refine Kd.C_drewN ?_ _) | (with_reducible refine Kd.C_drew ?_) | exact HR519.out)) hb)
             have n11_ := Aside0.mk (below_step (by repeat (first | (with_reducible first | exact HB.out | apply below_alloc | apply pw_below_drewN | apply below_drew1 | refine below_set ?_ GE507.out | refine below_set ?_ GE524.out | refine below_set ?_ GE529.out) | exact HB.out)) hb)
             clear HO_508000
             clear HO_525000
             clear HO_530000
             clear HO532
             clear HO535
             clear BK507
             clear BK524
             clear BK529
             clear HR515
             clear HR519
             clear HB
             have HO_508000 := n0_
             have HO_525000 := n1_
             have HO_530000 := n2_
             have HO532 := n3_
             have HO535 := n4_
             have HO538 := n5_
             have BK507 := n6_
             have BK524 := n7_
             have BK529 := n8_
             have HR515 := n9_
             have HR519 := n10_
             have HB := n11_
             clear n0_ n1_ n2_ n3_ n4_ n5_ n6_ n7_ n8_ n9_ n10_ n11_
             (try clear hb)
             (try clear hb2)
             (try clear hk)
             (try clear hi)
             (try clear ho0)
             obtain ⟨Ao61, co61, eo61⟩ := Kd.R_slice HO538.out
             (first | subst eo61 | (injection eo61 with f1_ f2_ f3_; have f4_ := f1_.symm; have f5_ := f3_.symm; clear f1_ f2_ f3_; subst f4_; subst f5_))
             refine hK.out _ _ ⟨(blk_cell BK524.out 0).trans rfl, (blk_cell BK529.out 0).trans rfl⟩ (fun hHeld => ?_)
             clear hK K
             refine norm_ (a' := ?_) ?_ ?_
             rotate_left
             ·show Act.put _ (some 83) _ = _
              simp only [Act.put, List.setIfInBounds_toArray, List.set_cons_zero, List.set_cons_succ, i64_w, i32_w]
              rfl
             refine one_ (i := 8) (N := some 84) #[true, true, true, true, true, true, true, true, true, false] rfl rfl (one_of HT_.out (by kernel_rfl)) (by decide) (fun K hK => ?_)
             refine Kd.R_append_rows_step k51 (w0 := w) w.heap.size (by rfl) (.tmp 79) (.tmp 83) 43 51 (.agg #[(.string ⟨#[]⟩), (.int .u64 0), (.int .u64 0)]) 32 rfl Try.underlying43 info51 rfl (by decide) (by omega) v534 t533 t536 _ _ _ (fun k_ => some k_ ≠ (v531 : Value).ownBlock ∧ some k_ ≠ (.slice Ao61 t536.length co61 : Value).ownBlock) (fun _ => False) rfl rfl ?aO ?aR (fun _ _ h => h) (fun _ h => h.elim) ?aF ?aB ?aS ?aL ?_
             (case aR => repeat (first | exact (Kd.R_reads' HO538.out).2.2 | (with_reducible refine Kd.C_alloc ?_ _) | (with_reducible refine Kd.C_drewN ?_ _) | (with_reducible refine Kd.C_drew ?_)))
             (case aB => exact (by repeat (first | (with_reducible first | exact HB.out | apply below_alloc | apply pw_below_drewN | apply below_drew1 | refine below_set ?_ GE507.out | refine below_set ?_ GE524.out | refine below_set ?_ GE529.out) | exact HB.out)))
             (case aF => exact (fun k_ hk => ⟨Kd.fresh' (Kd.R_lt (by (with_reducible repeat (first | apply Kd.R_alloc | apply Kd.R_drewN | apply Kd.R_drew)); exact HO532.out)) k_ hk, Kd.fresh' (Kd.R_lt (by (with_reducible repeat (first | apply Kd.R_alloc | apply Kd.R_drewN | apply Kd.R_drew)); exact HO538.out)) k_ hk⟩))
             (case aO => exact (by (with_reducible repeat (first | apply Kd.R_alloc | apply Kd.R_drewN | apply Kd.R_drew)); exact Kd.R_mono HO535.out (fun _ hk => ⟨hk.1.2, hk.2⟩)))
             (case aS => exact (below_size (by repeat (first | (with_reducible first | exact HB.out | apply below_alloc | apply pw_below_drewN | apply below_drew1 | refine below_set ?_ GE507.out | refine below_set ?_ GE524.out | refine below_set ?_ GE529.out) | exact HB.out))))
             (case aL => have := LMc51.out; omega)
             intro v540 w60 ho hb hg hat
             rw [← Ny539.out] at ho
             have n0_ := Aside0.mk (Kd.R_over' (by (with_reducible repeat (first | apply Kd.R_alloc | apply Kd.R_drewN | apply Kd.R_drew)); exact HO_508000.out) (Kd.R_typed (by (with_reducible repeat (first | apply Kd.R_alloc | apply Kd.R_drewN | apply Kd.R_drew)); exact HO535.out)) (by decide) hg)
             have n1_ := Aside0.mk (Kd.R_over' (by (with_reducible repeat (first | apply Kd.R_alloc | apply Kd.R_drewN | apply Kd.R_drew)); exact HO_525000.out) (Kd.R_typed (by (with_reducible repeat (first | apply Kd.R_alloc | apply Kd.R_drewN | apply Kd.R_drew)); exact HO535.out)) (by decide) hg)
             have n2_ := Aside0.mk (Kd.R_over' (by (with_reducible repeat (first | apply Kd.R_alloc | apply Kd.R_drewN | apply Kd.R_drew)); exact HO_530000.out) (Kd.R_typed (by (with_reducible repeat (first | apply Kd.R_alloc | apply Kd.R_drewN | apply Kd.R_drew)); exact HO535.out)) (by decide) hg)
             have n3_ := Aside0.mk (blk_grown (g := gb507) (o := .cells #[.slice Ao13 t503.length co13] 46 (0, 0)) (by (with_reducible repeat (first | refine blk_drewN ?_ _ | refine blk_drew ?_ | refine blk_alloc ?_ _)); exact BK507.out) hg (Kd.R_ne HO535.out BK507.out (by decide)))
             have n4_ := Aside0.mk (blk_grown (g := gb524) (o := .cells #[.slice Ao37 t520.length co37] 46 (0, 0)) (by (with_reducible repeat (first | refine blk_drewN ?_ _ | refine blk_drew ?_ | refine blk_alloc ?_ _)); exact BK524.out) hg (Kd.R_ne HO535.out BK524.out (by decide)))
             have n5_ := Aside0.mk (blk_grown (g := gb529) (o := .cells #[.slice Ao42 t525.length co42] 46 (0, 0)) (by (with_reducible repeat (first | refine blk_drewN ?_ _ | refine blk_drew ?_ | refine blk_alloc ?_ _)); exact BK529.out) hg (Kd.R_ne HO535.out BK529.out (by decide)))
             have n6_ := Aside0.mk (Kd.R_after (ok := (fun k_ => some k_ ≠ (.slice Ao61 t536.length co61 : Value).ownBlock)) (by (with_reducible repeat (first | apply Kd.R_alloc | apply Kd.R_drewN | apply Kd.R_drew)); exact Kd.R_mono HO532.out (fun _ hk => ⟨hk.2, hk.1.2⟩)) hg hat)
             have n7_ := Aside0.mk (Kd.R_after (ok := (fun k_ => some k_ ≠ (v531 : Value).ownBlock)) (by (with_reducible repeat (first | apply Kd.R_alloc | apply Kd.R_drewN | apply Kd.R_drew)); exact Kd.R_mono HO538.out (fun _ hk => ⟨hk.1.2, hk.2⟩)) hg hat)
             have n8_ := Aside0.mk (hb)
             have n9_ := Aside0.mk (ho)
             clear HO_508000
             clear HO_525000
             clear HO_530000
             clear BK507
             clear BK524
             clear BK529
             clear HO532
             clear HO538
             clear HB
             clear HO535
             have HO_508000 := n0_
             have HO_525000 := n1_
             have HO_530000 := n2_
             have BK507 := n3_
             have BK524 := n4_
             have BK529 := n5_
             have HO532 := n6_
             have HO538 := n7_
             have HB := n8_
             have HO541 := n9_
             clear n0_ n1_ n2_ n3_ n4_ n5_ n6_ n7_ n8_ n9_
             clear ho hb hg hat
             refine hK.out _ _ ⟨(blk_cell BK524.out 0).trans rfl, (blk_cell BK529.out 0).trans rfl⟩ (fun hHeld => ?_)
             clear hK K
             refine norm_ (a' := ?_) ?_ ?_
             rotate_left
             ·show Act.put _ (some 84) _ = _
              simp only [Act.put, List.setIfInBounds_toArray, List.set_cons_zero, List.set_cons_succ, i64_w, i32_w]
              rfl
             refine pure_ (i := 9) (N := some 17) (v := ?_) (a' := ?_) #[true, true, true, true, true, true, true, true, true, true] rfl rfl (any_of HT_.out (by kernel_rfl)) (fun _ _ _ h => h) (Or.inl ⟨by rfl, ?_⟩) ?_ ?_
             rotate_left
             ·intro w'
              go_simp
              with_reducible rfl
             rotate_left
             ·simp only [Act.put, List.setIfInBounds_toArray, List.set_cons_zero, List.set_cons_succ, i64_w, i32_w]
              rfl
             refine done_ (done_of HT_.out (by kernel_rfl)) ?_
             obtain ⟨Ao62, co62, eo62⟩ := Kd.R_slice HO541.out
             subst eo62
             obtain ⟨Ao63, co63, eo63⟩ := Kd.R_slice HO532.out
             subst eo63
             try go_wp2
             go_loopg [18] kj30 (fun kq v18 w' => ∃ (x18_3 : Int), v18 = .int .i64 x18_3 ∧ Aside0 (forebearlaw10_TreeParts.l0 kq t530 y539 x18_3 t503 t520 t525 = some r) ∧ Aside0 (kq ≤ kj30) ∧ Aside0 (Kd.R k51 51 w' w.heap.size (fun k_ => some k_ ≠ ((.slice Ao62 y539.length co62) : Value).ownBlock) (.slice Ao63 t530.length co63) t530) ∧ Aside0 (Kd.R k51 51 w' w.heap.size (fun k_ => some k_ ≠ ((.slice Ao63 t530.length co63) : Value).ownBlock) (.slice Ao62 y539.length co62) y539) ∧ Aside0 (Kd.R Kd.string 9 w' w.heap.size (fun k_ => some k_ ≠ ((.slice Ao37 t520.length co37) : Value).ownBlock ∧ some k_ ≠ ((.slice Ao42 t525.length co42) : Value).ownBlock) (.slice Ao13 t503.length co13) t503) ∧ Aside0 (Kd.R Kd.string 9 w' w.heap.size (fun k_ => some k_ ≠ ((.slice Ao13 t503.length co13) : Value).ownBlock ∧ some k_ ≠ ((.slice Ao42 t525.length co42) : Value).ownBlock) (.slice Ao37 t520.length co37) t520) ∧ Aside0 (Kd.R Kd.string 9 w' w.heap.size (fun k_ => some k_ ≠ ((.slice Ao13 t503.length co13) : Value).ownBlock ∧ some k_ ≠ ((.slice Ao37 t520.length co37) : Value).ownBlock) (.slice Ao42 t525.length co42) t525) ∧ Aside0 (w'.heap[gb507]? = some (.cells #[(.slice Ao13 t503.length co13)] 46 (0, 0))) ∧ Aside0 (w'.heap[gb524]? = some (.cells #[(.slice Ao37 t520.length co37)] 46 (0, 0))) ∧ Aside0 (w'.heap[gb529]? = some (.cells #[(.slice Ao42 t525.length co42)] 46 (0, 0))) ∧ Aside0 (Below w.heap.size w w'))
             case atStart => exact ⟨(0), (by first | rfl | (simp; done) | (simp [*]; done)), H', ⟨Nat.le_refl _⟩, ⟨by (with_reducible repeat (first | apply Kd.R_alloc | apply Kd.R_drewN | apply Kd.R_drew)); exact Kd.R_mono HO532.out (fun _ hk => hk.2)⟩, ⟨by (with_reducible repeat (first | apply Kd.R_alloc | apply Kd.R_drewN | apply Kd.R_drew)); exact Kd.R_mono HO541.out (fun _ hk => hk.1)⟩, ⟨by (with_reducible repeat (first | apply Kd.R_alloc | apply Kd.R_drewN | apply Kd.R_drew)); exact HO_508000.out⟩, ⟨by (with_reducible repeat (first | apply Kd.R_alloc | apply Kd.R_drewN | apply Kd.R_drew)); exact HO_525000.out⟩, ⟨by (with_reducible repeat (first | apply Kd.R_alloc | apply Kd.R_drewN | apply Kd.R_drew)); exact HO_530000.out⟩, ⟨by (with_reducible repeat (first | refine blk_drewN ?_ _ | refine blk_drew ?_ | refine blk_alloc ?_ _)); exact BK507.out⟩, ⟨by (with_reducible repeat (first | refine blk_drewN ?_ _ | refine blk_drew ?_ | refine blk_alloc ?_ _)); exact BK524.out⟩, ⟨by (with_reducible repeat (first | refine blk_drewN ?_ _ | refine blk_drew ?_ | refine blk_alloc ?_ _)); exact BK529.out⟩, ⟨by repeat (first | (with_reducible first | exact HB.out | apply below_alloc | apply pw_below_drewN | apply below_drew1 | refine below_set ?_ GE507.out | refine below_set ?_ GE524.out | refine below_set ?_ GE529.out) | exact HB.out)⟩⟩
             case round =>
              clear H'
              try clear c1
              try clear c2
              try clear p2
              try clear c3
              try clear q3
              try clear c4
              try clear c5
              try clear c6
              try clear p6
              try clear c7
              try clear c8
              try clear c15
              try clear c16
              try clear c16b0
              try clear c16b1
              try clear c18
              try clear c22
              try clear c23
              try clear c23b0
              try clear c23b1
              try clear c24
              try clear c25
              try clear c25b0
              try clear c25b1
              try clear c26
              try clear c26b0
              try clear c26b1
              try clear c27
              try clear c27b0
              try clear c28
              try clear c28b0
              try clear q33
              try clear c34
              try clear q34
              try clear c38
              try clear c43
              try clear c44
              try clear c46
              try clear c46b0
              try clear c46b1
              try clear c47
              try clear c51
              try clear c52
              try clear c52b0
              try clear c52b1
              try clear c52b2
              try clear c53
              try clear c54
              try clear hcz14_0
              try clear hcz39_0
              try clear hcz45_0
              try clear hcz55_0
              try clear hfz14_0
              try clear hfz39_0
              try clear hfz45_0
              try clear hfz55_0
              try clear p2
              try clear p6
              try clear q034
              try clear q3
              try clear q33
              try clear q34
              obtain ⟨x18_3, rfl, HA, HK3, HO_16, HO_17, HO_508000, HO_525000, HO_530000, BK507, BK524, BK529, HB⟩ := hrel
              cases gk with
              | zero => exact absurd HA.out (by simp [forebearlaw10_TreeParts.l0])
              | succ k3 =>
               have H := HA.out
               clear HA
               simp only [forebearlaw10_TreeParts.l0] at H
               by_cases c64 : x18_3 < (t530.length : Int)
               ·rw [if_pos c64] at H
                have c64b0 : decide (x18_3 < (t530.length : Int)) = true := decide_eq_true c64
                clear c64
                have H' := Aside0.mk H
                clear H
                go_wp2
                go_loopg [19, 20] k3 (fun kq v19 v20 w' => ∃ (x19_4 : Bool) (x20_4 : Int), v19 = .bool x19_4 ∧ v20 = .int .i64 x20_4 ∧ Aside0 (forebearlaw10_TreeParts.l1 kq t530 y539 x18_3 x19_4 x20_4 t503 t520 t525 = some r) ∧ Aside0 (kq ≤ k3) ∧ Aside0 (Kd.R k51 51 w' w.heap.size (fun k_ => some k_ ≠ ((.slice Ao62 y539.length co62) : Value).ownBlock) (.slice Ao63 t530.length co63) t530) ∧ Aside0 (Kd.R k51 51 w' w.heap.size (fun k_ => some k_ ≠ ((.slice Ao63 t530.length co63) : Value).ownBlock) (.slice Ao62 y539.length co62) y539) ∧ Aside0 (Kd.R Kd.string 9 w' w.heap.size (fun k_ => some k_ ≠ ((.slice Ao37 t520.length co37) : Value).ownBlock ∧ some k_ ≠ ((.slice Ao42 t525.length co42) : Value).ownBlock) (.slice Ao13 t503.length co13) t503) ∧ Aside0 (Kd.R Kd.string 9 w' w.heap.size (fun k_ => some k_ ≠ ((.slice Ao13 t503.length co13) : Value).ownBlock ∧ some k_ ≠ ((.slice Ao42 t525.length co42) : Value).ownBlock) (.slice Ao37 t520.length co37) t520) ∧ Aside0 (Kd.R Kd.string 9 w' w.heap.size (fun k_ => some k_ ≠ ((.slice Ao13 t503.length co13) : Value).ownBlock ∧ some k_ ≠ ((.slice Ao37 t520.length co37) : Value).ownBlock) (.slice Ao42 t525.length co42) t525) ∧ Aside0 (w'.heap[gb507]? = some (.cells #[(.slice Ao13 t503.length co13)] 46 (0, 0))) ∧ Aside0 (w'.heap[gb524]? = some (.cells #[(.slice Ao37 t520.length co37)] 46 (0, 0))) ∧ Aside0 (w'.heap[gb529]? = some (.cells #[(.slice Ao42 t525.length co42)] 46 (0, 0))) ∧ Aside0 (Below w.heap.size w w'))
                case atStart => exact ⟨(false), (0), (by first | rfl | (simp; done) | (simp [*]; done)), (by first | rfl | (simp; done) | (simp [*]; done)), H', ⟨Nat.le_refl _⟩, ⟨by (with_reducible repeat (first | apply Kd.R_alloc | apply Kd.R_drewN | apply Kd.R_drew)); exact HO_16.out⟩, ⟨by (with_reducible repeat (first | apply Kd.R_alloc | apply Kd.R_drewN | apply Kd.R_drew)); exact HO_17.out⟩, ⟨by (with_reducible repeat (first | apply Kd.R_alloc | apply Kd.R_drewN | apply Kd.R_drew)); exact HO_508000.out⟩, ⟨by (with_reducible repeat (first | apply Kd.R_alloc | apply Kd.R_drewN | apply Kd.R_drew)); exact HO_525000.out⟩, ⟨by (with_reducible repeat (first | apply Kd.R_alloc | apply Kd.R_drewN | apply Kd.R_drew)); exact HO_530000.out⟩, ⟨by (with_reducible repeat (first | refine blk_drewN ?_ _ | refine blk_drew ?_ | refine blk_alloc ?_ _)); exact BK507.out⟩, ⟨by (with_reducible repeat (first | refine blk_drewN ?_ _ | refine blk_drew ?_ | refine blk_alloc ?_ _)); exact BK524.out⟩, ⟨by (with_reducible repeat (first | refine blk_drewN ?_ _ | refine blk_drew ?_ | refine blk_alloc ?_ _)); exact BK529.out⟩, ⟨by repeat (first | (with_reducible first | exact HB.out | apply below_alloc | apply pw_below_drewN | apply below_drew1 | refine below_set ?_ GE507.out | refine below_set ?_ GE524.out | refine below_set ?_ GE529.out) | exact HB.out)⟩⟩
                case round =>
                 clear H'
                 try clear c1
                 try clear c2
                 try clear p2
                 try clear c3
                 try clear q3
                 try clear c4
                 try clear c5
                 try clear c6
                 try clear p6
                 try clear c7
                 try clear c8
                 try clear c15
                 try clear c16
                 try clear c16b0
                 try clear c16b1
                 try clear c18
                 try clear c22
                 try clear c23
                 try clear c23b0
                 try clear c23b1
                 try clear c24
                 try clear c25
                 try clear c25b0
                 try clear c25b1
                 try clear c26
                 try clear c26b0
                 try clear c26b1
                 try clear c27
                 try clear c27b0
                 try clear c28
                 try clear c28b0
                 try clear q33
                 try clear c34
                 try clear q34
                 try clear c38
                 try clear c43
                 try clear c44
                 try clear c46
                 try clear c46b0
                 try clear c46b1
                 try clear c47
                 try clear c51
                 try clear c52
                 try clear c52b0
                 try clear c52b1
                 try clear c52b2
                 try clear c53
                 try clear c54
                 try clear c64
                 try clear c64b0
                 try clear p64
                 try clear hcz14_0
                 try clear hcz39_0
                 try clear hcz45_0
                 try clear hcz55_0
                 try clear hfz14_0
                 try clear hfz39_0
                 try clear hfz45_0
                 try clear hfz55_0
                 try clear p2
                 try clear p6
                 try clear q034
                 try clear q3
                 try clear q33
                 try clear q34
                 obtain ⟨x19_4, x20_4, rfl, rfl, HA, HK4, HO_16, HO_17, HO_508000, HO_525000, HO_530000, BK507, BK524, BK529, HB⟩ := hrel
                 cases gk with
                 | zero => exact absurd HA.out (by simp [forebearlaw10_TreeParts.l1])
                 | succ k4 =>
                  have H := HA.out
                  clear HA
                  simp only [forebearlaw10_TreeParts.l1] at H
                  by_cases c65 : x20_4 < (y539.length : Int)
                  ·rw [if_pos c65] at H
                   have c65b0 : decide (x20_4 < (y539.length : Int)) = true := decide_eq_true c65
                   clear c65
                   by_cases c66 : x19_4 = true
                   ·subst c66
                    have H1 : (forebearlaw10_TreeParts.l1 k4 t530 y539 x18_3 true (wrap64 (x20_4 + 1)) t503 t520 t525) = some r := by rw [if_pos rfl] at H; exact H
                    clear H
                    have H := H1
                    clear H1
                    have H' := Aside0.mk H
                    clear H
                    try go_wp2
                    have n0_ := Aside0.mk (Kd.R_drew HO_16.out)
                    have n1_ := Aside0.mk (Kd.R_drew HO_17.out)
                    have n2_ := Aside0.mk (Kd.R_drew HO_508000.out)
                    have n3_ := Aside0.mk (Kd.R_drew HO_525000.out)
                    have n4_ := Aside0.mk (Kd.R_drew HO_530000.out)
                    have n5_ := Aside0.mk (blk_drew BK507.out)
                    have n6_ := Aside0.mk (blk_drew BK524.out)
                    have n7_ := Aside0.mk (blk_drew BK529.out)
                    have n8_ := Aside0.mk (below_drew1 HB.out)
                    clear HO_16
                    clear HO_17
                    clear HO_508000
                    clear HO_525000
                    clear HO_530000
                    clear BK507
                    clear BK524
                    clear BK529
                    clear HB
                    have HO_16 := n0_
                    have HO_17 := n1_
                    have HO_508000 := n2_
                    have HO_525000 := n3_
                    have HO_530000 := n4_
                    have BK507 := n5_
                    have BK524 := n6_
                    have BK529 := n7_
                    have HB := n8_
                    clear n0_ n1_ n2_ n3_ n4_ n5_ n6_ n7_ n8_
                    refine start_ (n := 13) (S := fun w' => True) (ds := []) (vb 0 13) (by kernel_rfl) rfl rfl trivial (fun hHeld => ?_); refine with_tabW forebearlaw10_TreeParts.tab23 forebearlaw10_TreeParts.bits23 (fun HT_ HW_ => ?_)
                    generalize wr.drew = w67 at HO_16 HO_17 HO_508000 HO_525000 HO_530000 BK507 BK524 BK529 HB hHeld ⊢
                    refine pure_ (i := 0) (N := some 102) (v := ?_) (a' := ?_) (vb 1 13) rfl rfl (any_of HT_.out (by kernel_rfl)) (fun _ _ _ h => h) (Or.inl ⟨by rfl, ?_⟩) ?_ ?_
                    rotate_left
                    ·intro w'
                     go_simp
                     with_reducible rfl
                    rotate_left
                    ·simp only [Act.put, List.setIfInBounds_toArray, List.set_cons_zero, List.set_cons_succ, i64_w, i32_w]
                     rfl
                    refine pure_ (i := 1) (N := some 103) (v := ?_) (a' := ?_) (vb 3 13) rfl rfl (any_of HT_.out (by kernel_rfl)) (fun _ _ _ h => h) (Or.inl ⟨by rfl, ?_⟩) ?_ ?_
                    rotate_left
                    ·intro w'
                     go_simp
                     with_reducible rfl
                    rotate_left
                    ·simp only [Act.put, List.setIfInBounds_toArray, List.set_cons_zero, List.set_cons_succ, i64_w, i32_w]
                     rfl
                    refine pure_ (i := 2) (N := some 104) (v := undef) (a' := ?_) (vb 7 13) rfl rfl (any_of HT_.out (by kernel_rfl)) (fun _ _ _ h => h) (Or.inr ⟨by rfl, rfl⟩) ?_ ?_
                    rotate_left
                    ·simp only [Act.put, List.setIfInBounds_toArray, List.set_cons_zero, List.set_cons_succ, i64_w, i32_w]
                     rfl
                    refine pure_ (i := 3) (N := some 105) (v := undef) (a' := ?_) (vb 15 13) rfl rfl (any_of HT_.out (by kernel_rfl)) (fun _ _ _ h => h) (Or.inr ⟨by rfl, rfl⟩) ?_ ?_
                    rotate_left
                    ·simp only [Act.put, List.setIfInBounds_toArray, List.set_cons_zero, List.set_cons_succ, i64_w, i32_w]
                     rfl
                    refine pure_ (i := 4) (N := some 106) (v := undef) (a' := ?_) (vb 31 13) rfl rfl (any_of HT_.out (by kernel_rfl)) (fun _ _ _ h => h) (Or.inr ⟨by rfl, rfl⟩) ?_ ?_
                    rotate_left
                    ·simp only [Act.put, List.setIfInBounds_toArray, List.set_cons_zero, List.set_cons_succ, i64_w, i32_w]
                     rfl
                    refine pure_ (i := 5) (N := some 107) (v := undef) (a' := ?_) (vb 63 13) rfl rfl (any_of HT_.out (by kernel_rfl)) (fun _ _ _ h => h) (Or.inr ⟨by rfl, rfl⟩) ?_ ?_
                    rotate_left
                    ·simp only [Act.put, List.setIfInBounds_toArray, List.set_cons_zero, List.set_cons_succ, i64_w, i32_w]
                     rfl
                    refine pure_ (i := 6) (N := some 108) (v := undef) (a' := ?_) (vb 127 13) rfl rfl (any_of HT_.out (by kernel_rfl)) (fun _ _ _ h => h) (Or.inr ⟨by rfl, rfl⟩) ?_ ?_
                    rotate_left
                    ·simp only [Act.put, List.setIfInBounds_toArray, List.set_cons_zero, List.set_cons_succ, i64_w, i32_w]
                     rfl
                    refine pure_ (i := 7) (N := some 109) (v := undef) (a' := ?_) (vb 255 13) rfl rfl (any_of HT_.out (by kernel_rfl)) (fun _ _ _ h => h) (Or.inr ⟨by rfl, rfl⟩) ?_ ?_
                    rotate_left
                    ·simp only [Act.put, List.setIfInBounds_toArray, List.set_cons_zero, List.set_cons_succ, i64_w, i32_w]
                     rfl
                    refine pure_ (i := 8) (N := some 110) (v := undef) (a' := ?_) (vb 511 13) rfl rfl (any_of HT_.out (by kernel_rfl)) (fun _ _ _ h => h) (Or.inr ⟨by rfl, rfl⟩) ?_ ?_
                    rotate_left
                    ·simp only [Act.put, List.setIfInBounds_toArray, List.set_cons_zero, List.set_cons_succ, i64_w, i32_w]
                     rfl
                    refine pure_ (i := 9) (N := some 111) (v := undef) (a' := ?_) (vb 1023 13) rfl rfl (any_of HT_.out (by kernel_rfl)) (fun _ _ _ h => h) (Or.inr ⟨by rfl, rfl⟩) ?_ ?_
                    rotate_left
                    ·simp only [Act.put, List.setIfInBounds_toArray, List.set_cons_zero, List.set_cons_succ, i64_w, i32_w]
                     rfl
                    refine pure_ (i := 10) (N := some 112) (v := undef) (a' := ?_) (vb 2047 13) rfl rfl (any_of HT_.out (by kernel_rfl)) (fun _ _ _ h => h) (Or.inr ⟨by rfl, rfl⟩) ?_ ?_
                    rotate_left
                    ·simp only [Act.put, List.setIfInBounds_toArray, List.set_cons_zero, List.set_cons_succ, i64_w, i32_w]
                     rfl
                    refine pure_ (i := 11) (N := some 113) (v := ?_) (a' := ?_) (vb 4095 13) rfl rfl (any_of HT_.out (by kernel_rfl)) (fun _ _ _ h => h) (Or.inl ⟨by rfl, ?_⟩) ?_ ?_
                    rotate_left
                    ·intro w'
                     go_simp
                     with_reducible rfl
                    rotate_left
                    ·simp only [Act.put, List.setIfInBounds_toArray, List.set_cons_zero, List.set_cons_succ, i64_w, i32_w]
                     rfl
                    refine pure_ (i := 12) (N := some 19) (v := ?_) (a' := ?_) (vb 8191 13) rfl rfl (any_of HT_.out (by kernel_rfl)) (fun _ _ _ h => h) (Or.inl ⟨by rfl, ?_⟩) ?_ ?_
                    rotate_left
                    ·intro w'
                     go_simp
                     with_reducible rfl
                    rotate_left
                    ·simp only [Act.put, List.setIfInBounds_toArray, List.set_cons_zero, List.set_cons_succ, i64_w, i32_w]
                     rfl
                    refine done_ (done_of HT_.out (by kernel_rfl)) ?_
                    try go_wp2
                    go_roundg k4
                    case measure => have := HJ8.out; have := HJ30.out; have := HK3.out; have := HK4.out; omega
                    case rel => exact ⟨(true), (wrap64 (x20_4 + 1)), (by first | rfl | (simp; done) | (simp [*]; done)), (by first | rfl | (simp; done) | (simp [*]; done)), H', ⟨by have := HJ8.out; have := HJ30.out; have := HK3.out; have := HK4.out; omega⟩, ⟨by (with_reducible repeat (first | apply Kd.R_alloc | apply Kd.R_drewN | apply Kd.R_drew)); exact HO_16.out⟩, ⟨by (with_reducible repeat (first | apply Kd.R_alloc | apply Kd.R_drewN | apply Kd.R_drew)); exact HO_17.out⟩, ⟨by (with_reducible repeat (first | apply Kd.R_alloc | apply Kd.R_drewN | apply Kd.R_drew)); exact HO_508000.out⟩, ⟨by (with_reducible repeat (first | apply Kd.R_alloc | apply Kd.R_drewN | apply Kd.R_drew)); exact HO_525000.out⟩, ⟨by (with_reducible repeat (first | apply Kd.R_alloc | apply Kd.R_drewN | apply Kd.R_drew)); exact HO_530000.out⟩, ⟨by (with_reducible repeat (first | refine blk_drewN ?_ _ | refine blk_drew ?_ | refine blk_alloc ?_ _)); exact BK507.out⟩, ⟨by (with_reducible repeat (first | refine blk_drewN ?_ _ | refine blk_drew ?_ | refine blk_alloc ?_ _)); exact BK524.out⟩, ⟨by (with_reducible repeat (first | refine blk_drewN ?_ _ | refine blk_drew ?_ | refine blk_alloc ?_ _)); exact BK529.out⟩, ⟨by repeat (first | (with_reducible first | exact HB.out | apply below_alloc | apply pw_below_drewN | apply below_drew1 | refine below_set ?_ GE507.out | refine below_set ?_ GE524.out | refine below_set ?_ GE529.out) | exact HB.out)⟩⟩
                   ·replace c66 := Bool.eq_false_iff.mpr c66
                    subst c66
                    have H1 : (if 0 ≤ x20_4 then (if 0 ≤ x18_3 then (if x18_3 < (t530.length : Int) then (forebearlaw10_TreeParts.l1 k4 t530 y539 x18_3 ((((rd_T51 y539 x20_4).f0).toList) == (((rd_T51 t530 x18_3).f0).toList) && (((rd_T51 y539 x20_4).f1) == ((rd_T51 t530 x18_3).f1) && (((rd_T51 y539 x20_4).f2) == ((rd_T51 t530 x18_3).f2)))) (wrap64 (x20_4 + 1)) t503 t520 t525) else (none)) else (none)) else (none)) = some r := by rw [if_neg (show ¬ (false = true) by decide)] at H; exact H
                    clear H
                    have H := H1
                    clear H1
                    by_cases c68 : 0 ≤ x20_4
                    ·rw [if_pos c68] at H
                     have c68b0 : decide (0 ≤ x20_4) = true := decide_eq_true c68
                     clear c68
                     by_cases c69 : 0 ≤ x18_3
                     ·rw [if_pos c69] at H
                      have c69b0 : decide (0 ≤ x18_3) = true := decide_eq_true c69
                      clear c69
                      by_cases c70 : x18_3 < (t530.length : Int)
                      ·rw [if_pos c70] at H
                       have c70b0 : decide (x18_3 < (t530.length : Int)) = true := decide_eq_true c70
                       clear c70
                       have H' := Aside0.mk H
                       clear H
                       try go_wp2
                       have n0_ := Aside0.mk (Kd.R_drew HO_16.out)
                       have n1_ := Aside0.mk (Kd.R_drew HO_17.out)
                       have n2_ := Aside0.mk (Kd.R_drew HO_508000.out)
                       have n3_ := Aside0.mk (Kd.R_drew HO_525000.out)
                       have n4_ := Aside0.mk (Kd.R_drew HO_530000.out)
                       have n5_ := Aside0.mk (blk_drew BK507.out)
                       have n6_ := Aside0.mk (blk_drew BK524.out)
                       have n7_ := Aside0.mk (blk_drew BK529.out)
                       have n8_ := Aside0.mk (below_drew1 HB.out)
                       clear HO_16
                       clear HO_17
                       clear HO_508000
                       clear HO_525000
                       clear HO_530000
                       clear BK507
                       clear BK524
                       clear BK529
                       clear HB
                       have HO_16 := n0_
                       have HO_17 := n1_
                       have HO_508000 := n2_
                       have HO_525000 := n3_
                       have HO_530000 := n4_
                       have BK507 := n5_
                       have BK524 := n6_
                       have BK529 := n7_
                       have HB := n8_
                       clear n0_ n1_ n2_ n3_ n4_ n5_ n6_ n7_ n8_
                       have p542 : 0 ≤ (x20_4 : Int) := of_decide_eq_true (by first | (with_reducible assumption) | assumption)
                       have q542 : x20_4 < (y539.length : Int) := of_decide_eq_true (by first | (with_reducible assumption) | assumption)
                       obtain ⟨ad542, e542, hx542_0, hx542_1, hx542_2⟩ := at_T51 (Kd.R_reads' HO_17.out).2.2 x20_4 p542 q542
                       cases e542
                       replace p542 := eq_true p542
                       replace q542 := eq_true q542
                       have p543 : 0 ≤ (x18_3 : Int) := of_decide_eq_true (by first | (with_reducible assumption) | assumption)
                       have q543 : x18_3 < (t530.length : Int) := of_decide_eq_true (by first | (with_reducible assumption) | assumption)
                       obtain ⟨ad543, e543, hx543_0, hx543_1, hx543_2⟩ := at_T51 (Kd.R_reads' HO_16.out).2.2 x18_3 p543 q543
                       cases e543
                       replace p543 := eq_true p543
                       replace q543 := eq_true q543
                       refine start_ (n := 13) (S := fun w' => w'.cell? (ad542.add ((x20_4).toNat * 3)) = some (.string ((rd_T51 y539 x20_4).f0)) ∧ w'.cell? ⟨(ad542.add ((x20_4).toNat * 3)).block, (ad542.add ((x20_4).toNat * 3)).off + 1, none⟩ = some (.int .u64 ((rd_T51 y539 x20_4).f1)) ∧ w'.cell? ⟨(ad542.add ((x20_4).toNat * 3)).block, (ad542.add ((x20_4).toNat * 3)).off + 2, none⟩ = some (.int .u64 ((rd_T51 y539 x20_4).f2)) ∧ w'.cell? (ad543.add ((x18_3).toNat * 3)) = some (.string ((rd_T51 t530 x18_3).f0)) ∧ w'.cell? ⟨(ad543.add ((x18_3).toNat * 3)).block, (ad543.add ((x18_3).toNat * 3)).off + 1, none⟩ = some (.int .u64 ((rd_T51 t530 x18_3).f1)) ∧ w'.cell? ⟨(ad543.add ((x18_3).toNat * 3)).block, (ad543.add ((x18_3).toNat * 3)).off + 2, none⟩ = some (.int .u64 ((rd_T51 t530 x18_3).f2))) (ds := []) (vb 0 13) (by kernel_rfl) rfl rfl ⟨hx542_0, hx542_1, hx542_2, hx543_0, hx543_1, hx543_2⟩ (fun hHeld => ?_); refine with_tabW forebearlaw10_TreeParts.tab23 forebearlaw10_TreeParts.bits23 (fun HT_ HW_ => ?_)
                       generalize wr.drew = w71 at HO_16 HO_17 HO_508000 HO_525000 HO_530000 BK507 BK524 BK529 HB hx542_0 hx542_1 hx542_2 hx543_0 hx543_1 hx543_2 hHeld ⊢
                       refine pure_ (i := 0) (N := some 102) (v := ?_) (a' := ?_) (vb 1 13) rfl rfl (any_of HT_.out (by kernel_rfl)) (fun _ _ _ h => h) (Or.inl ⟨by rfl, ?_⟩) ?_ ?_
                       rotate_left
                       ·intro w'
                        go_simp
                        with_reducible rfl
                       rotate_left
                       ·simp only [Act.put, List.setIfInBounds_toArray, List.set_cons_zero, List.set_cons_succ, i64_w, i32_w]
                        rfl
                       refine pure_ (i := 1) (N := some 103) (v := ?_) (a' := ?_) (vb 3 13) rfl rfl (any_of HT_.out (by kernel_rfl)) (fun _ _ _ h => h) (Or.inl ⟨by rfl, ?_⟩) ?_ ?_
                       rotate_left
                       ·intro w'
                        go_simp
                        with_reducible rfl
                       rotate_left
                       ·simp only [Act.put, List.setIfInBounds_toArray, List.set_cons_zero, List.set_cons_succ, i64_w, i32_w]
                        rfl
                       refine pure_ (i := 2) (N := some 104) (v := ?_) (a' := ?_) (vb 7 13) rfl rfl (any_of HT_.out (by kernel_rfl)) (fun _ _ _ h => h) (Or.inl ⟨by rfl, ?_⟩) ?_ ?_
                       rotate_left
                       ·intro w'
                        go_simp
                        with_reducible rfl
                       rotate_left
                       ·simp only [Act.put, List.setIfInBounds_toArray, List.set_cons_zero, List.set_cons_succ, i64_w, i32_w]
                        rfl
                       refine pure_ (i := 3) (N := some 105) (v := ?_) (a' := ?_) (vb 15 13) rfl rfl (any_of HT_.out (by kernel_rfl)) (fun _ _ _ h => h) (Or.inl ⟨by rfl, ?_⟩) ?_ ?_
                       rotate_left
                       ·intro w'
                        go_simp
                        with_reducible rfl
                       rotate_left
                       ·simp only [Act.put, List.setIfInBounds_toArray, List.set_cons_zero, List.set_cons_succ, i64_w, i32_w]
                        rfl
                       refine pure_ (i := 4) (N := some 106) (v := ?_) (a' := ?_) (vb 31 13) rfl rfl (any_of HT_.out (by kernel_rfl)) (fun _ _ _ h => h) (Or.inl ⟨by rfl, ?_⟩) ?_ ?_
                       rotate_left
                       ·intro w'
                        go_simp
                        with_reducible rfl
                       rotate_left
                       ·simp only [Act.put, List.setIfInBounds_toArray, List.set_cons_zero, List.set_cons_succ, i64_w, i32_w]
                        rfl
                       refine pure_ (i := 6) (N := some 108) (v := ?_) (a' := ?_) (vb 95 13) rfl rfl (any_of HT_.out (by kernel_rfl)) (fun _ _ _ h => h) (Or.inl ⟨by rfl, ?_⟩) ?_ ?_
                       rotate_left
                       ·intro w'
                        go_simp
                        with_reducible rfl
                       rotate_left
                       ·simp only [Act.put, List.setIfInBounds_toArray, List.set_cons_zero, List.set_cons_succ, i64_w, i32_w]
                        rfl
                       refine pure_ (i := 7) (N := some 109) (v := ?_) (a' := ?_) (vb 223 13) rfl rfl (any_of HT_.out (by kernel_rfl)) (fun _ _ _ h => h) (Or.inl ⟨by rfl, ?_⟩) ?_ ?_
                       rotate_left
                       ·intro w'
                        go_simp
                        with_reducible rfl
                       rotate_left
                       ·simp only [Act.put, List.setIfInBounds_toArray, List.set_cons_zero, List.set_cons_succ, i64_w, i32_w]
                        rfl
                       refine pure_ (i := 8) (N := some 110) (v := ?_) (a' := ?_) (vb 479 13) rfl rfl (any_of HT_.out (by kernel_rfl)) (fun _ _ _ h => h) (Or.inl ⟨by rfl, ?_⟩) ?_ ?_
                       rotate_left
                       ·intro w'
                        go_simp
                        with_reducible rfl
                       rotate_left
                       ·simp only [Act.put, List.setIfInBounds_toArray, List.set_cons_zero, List.set_cons_succ, i64_w, i32_w]
                        rfl
                       refine take_ (i := 5) (N := some 107) (v := ?_) (a' := ?_) (vb 511 13) rfl rfl (take_ofW HT_.out HW_.out (by kernel_rfl)) (fun _ _ _ h => h) (Or.inl ⟨by rfl, ?_⟩) hHeld ?_ ?_
                       rotate_left
                       ·rintro w' ⟨s0, s1, s2, s3, s4, s5⟩
                        go_simp
                        with_reducible rfl
                       rotate_left
                       ·simp only [Act.put, List.setIfInBounds_toArray, List.set_cons_zero, List.set_cons_succ, i64_w, i32_w]
                        rfl
                       refine take_ (i := 9) (N := some 111) (v := ?_) (a' := ?_) (vb 1023 13) rfl rfl (take_ofW HT_.out HW_.out (by kernel_rfl)) (fun _ _ _ h => h) (Or.inl ⟨by rfl, ?_⟩) hHeld ?_ ?_
                       rotate_left
                       ·rintro w' ⟨s0, s1, s2, s3, s4, s5⟩
                        go_simp
                        with_reducible rfl
                       rotate_left
                       ·simp only [Act.put, List.setIfInBounds_toArray, List.set_cons_zero, List.set_cons_succ, i64_w, i32_w]
                        rfl
                       refine pure_ (i := 10) (N := some 112) (v := ?_) (a' := ?_) (vb 2047 13) rfl rfl (any_of HT_.out (by kernel_rfl)) (fun _ _ _ h => h) (Or.inl ⟨by rfl, ?_⟩) ?_ ?_
                       rotate_left
                       ·intro w'
                        go_simp
                        with_reducible rfl
                       rotate_left
                       ·simp only [Act.put, List.setIfInBounds_toArray, List.set_cons_zero, List.set_cons_succ, i64_w, i32_w]
                        rfl
                       refine pure_ (i := 11) (N := some 113) (v := ?_) (a' := ?_) (vb 4095 13) rfl rfl (any_of HT_.out (by kernel_rfl)) (fun _ _ _ h => h) (Or.inl ⟨by rfl, ?_⟩) ?_ ?_
                       rotate_left
                       ·intro w'
                        go_simp
                        with_reducible rfl
                       rotate_left
                       ·simp only [Act.put, List.setIfInBounds_toArray, List.set_cons_zero, List.set_cons_succ, i64_w, i32_w]
                        rfl
                       refine pure_ (i := 12) (N := some 19) (v := ?_) (a' := ?_) (vb 8191 13) rfl rfl (any_of HT_.out (by kernel_rfl)) (fun _ _ _ h => h) (Or.inl ⟨by rfl, ?_⟩) ?_ ?_
                       rotate_left
                       ·intro w'
                        go_simp
                        with_reducible rfl
                       rotate_left
                       ·simp only [Act.put, List.setIfInBounds_toArray, List.set_cons_zero, List.set_cons_succ, i64_w, i32_w]
                        rfl
                       refine done_ (done_of HT_.out (by kernel_rfl)) ?_
                       try go_wp2
                       go_roundg k4
                       case measure => have := HJ8.out; have := HJ30.out; have := HK3.out; have := HK4.out; omega
                       case rel => exact ⟨(((((rd_T51 y539 x20_4).f0).toList) == (((rd_T51 t530 x18_3).f0).toList) && (((rd_T51 y539 x20_4).f1) == ((rd_T51 t530 x18_3).f1) && (((rd_T51 y539 x20_4).f2) == ((rd_T51 t530 x18_3).f2))))), (wrap64 (x20_4 + 1)), (by first | rfl | (simp; done) | (simp [*]; done)), (by first | rfl | (simp; done) | (simp [*]; done)), H', ⟨by have := HJ8.out; have := HJ30.out; have := HK3.out; have := HK4.out; omega⟩, ⟨by (with_reducible repeat (first | apply Kd.R_alloc | apply Kd.R_drewN | apply Kd.R_drew)); exact HO_16.out⟩, ⟨by (with_reducible repeat (first | apply Kd.R_alloc | apply Kd.R_drewN | apply Kd.R_drew)); exact HO_17.out⟩, ⟨by (with_reducible repeat (first | apply Kd.R_alloc | apply Kd.R_drewN | apply Kd.R_drew)); exact HO_508000.out⟩, ⟨by (with_reducible repeat (first | apply Kd.R_alloc | apply Kd.R_drewN | apply Kd.R_drew)); exact HO_525000.out⟩, ⟨by (with_reducible repeat (first | apply Kd.R_alloc | apply Kd.R_drewN | apply Kd.R_drew)); exact HO_530000.out⟩, ⟨by (with_reducible repeat (first | refine blk_drewN ?_ _ | refine blk_drew ?_ | refine blk_alloc ?_ _)); exact BK507.out⟩, ⟨by (with_reducible repeat (first | refine blk_drewN ?_ _ | refine blk_drew ?_ | refine blk_alloc ?_ _)); exact BK524.out⟩, ⟨by (with_reducible repeat (first | refine blk_drewN ?_ _ | refine blk_drew ?_ | refine blk_alloc ?_ _)); exact BK529.out⟩, ⟨by repeat (first | (with_reducible first | exact HB.out | apply below_alloc | apply pw_below_drewN | apply below_drew1 | refine below_set ?_ GE507.out | refine below_set ?_ GE524.out | refine below_set ?_ GE529.out) | exact HB.out)⟩⟩
                      ·rw [if_neg c70] at H
                       exact absurd H (by simp)
                     ·rw [if_neg c69] at H
                      exact absurd H (by simp)
                    ·rw [if_neg c68] at H
                     exact absurd H (by simp)
                  ·rw [if_neg c65] at H
                   have c65b0 : decide (x20_4 < (y539.length : Int)) = false := decide_eq_false c65
                   clear c65
                   by_cases c72 : x19_4 = true
                   ·subst c72
                    have H1 : (if 0 ≤ x18_3 then (if x18_3 < (t530.length : Int) then ((path_Set_Has.f k4 t503 ((rd_T51 t530 x18_3).f0)).bind fun t545 => (if t545 = true then ((path_Set_Has.f k4 t520 ((rd_T51 t530 x18_3).f0)).bind fun t547 => ((path_Set_Has.f k4 t525 ((rd_T51 t530 x18_3).f0)).bind fun t549 => (if (t547 == t549) = true then (some false) else (forebearlaw10_TreeParts.l0 k4 t530 y539 (wrap64 (x18_3 + 1)) t503 t520 t525)))) else (some false))) else (none)) else (none)) = some r := by rw [if_pos rfl] at H; exact H
                    clear H
                    have H := H1
                    clear H1
                    by_cases c73 : 0 ≤ x18_3
                    ·rw [if_pos c73] at H
                     have c73b0 : decide (0 ≤ x18_3) = true := decide_eq_true c73
                     clear c73
                     by_cases c74 : x18_3 < (t530.length : Int)
                     ·rw [if_pos c74] at H
                      have c74b0 : decide (x18_3 < (t530.length : Int)) = true := decide_eq_true c74
                      clear c74
                      replace H := Option.bind_eq_some_iff.mp H
                      obtain ⟨t545, A750, H⟩ := H
                      replace H : (if t545 = true then ((path_Set_Has.f k4 t520 ((rd_T51 t530 x18_3).f0)).bind fun t547 => ((path_Set_Has.f k4 t525 ((rd_T51 t530 x18_3).f0)).bind fun t549 => (if (t547 == t549) = true then (some false) else (forebearlaw10_TreeParts.l0 k4 t530 y539 (wrap64 (x18_3 + 1)) t503 t520 t525)))) else (some false)) = some r := H
                      have A75 := Aside0.mk A750
                      clear A750
                      by_cases c76 : t545 = true
                      ·subst c76
                       have H1 : ((path_Set_Has.f k4 t520 ((rd_T51 t530 x18_3).f0)).bind fun t547 => ((path_Set_Has.f k4 t525 ((rd_T51 t530 x18_3).f0)).bind fun t549 => (if (t547 == t549) = true then (some false) else (forebearlaw10_TreeParts.l0 k4 t530 y539 (wrap64 (x18_3 + 1)) t503 t520 t525)))) = some r := by rw [if_pos rfl] at H; exact H
                       clear H
                       have H := H1
                       clear H1
                       replace H := Option.bind_eq_some_iff.mp H
                       obtain ⟨t547, A770, H⟩ := H
                       replace H : ((path_Set_Has.f k4 t525 ((rd_T51 t530 x18_3).f0)).bind fun t549 => (if (t547 == t549) = true then (some false) else (forebearlaw10_TreeParts.l0 k4 t530 y539 (wrap64 (x18_3 + 1)) t503 t520 t525))) = some r := H
                       have A77 := Aside0.mk A770
                       clear A770
                       replace H := Option.bind_eq_some_iff.mp H
                       obtain ⟨t549, A780, H⟩ := H
                       replace H : (if (t547 == t549) = true then (some false) else (forebearlaw10_TreeParts.l0 k4 t530 y539 (wrap64 (x18_3 + 1)) t503 t520 t525)) = some r := H
                       have A78 := Aside0.mk A780
                       clear A780
                       by_cases c79 : (t547 == t549) = true
                       ·rw [if_pos c79] at H
                        have c79b0 : (t547 == t549) = true := c79
                        (try (have c79b1 : decide (t547 = t549) = true := by simpa using c79))
                        (try (have c79b2 : (t547 == t549) = true := by simpa using c79))
                        (try (have c79b3 : t549 = t547 := (eq_of_beq (by simpa using c79)).symm))
                        clear c79
                        exact absurd (Option.some.inj H) (by rw [HR_.out]; decide)
                       ·rw [if_neg c79] at H
                        have c79b0 : (t547 == t549) = false := by simpa using c79
                        (try (have c79b1 : decide (t547 = t549) = false := by simpa using c79))
                        (try (have c79b2 : (t547 == t549) = false := by simpa using c79))
                        (try (have c79b3 : ¬ (t547 = t549) := by simpa using c79))
                        clear c79
                        have H' := Aside0.mk H
                        clear H
                        try go_wp2
                        have n0_ := Aside0.mk (Kd.R_drew HO_16.out)
                        have n1_ := Aside0.mk (Kd.R_drew HO_17.out)
                        have n2_ := Aside0.mk (Kd.R_drew HO_508000.out)
                        have n3_ := Aside0.mk (Kd.R_drew HO_525000.out)
                        have n4_ := Aside0.mk (Kd.R_drew HO_530000.out)
                        have n5_ := Aside0.mk (blk_drew BK507.out)
                        have n6_ := Aside0.mk (blk_drew BK524.out)
                        have n7_ := Aside0.mk (blk_drew BK529.out)
                        have n8_ := Aside0.mk (below_drew1 HB.out)
                        clear HO_16
                        clear HO_17
                        clear HO_508000
                        clear HO_525000
                        clear HO_530000
                        clear BK507
                        clear BK524
                        clear BK529
                        clear HB
                        have HO_16 := n0_
                        have HO_17 := n1_
                        have HO_508000 := n2_
                        have HO_525000 := n3_
                        have HO_530000 := n4_
                        have BK507 := n5_
                        have BK524 := n6_
                        have BK529 := n7_
                        have HB := n8_
                        clear n0_ n1_ n2_ n3_ n4_ n5_ n6_ n7_ n8_
                        have p544 : 0 ≤ (x18_3 : Int) := of_decide_eq_true (by first | (with_reducible assumption) | assumption)
                        have q544 : x18_3 < (t530.length : Int) := of_decide_eq_true (by first | (with_reducible assumption) | assumption)
                        obtain ⟨ad544, e544, hx544_0, hx544_1, hx544_2⟩ := at_T51 (Kd.R_reads' HO_16.out).2.2 x18_3 p544 q544
                        cases e544
                        replace p544 := eq_true p544
                        replace q544 := eq_true q544
                        have p546 : 0 ≤ (x18_3 : Int) := of_decide_eq_true (by first | (with_reducible assumption) | assumption)
                        have q546 : x18_3 < (t530.length : Int) := of_decide_eq_true (by first | (with_reducible assumption) | assumption)
                        obtain ⟨ad546, e546, hx546_0, hx546_1, hx546_2⟩ := at_T51 (Kd.R_reads' HO_16.out).2.2 x18_3 p546 q546
                        obtain rfl : ad544 = ad546 := (by injection e546)
                        replace p546 := eq_true p546
                        replace q546 := eq_true q546
                        have p548 : 0 ≤ (x18_3 : Int) := of_decide_eq_true (by first | (with_reducible assumption) | assumption)
                        have q548 : x18_3 < (t530.length : Int) := of_decide_eq_true (by first | (with_reducible assumption) | assumption)
                        obtain ⟨ad548, e548, hx548_0, hx548_1, hx548_2⟩ := at_T51 (Kd.R_reads' HO_16.out).2.2 x18_3 p548 q548
                        obtain rfl : ad544 = ad548 := (by injection e548)
                        replace p548 := eq_true p548
                        replace q548 := eq_true q548
                        refine start_ (n := 29) (S := fun w' => w'.cell? ⟨gb507, 0, none⟩ = some (.slice Ao13 t503.length co13) ∧ w'.cell? ⟨gb524, 0, none⟩ = some (.slice Ao37 t520.length co37) ∧ w'.cell? ⟨gb529, 0, none⟩ = some (.slice Ao42 t525.length co42) ∧ w'.cell? (ad544.add ((x18_3).toNat * 3)) = some (.string ((rd_T51 t530 x18_3).f0)) ∧ w'.cell? ⟨(ad544.add ((x18_3).toNat * 3)).block, (ad544.add ((x18_3).toNat * 3)).off + 1, none⟩ = some (.int .u64 ((rd_T51 t530 x18_3).f1)) ∧ w'.cell? ⟨(ad544.add ((x18_3).toNat * 3)).block, (ad544.add ((x18_3).toNat * 3)).off + 2, none⟩ = some (.int .u64 ((rd_T51 t530 x18_3).f2)) ∧ w'.cell? (ad544.add ((x18_3).toNat * 3)) = some (.string ((rd_T51 t530 x18_3).f0)) ∧ w'.cell? ⟨(ad544.add ((x18_3).toNat * 3)).block, (ad544.add ((x18_3).toNat * 3)).off + 1, none⟩ = some (.int .u64 ((rd_T51 t530 x18_3).f1)) ∧ w'.cell? ⟨(ad544.add ((x18_3).toNat * 3)).block, (ad544.add ((x18_3).toNat * 3)).off + 2, none⟩ = some (.int .u64 ((rd_T51 t530 x18_3).f2)) ∧ w'.cell? (ad544.add ((x18_3).toNat * 3)) = some (.string ((rd_T51 t530 x18_3).f0)) ∧ w'.cell? ⟨(ad544.add ((x18_3).toNat * 3)).block, (ad544.add ((x18_3).toNat * 3)).off + 1, none⟩ = some (.int .u64 ((rd_T51 t530 x18_3).f1)) ∧ w'.cell? ⟨(ad544.add ((x18_3).toNat * 3)).block, (ad544.add ((x18_3).toNat * 3)).off + 2, none⟩ = some (.int .u64 ((rd_T51 t530 x18_3).f2))) (ds := []) (vb 0 29) (by kernel_rfl) rfl rfl ⟨(blk_cell BK507.out 0).trans rfl, (blk_cell BK524.out 0).trans rfl, (blk_cell BK529.out 0).trans rfl, hx544_0, hx544_1, hx544_2, hx546_0, hx546_1, hx546_2, hx548_0, hx548_1, hx548_2⟩ (fun hHeld => ?_); refine with_tabW forebearlaw10_TreeParts.tab24 forebearlaw10_TreeParts.bits24 (fun HT_ HW_ => ?_)
                        generalize wr.drew = w84 at HO_16 HO_17 HO_508000 HO_525000 HO_530000 BK507 BK524 BK529 HB hx544_0 hx544_1 hx544_2 hx546_0 hx546_1 hx546_2 hx548_0 hx548_1 hx548_2 hHeld ⊢
                        refine pure_ (i := 0) (N := some 114) (v := ?_) (a' := ?_) (vb 1 29) rfl rfl (any_of HT_.out (by kernel_rfl)) (fun _ _ _ h => h) (Or.inl ⟨by rfl, ?_⟩) ?_ ?_
                        rotate_left
                        ·intro w'
                         go_simp
                         with_reducible rfl
                        rotate_left
                        ·simp only [Act.put, List.setIfInBounds_toArray, List.set_cons_zero, List.set_cons_succ, i64_w, i32_w]
                         rfl
                        refine pure_ (i := 1) (N := some 115) (v := ?_) (a' := ?_) (vb 3 29) rfl rfl (any_of HT_.out (by kernel_rfl)) (fun _ _ _ h => h) (Or.inl ⟨by rfl, ?_⟩) ?_ ?_
                        rotate_left
                        ·intro w'
                         go_simp
                         with_reducible rfl
                        rotate_left
                        ·simp only [Act.put, List.setIfInBounds_toArray, List.set_cons_zero, List.set_cons_succ, i64_w, i32_w]
                         rfl
                        refine pure_ (i := 2) (N := some 116) (v := ?_) (a' := ?_) (vb 7 29) rfl rfl (any_of HT_.out (by kernel_rfl)) (fun _ _ _ h => h) (Or.inl ⟨by rfl, ?_⟩) ?_ ?_
                        rotate_left
                        ·intro w'
                         go_simp
                         with_reducible rfl
                        rotate_left
                        ·simp only [Act.put, List.setIfInBounds_toArray, List.set_cons_zero, List.set_cons_succ, i64_w, i32_w]
                         rfl
                        refine pure_ (i := 4) (N := some 118) (v := ?_) (a' := ?_) (vb 23 29) rfl rfl (any_of HT_.out (by kernel_rfl)) (fun _ _ _ h => h) (Or.inl ⟨by rfl, ?_⟩) ?_ ?_
                        rotate_left
                        ·intro w'
                         go_simp
                         with_reducible rfl
                        rotate_left
                        ·simp only [Act.put, List.setIfInBounds_toArray, List.set_cons_zero, List.set_cons_succ, i64_w, i32_w]
                         rfl
                        refine pure_ (i := 5) (N := some 119) (v := ?_) (a' := ?_) (vb 55 29) rfl rfl (any_of HT_.out (by kernel_rfl)) (fun _ _ _ h => h) (Or.inl ⟨by rfl, ?_⟩) ?_ ?_
                        rotate_left
                        ·intro w'
                         go_simp
                         with_reducible rfl
                        rotate_left
                        ·simp only [Act.put, List.setIfInBounds_toArray, List.set_cons_zero, List.set_cons_succ, i64_w, i32_w]
                         rfl
                        refine pure_ (i := 6) (N := some 120) (v := ?_) (a' := ?_) (vb 119 29) rfl rfl (any_of HT_.out (by kernel_rfl)) (fun _ _ _ h => h) (Or.inl ⟨by rfl, ?_⟩) ?_ ?_
                        rotate_left
                        ·intro w'
                         go_simp
                         with_reducible rfl
                        rotate_left
                        ·simp only [Act.put, List.setIfInBounds_toArray, List.set_cons_zero, List.set_cons_succ, i64_w, i32_w]
                         rfl
                        refine pure_ (i := 7) (N := some 121) (v := ?_) (a' := ?_) (vb 247 29) rfl rfl (any_of HT_.out (by kernel_rfl)) (fun _ _ _ h => h) (Or.inl ⟨by rfl, ?_⟩) ?_ ?_
                        rotate_left
                        ·intro w'
                         go_simp
                         with_reducible rfl
                        rotate_left
                        ·simp only [Act.put, List.setIfInBounds_toArray, List.set_cons_zero, List.set_cons_succ, i64_w, i32_w]
                         rfl
                        refine take_ (i := 3) (N := some 117) (v := ?_) (a' := ?_) (vb 255 29) rfl rfl (take_ofW HT_.out HW_.out (by kernel_rfl)) (fun _ _ _ h => h) (Or.inl ⟨by rfl, ?_⟩) hHeld ?_ ?_
                        rotate_left
                        ·rintro w' ⟨s0, s1, s2, s3, s4, s5, s6, s7, s8, s9, s10, s11⟩
                         go_simp
                         with_reducible rfl
                        rotate_left
                        ·simp only [Act.put, List.setIfInBounds_toArray, List.set_cons_zero, List.set_cons_succ, i64_w, i32_w]
                         rfl
                        refine take_ (i := 8) (N := some 122) (v := ?_) (a' := ?_) (vb 511 29) rfl rfl (take_ofW HT_.out HW_.out (by kernel_rfl)) (fun _ _ _ h => h) (Or.inl ⟨by rfl, ?_⟩) hHeld ?_ ?_
                        rotate_left
                        ·rintro w' ⟨s0, s1, s2, s3, s4, s5, s6, s7, s8, s9, s10, s11⟩
                         go_simp
                         with_reducible rfl
                        rotate_left
                        ·simp only [Act.put, List.setIfInBounds_toArray, List.set_cons_zero, List.set_cons_succ, i64_w, i32_w]
                         rfl
                        refine one_ (i := 9) (N := some 123) (vb 1023 29) rfl rfl (one_of HT_.out (by kernel_rfl)) (by decide) (fun K hK => ?_)
                        refine goes_ Try.func27 (by kernel_rfl) rfl #[.agg #[.slice Ao13 t503.length co13], .string ((rd_T51 t530 x18_3).f0)] (by rfl) rfl rfl (by (try simp only [List.map_toArray, List.map_cons, List.map_nil]); first | done | rfl | (simp only [List.length_drop, List.length_take]; rfl)) ?_
                        with_reducible refine (path_Set_Has.calls k4 _ _ t503 ((rd_T51 t530 x18_3).f0) true _ ?side1 ?side2 A75.out).mono ?_
                        (case side1 => repeat (first | exact (Kd.R_reads' HO_508000.out).2.2 | (with_reducible refine Kd.C_alloc ?_ _) | (with_reducible refine Kd.C_drewN ?_ _) | (with_reducible refine Kd.C_drew ?_)))
                        (case side2 => exact (Kd.R_reads' HO_508000.out).2.1)
                        rintro e w85 ⟨rfl, hb⟩
                        have HS3_ := (hb.cell (World.block_lt_of_cell? _ _ (hHeld.2.2.2.1))).trans (hHeld.2.2.2.1)
                        have HS4_ := (hb.cell (World.block_lt_of_cell? _ _ (hHeld.2.2.2.2.1))).trans (hHeld.2.2.2.2.1)
                        have HS5_ := (hb.cell (World.block_lt_of_cell? _ _ (hHeld.2.2.2.2.2.1))).trans (hHeld.2.2.2.2.2.1)
                        have HS6_ := (hb.cell (World.block_lt_of_cell? _ _ (hHeld.2.2.2.2.2.2.1))).trans (hHeld.2.2.2.2.2.2.1)
                        have HS7_ := (hb.cell (World.block_lt_of_cell? _ _ (hHeld.2.2.2.2.2.2.2.1))).trans (hHeld.2.2.2.2.2.2.2.1)
                        have HS8_ := (hb.cell (World.block_lt_of_cell? _ _ (hHeld.2.2.2.2.2.2.2.2.1))).trans (hHeld.2.2.2.2.2.2.2.2.1)
                        have HS9_ := (hb.cell (World.block_lt_of_cell? _ _ (hHeld.2.2.2.2.2.2.2.2.2.1))).trans (hHeld.2.2.2.2.2.2.2.2.2.1)
                        have HS10_ := (hb.cell (World.block_lt_of_cell? _ _ (hHeld.2.2.2.2.2.2.2.2.2.2.1))).trans (hHeld.2.2.2.2.2.2.2.2.2.2.1)
                        have HS11_ := (hb.cell (World.block_lt_of_cell? _ _ (hHeld.2.2.2.2.2.2.2.2.2.2.2))).trans (hHeld.2.2.2.2.2.2.2.2.2.2.2)
                        refine ⟨_, rfl, ?_⟩
                        have n0_ := Aside0.mk (Kd.R_below (by (with_reducible repeat (first | apply Kd.R_alloc | apply Kd.R_drewN | apply Kd.R_drew)); exact HO_16.out) hb)
                        have n1_ := Aside0.mk (Kd.R_below (by (with_reducible repeat (first | apply Kd.R_alloc | apply Kd.R_drewN | apply Kd.R_drew)); exact HO_17.out) hb)
                        have n2_ := Aside0.mk (Kd.R_below (by (with_reducible repeat (first | apply Kd.R_alloc | apply Kd.R_drewN | apply Kd.R_drew)); exact HO_508000.out) hb)
                        have n3_ := Aside0.mk (Kd.R_below (by (with_reducible repeat (first | apply Kd.R_alloc | apply Kd.R_drewN | apply Kd.R_drew)); exact HO_525000.out) hb)
                        have n4_ := Aside0.mk (Kd.R_below (by (with_reducible repeat (first | apply Kd.R_alloc | apply Kd.R_drewN | apply Kd.R_drew)); exact HO_530000.out) hb)
                        have n5_ := Aside0.mk (blk_below (g := gb507) (o := .cells #[.slice Ao13 t503.length co13] 46 (0, 0)) (by (with_reducible repeat (first | refine blk_drewN ?_ _ | refine blk_drew ?_ | refine blk_alloc ?_ _)); exact BK507.out) hb)
                        have n6_ := Aside0.mk (blk_below (g := gb524) (o := .cells #[.slice Ao37 t520.length co37] 46 (0, 0)) (by (with_reducible repeat (first | refine blk_drewN ?_ _ | refine blk_drew ?_ | refine blk_alloc ?_ _)); exact BK524.out) hb)
                        have n7_ := Aside0.mk (blk_below (g := gb529) (o := .cells #[.slice Ao42 t525.length co42] 46 (0, 0)) (by (with_reducible repeat (first | refine blk_drewN ?_ _ | refine blk_drew ?_ | refine blk_alloc ?_ _)); exact BK529.out) hb)
                        have n8_ := Aside0.mk (below_step (by repeat (first | (with_reducible first | exact HB.out | apply below_alloc | apply pw_below_drewN | apply below_drew1 | refine below_set ?_ GE507.out | refine below_set ?_ GE524.out | refine below_set ?_ GE529.out) | exact HB.out)) hb)
                        clear HO_16
                        clear HO_17
                        clear HO_508000
                        clear HO_525000
                        clear HO_530000
                        clear BK507
                        clear BK524
                        clear BK529
                        clear HB
                        have HO_16 := n0_
                        have HO_17 := n1_
                        have HO_508000 := n2_
                        have HO_525000 := n3_
                        have HO_530000 := n4_
                        have BK507 := n5_
                        have BK524 := n6_
                        have BK529 := n7_
                        have HB := n8_
                        clear n0_ n1_ n2_ n3_ n4_ n5_ n6_ n7_ n8_
                        (try clear hb)
                        (try clear hb2)
                        (try clear hk)
                        (try clear hi)
                        refine hK.out _ _ ⟨(blk_cell BK507.out 0).trans rfl, (blk_cell BK524.out 0).trans rfl, (blk_cell BK529.out 0).trans rfl, HS3_, HS4_, HS5_, HS6_, HS7_, HS8_, HS9_, HS10_, HS11_⟩ (fun hHeld => ?_)
                        clear hK K
                        refine norm_ (a' := ?_) ?_ ?_
                        rotate_left
                        ·show Act.put _ (some 123) _ = _
                         simp only [Act.put, List.setIfInBounds_toArray, List.set_cons_zero, List.set_cons_succ, i64_w, i32_w]
                         rfl
                        refine pure_ (i := 10) (N := some 124) (v := ?_) (a' := ?_) (vb 2047 29) rfl rfl (any_of HT_.out (by kernel_rfl)) (fun _ _ _ h => h) (Or.inl ⟨by rfl, ?_⟩) ?_ ?_
                        rotate_left
                        ·intro w'
                         go_simp
                         with_reducible rfl
                        rotate_left
                        ·simp only [Act.put, List.setIfInBounds_toArray, List.set_cons_zero, List.set_cons_succ, i64_w, i32_w]
                         rfl
                        refine pure_ (i := 11) (N := some 125) (v := ?_) (a' := ?_) (vb 4095 29) rfl rfl (any_of HT_.out (by kernel_rfl)) (fun _ _ _ h => h) (Or.inl ⟨by rfl, ?_⟩) ?_ ?_
                        rotate_left
                        ·intro w'
                         go_simp
                         with_reducible rfl
                        rotate_left
                        ·simp only [Act.put, List.setIfInBounds_toArray, List.set_cons_zero, List.set_cons_succ, i64_w, i32_w]
                         rfl
                        refine pure_ (i := 12) (N := some 126) (v := ?_) (a' := ?_) (vb 8191 29) rfl rfl (any_of HT_.out (by kernel_rfl)) (fun _ _ _ h => h) (Or.inl ⟨by rfl, ?_⟩) ?_ ?_
                        rotate_left
                        ·intro w'
                         go_simp
                         with_reducible rfl
                        rotate_left
                        ·simp only [Act.put, List.setIfInBounds_toArray, List.set_cons_zero, List.set_cons_succ, i64_w, i32_w]
                         rfl
                        refine pure_ (i := 14) (N := some 128) (v := ?_) (a' := ?_) (vb 24575 29) rfl rfl (any_of HT_.out (by kernel_rfl)) (fun _ _ _ h => h) (Or.inl ⟨by rfl, ?_⟩) ?_ ?_
                        rotate_left
                        ·intro w'
                         go_simp
                         with_reducible rfl
                        rotate_left
                        ·simp only [Act.put, List.setIfInBounds_toArray, List.set_cons_zero, List.set_cons_succ, i64_w, i32_w]
                         rfl
                        refine pure_ (i := 15) (N := some 129) (v := ?_) (a' := ?_) (vb 57343 29) rfl rfl (any_of HT_.out (by kernel_rfl)) (fun _ _ _ h => h) (Or.inl ⟨by rfl, ?_⟩) ?_ ?_
                        rotate_left
                        ·intro w'
                         go_simp
                         with_reducible rfl
                        rotate_left
                        ·simp only [Act.put, List.setIfInBounds_toArray, List.set_cons_zero, List.set_cons_succ, i64_w, i32_w]
                         rfl
                        refine pure_ (i := 16) (N := some 130) (v := ?_) (a' := ?_) (vb 122879 29) rfl rfl (any_of HT_.out (by kernel_rfl)) (fun _ _ _ h => h) (Or.inl ⟨by rfl, ?_⟩) ?_ ?_
                        rotate_left
                        ·intro w'
                         go_simp
                         with_reducible rfl
                        rotate_left
                        ·simp only [Act.put, List.setIfInBounds_toArray, List.set_cons_zero, List.set_cons_succ, i64_w, i32_w]
                         rfl
                        refine pure_ (i := 17) (N := some 131) (v := ?_) (a' := ?_) (vb 253951 29) rfl rfl (any_of HT_.out (by kernel_rfl)) (fun _ _ _ h => h) (Or.inl ⟨by rfl, ?_⟩) ?_ ?_
                        rotate_left
                        ·intro w'
                         go_simp
                         with_reducible rfl
                        rotate_left
                        ·simp only [Act.put, List.setIfInBounds_toArray, List.set_cons_zero, List.set_cons_succ, i64_w, i32_w]
                         rfl
                        refine pure_ (i := 21) (N := some 135) (v := ?_) (a' := ?_) (vb 2351103 29) rfl rfl (any_of HT_.out (by kernel_rfl)) (fun _ _ _ h => h) (Or.inl ⟨by rfl, ?_⟩) ?_ ?_
                        rotate_left
                        ·intro w'
                         go_simp
                         with_reducible rfl
                        rotate_left
                        ·simp only [Act.put, List.setIfInBounds_toArray, List.set_cons_zero, List.set_cons_succ, i64_w, i32_w]
                         rfl
                        refine pure_ (i := 22) (N := some 136) (v := ?_) (a' := ?_) (vb 6545407 29) rfl rfl (any_of HT_.out (by kernel_rfl)) (fun _ _ _ h => h) (Or.inl ⟨by rfl, ?_⟩) ?_ ?_
                        rotate_left
                        ·intro w'
                         go_simp
                         with_reducible rfl
                        rotate_left
                        ·simp only [Act.put, List.setIfInBounds_toArray, List.set_cons_zero, List.set_cons_succ, i64_w, i32_w]
                         rfl
                        refine pure_ (i := 23) (N := some 137) (v := ?_) (a' := ?_) (vb 14934015 29) rfl rfl (any_of HT_.out (by kernel_rfl)) (fun _ _ _ h => h) (Or.inl ⟨by rfl, ?_⟩) ?_ ?_
                        rotate_left
                        ·intro w'
                         go_simp
                         with_reducible rfl
                        rotate_left
                        ·simp only [Act.put, List.setIfInBounds_toArray, List.set_cons_zero, List.set_cons_succ, i64_w, i32_w]
                         rfl
                        refine pure_ (i := 24) (N := some 138) (v := ?_) (a' := ?_) (vb 31711231 29) rfl rfl (any_of HT_.out (by kernel_rfl)) (fun _ _ _ h => h) (Or.inl ⟨by rfl, ?_⟩) ?_ ?_
                        rotate_left
                        ·intro w'
                         go_simp
                         with_reducible rfl
                        rotate_left
                        ·simp only [Act.put, List.setIfInBounds_toArray, List.set_cons_zero, List.set_cons_succ, i64_w, i32_w]
                         rfl
                        refine take_ (i := 13) (N := some 127) (v := ?_) (a' := ?_) (vb 31719423 29) rfl rfl (take_ofW HT_.out HW_.out (by kernel_rfl)) (fun _ _ _ h => h) (Or.inl ⟨by rfl, ?_⟩) hHeld ?_ ?_
                        rotate_left
                        ·rintro w' ⟨s0, s1, s2, s3, s4, s5, s6, s7, s8, s9, s10, s11⟩
                         go_simp
                         with_reducible rfl
                        rotate_left
                        ·simp only [Act.put, List.setIfInBounds_toArray, List.set_cons_zero, List.set_cons_succ, i64_w, i32_w]
                         rfl
                        refine take_ (i := 18) (N := some 132) (v := ?_) (a' := ?_) (vb 31981567 29) rfl rfl (take_ofW HT_.out HW_.out (by kernel_rfl)) (fun _ _ _ h => h) (Or.inl ⟨by rfl, ?_⟩) hHeld ?_ ?_
                        rotate_left
                        ·rintro w' ⟨s0, s1, s2, s3, s4, s5, s6, s7, s8, s9, s10, s11⟩
                         go_simp
                         with_reducible rfl
                        rotate_left
                        ·simp only [Act.put, List.setIfInBounds_toArray, List.set_cons_zero, List.set_cons_succ, i64_w, i32_w]
                         rfl
                        refine take_ (i := 20) (N := some 134) (v := ?_) (a' := ?_) (vb 33030143 29) rfl rfl (take_ofW HT_.out HW_.out (by kernel_rfl)) (fun _ _ _ h => h) (Or.inl ⟨by rfl, ?_⟩) hHeld ?_ ?_
                        rotate_left
                        ·rintro w' ⟨s0, s1, s2, s3, s4, s5, s6, s7, s8, s9, s10, s11⟩
                         go_simp
                         with_reducible rfl
                        rotate_left
                        ·simp only [Act.put, List.setIfInBounds_toArray, List.set_cons_zero, List.set_cons_succ, i64_w, i32_w]
                         rfl
                        refine take_ (i := 25) (N := some 139) (v := ?_) (a' := ?_) (vb 66584575 29) rfl rfl (take_ofW HT_.out HW_.out (by kernel_rfl)) (fun _ _ _ h => h) (Or.inl ⟨by rfl, ?_⟩) hHeld ?_ ?_
                        rotate_left
                        ·rintro w' ⟨s0, s1, s2, s3, s4, s5, s6, s7, s8, s9, s10, s11⟩
                         go_simp
                         with_reducible rfl
                        rotate_left
                        ·simp only [Act.put, List.setIfInBounds_toArray, List.set_cons_zero, List.set_cons_succ, i64_w, i32_w]
                         rfl
                        refine one_ (i := 19) (N := some 133) (vb 67108863 29) rfl rfl (one_of HT_.out (by kernel_rfl)) (by decide) (fun K hK => ?_)
                        refine goes_ Try.func27 (by kernel_rfl) rfl #[.agg #[.slice Ao37 t520.length co37], .string ((rd_T51 t530 x18_3).f0)] (by rfl) rfl rfl (by (try simp only [List.map_toArray, List.map_cons, List.map_nil]); first | done | rfl | (simp only [List.length_drop, List.length_take]; rfl)) ?_
                        with_reducible refine (path_Set_Has.calls k4 _ _ t520 ((rd_T51 t530 x18_3).f0) t547 _ ?side1 ?side2 A77.out).mono ?_
                        (case side1 => repeat (first | exact (Kd.R_reads' HO_525000.out).2.2 | (with_reducible refine Kd.C_alloc ?_ _) | (with_reducible refine Kd.C_drewN ?_ _) | (with_reducible refine Kd.C_drew ?_)))
                        (case side2 => exact (Kd.R_reads' HO_525000.out).2.1)
                        rintro e w86 ⟨rfl, hb⟩
                        have HS3_ := (hb.cell (World.block_lt_of_cell? _ _ (hHeld.2.2.2.1))).trans (hHeld.2.2.2.1)
                        have HS4_ := (hb.cell (World.block_lt_of_cell? _ _ (hHeld.2.2.2.2.1))).trans (hHeld.2.2.2.2.1)
                        have HS5_ := (hb.cell (World.block_lt_of_cell? _ _ (hHeld.2.2.2.2.2.1))).trans (hHeld.2.2.2.2.2.1)
                        have HS6_ := (hb.cell (World.block_lt_of_cell? _ _ (hHeld.2.2.2.2.2.2.1))).trans (hHeld.2.2.2.2.2.2.1)
                        have HS7_ := (hb.cell (World.block_lt_of_cell? _ _ (hHeld.2.2.2.2.2.2.2.1))).trans (hHeld.2.2.2.2.2.2.2.1)
                        have HS8_ := (hb.cell (World.block_lt_of_cell? _ _ (hHeld.2.2.2.2.2.2.2.2.1))).trans (hHeld.2.2.2.2.2.2.2.2.1)
                        have HS9_ := (hb.cell (World.block_lt_of_cell? _ _ (hHeld.2.2.2.2.2.2.2.2.2.1))).trans (hHeld.2.2.2.2.2.2.2.2.2.1)
                        have HS10_ := (hb.cell (World.block_lt_of_cell? _ _ (hHeld.2.2.2.2.2.2.2.2.2.2.1))).trans (hHeld.2.2.2.2.2.2.2.2.2.2.1)
                        have HS11_ := (hb.cell (World.block_lt_of_cell? _ _ (hHeld.2.2.2.2.2.2.2.2.2.2.2))).trans (hHeld.2.2.2.2.2.2.2.2.2.2.2)
                        refine ⟨_, rfl, ?_⟩
                        have n0_ := Aside0.mk (Kd.R_below (by (with_reducible repeat (first | apply Kd.R_alloc | apply Kd.R_drewN | apply Kd.R_drew)); exact HO_16.out) hb)
                        have n1_ := Aside0.mk (Kd.R_below (by (with_reducible repeat (first | apply Kd.R_alloc | apply Kd.R_drewN | apply Kd.R_drew)); exact HO_17.out) hb)
                        have n2_ := Aside0.mk (Kd.R_below (by (with_reducible repeat (first | apply Kd.R_alloc | apply Kd.R_drewN | apply Kd.R_drew)); exact HO_508000.out) hb)
                        have n3_ := Aside0.mk (Kd.R_below (by (with_reducible repeat (first | apply Kd.R_alloc | apply Kd.R_drewN | apply Kd.R_drew)); exact HO_525000.out) hb)
                        have n4_ := Aside0.mk (Kd.R_below (by (with_reducible repeat (first | apply Kd.R_alloc | apply Kd.R_drewN | apply Kd.R_drew)); exact HO_530000.out) hb)
                        have n5_ := Aside0.mk (blk_below (g := gb507) (o := .cells #[.slice Ao13 t503.length co13] 46 (0, 0)) (by (with_reducible repeat (first | refine blk_drewN ?_ _ | refine blk_drew ?_ | refine blk_alloc ?_ _)); exact BK507.out) hb)
                        have n6_ := Aside0.mk (blk_below (g := gb524) (o := .cells #[.slice Ao37 t520.length co37] 46 (0, 0)) (by (with_reducible repeat (first | refine blk_drewN ?_ _ | refine blk_drew ?_ | refine blk_alloc ?_ _)); exact BK524.out) hb)
                        have n7_ := Aside0.mk (blk_below (g := gb529) (o := .cells #[.slice Ao42 t525.length co42] 46 (0, 0)) (by (with_reducible repeat (first | refine blk_drewN ?_ _ | refine blk_drew ?_ | refine blk_alloc ?_ _)); exact BK529.out) hb)
                        have n8_ := Aside0.mk (below_step (by repeat (first | (with_reducible first | exact HB.out | apply below_alloc | apply pw_below_drewN | apply below_drew1 | refine below_set ?_ GE507.out | refine below_set ?_ GE524.out | refine below_set ?_ GE529.out) | exact HB.out)) hb)
                        clear HO_16
                        clear HO_17
                        clear HO_508000
                        clear HO_525000
                        clear HO_530000
                        clear BK507
                        clear BK524
                        clear BK529
                        clear HB
                        have HO_16 := n0_
                        have HO_17 := n1_
                        have HO_508000 := n2_
                        have HO_525000 := n3_
                        have HO_530000 := n4_
                        have BK507 := n5_
                        have BK524 := n6_
                        have BK529 := n7_
                        have HB := n8_
                        clear n0_ n1_ n2_ n3_ n4_ n5_ n6_ n7_ n8_
                        (try clear hb)
                        (try clear hb2)
                        (try clear hk)
                        (try clear hi)
                        refine hK.out _ _ ⟨(blk_cell BK507.out 0).trans rfl, (blk_cell BK524.out 0).trans rfl, (blk_cell BK529.out 0).trans rfl, HS3_, HS4_, HS5_, HS6_, HS7_, HS8_, HS9_, HS10_, HS11_⟩ (fun hHeld => ?_)
                        clear hK K
                        refine norm_ (a' := ?_) ?_ ?_
                        rotate_left
                        ·show Act.put _ (some 133) _ = _
                         simp only [Act.put, List.setIfInBounds_toArray, List.set_cons_zero, List.set_cons_succ, i64_w, i32_w]
                         rfl
                        refine one_ (i := 26) (N := some 140) (vb 134217727 29) rfl rfl (one_of HT_.out (by kernel_rfl)) (by decide) (fun K hK => ?_)
                        refine goes_ Try.func27 (by kernel_rfl) rfl #[.agg #[.slice Ao42 t525.length co42], .string ((rd_T51 t530 x18_3).f0)] (by rfl) rfl rfl (by (try simp only [List.map_toArray, List.map_cons, List.map_nil]); first | done | rfl | (simp only [List.length_drop, List.length_take]; rfl)) ?_
                        with_reducible refine (path_Set_Has.calls k4 _ _ t525 ((rd_T51 t530 x18_3).f0) t549 _ ?side1 ?side2 A78.out).mono ?_
                        (case side1 => repeat (first | exact (Kd.R_reads' HO_530000.out).2.2 | (with_reducible refine Kd.C_alloc ?_ _) | (with_reducible refine Kd.C_drewN ?_ _) | (with_reducible refine Kd.C_drew ?_)))
                        (case side2 => exact (Kd.R_reads' HO_530000.out).2.1)
                        rintro e w87 ⟨rfl, hb⟩
                        have HS3_ := (hb.cell (World.block_lt_of_cell? _ _ (hHeld.2.2.2.1))).trans (hHeld.2.2.2.1)
                        have HS4_ := (hb.cell (World.block_lt_of_cell? _ _ (hHeld.2.2.2.2.1))).trans (hHeld.2.2.2.2.1)
                        have HS5_ := (hb.cell (World.block_lt_of_cell? _ _ (hHeld.2.2.2.2.2.1))).trans (hHeld.2.2.2.2.2.1)
                        have HS6_ := (hb.cell (World.block_lt_of_cell? _ _ (hHeld.2.2.2.2.2.2.1))).trans (hHeld.2.2.2.2.2.2.1)
                        have HS7_ := (hb.cell (World.block_lt_of_cell? _ _ (hHeld.2.2.2.2.2.2.2.1))).trans (hHeld.2.2.2.2.2.2.2.1)
                        have HS8_ := (hb.cell (World.block_lt_of_cell? _ _ (hHeld.2.2.2.2.2.2.2.2.1))).trans (hHeld.2.2.2.2.2.2.2.2.1)
                        have HS9_ := (hb.cell (World.block_lt_of_cell? _ _ (hHeld.2.2.2.2.2.2.2.2.2.1))).trans (hHeld.2.2.2.2.2.2.2.2.2.1)
                        have HS10_ := (hb.cell (World.block_lt_of_cell? _ _ (hHeld.2.2.2.2.2.2.2.2.2.2.1))).trans (hHeld.2.2.2.2.2.2.2.2.2.2.1)
                        have HS11_ := (hb.cell (World.block_lt_of_cell? _ _ (hHeld.2.2.2.2.2.2.2.2.2.2.2))).trans (hHeld.2.2.2.2.2.2.2.2.2.2.2)
                        refine ⟨_, rfl, ?_⟩
                        have n0_ := Aside0.mk (Kd.R_below (by (with_reducible repeat (first | apply Kd.R_alloc | apply Kd.R_drewN | apply Kd.R_drew)); exact HO_16.out) hb)
                        have n1_ := Aside0.mk (Kd.R_below (by (with_reducible repeat (first | apply Kd.R_alloc | apply Kd.R_drewN | apply Kd.R_drew)); exact HO_17.out) hb)
                        have n2_ := Aside0.mk (Kd.R_below (by (with_reducible repeat (first | apply Kd.R_alloc | apply Kd.R_drewN | apply Kd.R_drew)); exact HO_508000.out) hb)
                        have n3_ := Aside0.mk (Kd.R_below (by (with_reducible repeat (first | apply Kd.R_alloc | apply Kd.R_drewN | apply Kd.R_drew)); exact HO_525000.out) hb)
                        have n4_ := Aside0.mk (Kd.R_below (by (with_reducible repeat (first | apply Kd.R_alloc | apply Kd.R_drewN | apply Kd.R_drew)); exact HO_530000.out) hb)
                        have n5_ := Aside0.mk (blk_below (g := gb507) (o := .cells #[.slice Ao13 t503.length co13] 46 (0, 0)) (by (with_reducible repeat (first | refine blk_drewN ?_ _ | refine blk_drew ?_ | refine blk_alloc ?_ _)); exact BK507.out) hb)
                        have n6_ := Aside0.mk (blk_below (g := gb524) (o := .cells #[.slice Ao37 t520.length co37] 46 (0, 0)) (by (with_reducible repeat (first | refine blk_drewN ?_ _ | refine blk_drew ?_ | refine blk_alloc ?_ _)); exact BK524.out) hb)
                        have n7_ := Aside0.mk (blk_below (g := gb529) (o := .cells #[.slice Ao42 t525.length co42] 46 (0, 0)) (by (with_reducible repeat (first | refine blk_drewN ?_ _ | refine blk_drew ?_ | refine blk_alloc ?_ _)); exact BK529.out) hb)
                        have n8_ := Aside0.mk (below_step (by repeat (first | (with_reducible first | exact HB.out | apply below_alloc | apply pw_below_drewN | apply below_drew1 | refine below_set ?_ GE507.out | refine below_set ?_ GE524.out | refine below_set ?_ GE529.out) | exact HB.out)) hb)
                        clear HO_16
                        clear HO_17
                        clear HO_508000
                        clear HO_525000
                        clear HO_530000
                        clear BK507
                        clear BK524
                        clear BK529
                        clear HB
                        have HO_16 := n0_
                        have HO_17 := n1_
                        have HO_508000 := n2_
                        have HO_525000 := n3_
                        have HO_530000 := n4_
                        have BK507 := n5_
                        have BK524 := n6_
                        have BK529 := n7_
                        have HB := n8_
                        clear n0_ n1_ n2_ n3_ n4_ n5_ n6_ n7_ n8_
                        (try clear hb)
                        (try clear hb2)
                        (try clear hk)
                        (try clear hi)
                        refine hK.out _ _ ⟨(blk_cell BK507.out 0).trans rfl, (blk_cell BK524.out 0).trans rfl, (blk_cell BK529.out 0).trans rfl, HS3_, HS4_, HS5_, HS6_, HS7_, HS8_, HS9_, HS10_, HS11_⟩ (fun hHeld => ?_)
                        clear hK K
                        refine norm_ (a' := ?_) ?_ ?_
                        rotate_left
                        ·show Act.put _ (some 140) _ = _
                         simp only [Act.put, List.setIfInBounds_toArray, List.set_cons_zero, List.set_cons_succ, i64_w, i32_w]
                         rfl
                        refine pure_ (i := 27) (N := some 141) (v := ?_) (a' := ?_) (vb 268435455 29) rfl rfl (any_of HT_.out (by kernel_rfl)) (fun _ _ _ h => h) (Or.inl ⟨by rfl, ?_⟩) ?_ ?_
                        rotate_left
                        ·intro w'
                         go_simp
                         with_reducible rfl
                        rotate_left
                        ·simp only [Act.put, List.setIfInBounds_toArray, List.set_cons_zero, List.set_cons_succ, i64_w, i32_w]
                         rfl
                        refine pure_ (i := 28) (N := some 142) (v := ?_) (a' := ?_) (vb 536870911 29) rfl rfl (any_of HT_.out (by kernel_rfl)) (fun _ _ _ h => h) (Or.inl ⟨by rfl, ?_⟩) ?_ ?_
                        rotate_left
                        ·intro w'
                         go_simp
                         with_reducible rfl
                        rotate_left
                        ·simp only [Act.put, List.setIfInBounds_toArray, List.set_cons_zero, List.set_cons_succ, i64_w, i32_w]
                         rfl
                        refine done_ (done_of HT_.out (by kernel_rfl)) ?_
                        try go_wp2
                        go_roundg k4
                        case measure => have := HJ8.out; have := HJ30.out; have := HK3.out; have := HK4.out; omega
                        case rel => exact ⟨(wrap64 (x18_3 + 1)), (by first | rfl | (simp; done) | (simp [*]; done)), H', ⟨by have := HJ8.out; have := HJ30.out; have := HK3.out; have := HK4.out; omega⟩, ⟨by (with_reducible repeat (first | apply Kd.R_alloc | apply Kd.R_drewN | apply Kd.R_drew)); exact HO_16.out⟩, ⟨by (with_reducible repeat (first | apply Kd.R_alloc | apply Kd.R_drewN | apply Kd.R_drew)); exact HO_17.out⟩, ⟨by (with_reducible repeat (first | apply Kd.R_alloc | apply Kd.R_drewN | apply Kd.R_drew)); exact HO_508000.out⟩, ⟨by (with_reducible repeat (first | apply Kd.R_alloc | apply Kd.R_drewN | apply Kd.R_drew)); exact HO_525000.out⟩, ⟨by (with_reducible repeat (first | apply Kd.R_alloc | apply Kd.R_drewN | apply Kd.R_drew)); exact HO_530000.out⟩, ⟨by (with_reducible repeat (first | refine blk_drewN ?_ _ | refine blk_drew ?_ | refine blk_alloc ?_ _)); exact BK507.out⟩, ⟨by (with_reducible repeat (first | refine blk_drewN ?_ _ | refine blk_drew ?_ | refine blk_alloc ?_ _)); exact BK524.out⟩, ⟨by (with_reducible repeat (first | refine blk_drewN ?_ _ | refine blk_drew ?_ | refine blk_alloc ?_ _)); exact BK529.out⟩, ⟨by repeat (first | (with_reducible first | exact HB.out | apply below_alloc | apply pw_below_drewN | apply below_drew1 | refine below_set ?_ GE507.out | refine below_set ?_ GE524.out | refine below_set ?_ GE529.out) | exact HB.out)⟩⟩
                      ·replace c76 := Bool.eq_false_iff.mpr c76
                       subst c76
                       have H1 : (some false) = some r := by rw [if_neg (show ¬ (false = true) by decide)] at H; exact H
                       clear H
                       have H := H1
                       clear H1
                       exact absurd (Option.some.inj H) (by rw [HR_.out]; decide)
                     ·rw [if_neg c74] at H
                      exact absurd H (by simp)
                    ·rw [if_neg c73] at H
                     exact absurd H (by simp)
                   ·replace c72 := Bool.eq_false_iff.mpr c72
                    subst c72
                    have H1 : (some false) = some r := by rw [if_neg (show ¬ (false = true) by decide)] at H; exact H
                    clear H
                    have H := H1
                    clear H1
                    exact absurd (Option.some.inj H) (by rw [HR_.out]; decide)
               ·rw [if_neg c64] at H
                have c64b0 : decide (x18_3 < (t530.length : Int)) = false := decide_eq_false c64
                clear c64
                obtain rfl := Option.some.inj H
                go_wp2
                go_ret
                exact ⟨by first | rfl | (simp [errW_none, errW_some] <;> rfl) | (simp only [← hji24]; first | rfl | (simp [errW_none, errW_some] <;> rfl)) | (simp [*, errW_none, errW_some] <;> rfl), by repeat (first | (with_reducible first | exact HB.out | apply below_alloc | apply pw_below_drewN | apply below_drew1 | refine below_set ?_ GE507.out | refine below_set ?_ GE524.out | refine below_set ?_ GE529.out) | exact HB.out)⟩
            ·rw [if_neg c52] at H
             have c52b0 : ((y539.length : Int) == (t530.length : Int)) = false := beq_eq_false_iff_ne.mpr c52
             have c52b1 : ((y539.length : Int) != (t530.length : Int)) = true := bne_iff_ne.mpr c52
             have c52b2 : (y539.length == t530.length) = false := by first | simpa using c52 | (simp at c52 ⊢; omega)
             exact absurd (Option.some.inj H) (by rw [HR_.out]; decide)
           ·rw [if_neg c51] at H
            exact absurd H (by simp)
       ·rw [if_neg c26] at H
        exact absurd H (by simp)
      ·rw [if_neg c25] at H
       exact absurd H (by simp)
 ·replace c6 := Bool.eq_false_iff.mpr c6
  subst c6
  have H1 : (some false) = some r := by rw [if_neg (show ¬ (false = true) by decide)] at H; exact H
  clear H
  have H := H1
  clear H1
  exact absurd (Option.some.inj H) (by rw [HR_.out]; decide)
/-- THE ONE PURE STATEMENT of forebearlaw10_TreeParts. -/
def forebearlaw10_TreeParts.Pure : Prop := ∀ (l0 : List (S38)) (l1 : List (S38)) (l2 : List ByteArray) (a3 : Int), (l0.length * 24 ≤ 140737488351232 ∧ l0.length ≤ 9223372036854775807 ∧ ∀ y_l0 ∈ l0, gS38 y_l0) → (l1.length * 24 ≤ 140737488351232 ∧ l1.length ≤ 9223372036854775807 ∧ ∀ y_l1 ∈ l1, gS38 y_l1) → (l2.length * 16 ≤ 140737488351232 ∧ l2.length ≤ 9223372036854775807 ∧ ∀ y_l2 ∈ l2, y_l2.size ≤ 140737488351232) → (Lit.int .i64 a3).wf = true → ∃ k, forebearlaw10_TreeParts.f k l0 l1 l2 a3 = some true
theorem forebearlaw10_TreeParts.walk (P : forebearlaw10_TreeParts.Pure) (l0 : List (S38)) (l1 : List (S38)) (l2 : List ByteArray) (a3 : Int) (A0 : Option Addr) (c0 : Nat) (A1 : Option Addr) (c1 : Nat) (A2 : Option Addr) (c2 : Nat) (w : World) (g0 : (l0.length * 24 ≤ 140737488351232 ∧ l0.length ≤ 9223372036854775807 ∧ ∀ y_l0 ∈ l0, gS38 y_l0)) (g1 : (l1.length * 24 ≤ 140737488351232 ∧ l1.length ≤ 9223372036854775807 ∧ ∀ y_l1 ∈ l1, gS38 y_l1)) (g2 : (l2.length * 16 ≤ 140737488351232 ∧ l2.length ≤ 9223372036854775807 ∧ ∀ y_l2 ∈ l2, y_l2.size ≤ 140737488351232)) (g3 : (Lit.int .i64 a3).wf = true) (hc0 : l0.length ≤ c0) (hr0 : Kd.C k38 w A0 l0.length l0) (hc1 : l1.length ≤ c1) (hr1 : Kd.C k38 w A1 l1.length l1) (hc2 : l2.length ≤ c2) (hr2 : Kd.C Kd.string w A2 l2.length l2) :
  Calls Try.prog 7 #[.slice A0 l0.length c0, .slice A1 l1.length c1, .slice A2 l2.length c2, .int .i64 a3] w fun e w' => e = .returned (.bool true) ∧ Below w.heap.size w w' := by
 obtain ⟨k, h⟩ := P l0 l1 l2 a3 g0 g1 g2 g3
 refine (forebearlaw10_TreeParts.calls k _ _ l0 _ _ l1 _ _ l2 a3 true w hr0 hc0 hr1 hc1 hr2 hc2 h).mono ?_
 rintro e w' ⟨rfl, hd⟩
 exact ⟨rfl, hd⟩

end Go.Proofs.Ytjnefjggmeieaaa.MT

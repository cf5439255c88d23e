/- Laid by this claim's own program (myprint) out of the translation: functions that the laws of the group D reach, each as a plain function, with the proof that the Go code comes to it. No condition. -/
import Derived.Test.YthigjlahanejjaaMDx0
import Derived.Test.YthigjlahanejjaaMDx4
import Derived.Test.YthigjlahanejjaaMDx6
import Derived.Test.YthigjlahanejjaaMDx9
namespace Go.Proofs.Ythigjlahanejjaa.MD
open Go.Proofs.Ythigjlahanejjaa.Opening
open Go.RowKit Go.Proofs.YthigjlahanejjaaW.PrintWords Go.Proofs.YthigjlahanejjaaW.PrintLast Go.Proofs.YthigjlahanejjaaW.PrintMore
attribute [local go_sem] max2_int min2_int max_two min_two max_three min_three max_four min_four   -- for this text's walks alone
set_option linter.unusedVariables false
set_option linter.unusedSimpArgs false

/-! ### forebearlaw05_DiffSelf: function 7 -/
def forebearlaw05_DiffSelf.j0 : Nat → List ByteArray → List (S46) → List (S46) → Bool → Option (Bool)
 | 0, _, _, _, _ => none
 | k + 1, x0, x5, x7, x74 => if x74 = true then (some false) else (if (x0.length : Int) = 0 then (some true) else (if 0 < (x5.length : Int) then ((forebearref03_Same.f k ((rd_T46 x5 0).f2) x0).bind fun t445 => (if t445 = true then (if 0 < (x7.length : Int) then ((forebearref03_Same.f k ((rd_T46 x7 0).f3) x0).bind fun t447 => (if t447 = true then (some ((wrap64 ((((rd_T46 x5 0).f3).length : Int) + (((rd_T46 x7 0).f2).length : Int))) == 0)) else (some false))) else (none)) else (some false))) else (none)))
def forebearlaw05_DiffSelf.f (k : Nat) (l0 : List ByteArray) : Option (Bool) := (forebearlaw05_awake.f k).bind fun t425 => (if t425 = true then ((some (([] : List ByteArray) : List ByteArray)).bind fun y426 => (if y426.length + l0.length < 8796093022208 then ((diff_Hunks.f k l0 (y426 ++ l0)).bind fun bt432 => ((diff_Hunks.f k l0 ([] : List ByteArray)).bind fun bt436 => ((diff_Hunks.f k ([] : List ByteArray) l0).bind fun bt440 => (if (l0.length : Int) > 256 then (if bt432.2 = 4 then (if bt436.2 = 4 then (some ((wrap64 ((wrap64 ((bt432.1.length : Int) + (bt436.1.length : Int))) + (bt440.1.length : Int))) == 0)) else (some false)) else (some false)) else (if bt432.2 = 0 then (if bt436.2 = 0 then (if (bt432.1.length : Int) = 0 then (if (bt436.1.length : Int) = (mn (l0.length : Int) 1) then (forebearlaw05_DiffSelf.j0 k l0 bt436.1 bt440.1 ((bt440.1.length : Int) != (bt436.1.length : Int))) else (forebearlaw05_DiffSelf.j0 k l0 bt436.1 bt440.1 true)) else (forebearlaw05_DiffSelf.j0 k l0 bt436.1 bt440.1 true)) else (forebearlaw05_DiffSelf.j0 k l0 bt436.1 bt440.1 true)) else (forebearlaw05_DiffSelf.j0 k l0 bt436.1 bt440.1 true)))))) else (none))) else (some false))
theorem forebearlaw05_DiffSelf.mono_l : ∀ k, (∀ y0 y1 y2 y3, LeO (forebearlaw05_DiffSelf.j0 k y0 y1 y2 y3) (forebearlaw05_DiffSelf.j0 (k + 1) y0 y1 y2 y3))
 | 0 => fun _ _ _ _ r h => by simp [forebearlaw05_DiffSelf.j0] at h
 | k + 1 => by
  have ih0 := forebearlaw05_DiffSelf.mono_l k
  ·intro y0 y1 y2 y3
   unfold forebearlaw05_DiffSelf.j0
   repeat' first
   | (with_reducible exact ih0 _ _ _ _)
   | (with_reducible exact diff_Hunks.mono _ _ _)
   | (with_reducible exact forebearlaw05_awake.mono _)
   | (with_reducible exact forebearref03_Same.mono _ _ _)
   | (with_reducible exact LeO.refl _)
   | (with_reducible exact LeO.none _)
   | (with_reducible refine LeO.ite ?_ ?_)
   | (with_reducible refine LeO.bind ?_ (fun _ => ?_))
   | exact ih0 _ _ _ _
   | exact diff_Hunks.mono _ _ _
   | exact forebearlaw05_awake.mono _
   | exact forebearref03_Same.mono _ _ _
   | exact LeO.none _
   | refine LeO.ite ?_ ?_
   | refine LeO.bind ?_ (fun _ => ?_)
theorem forebearlaw05_DiffSelf.mono : ∀ a0 k, LeO (forebearlaw05_DiffSelf.f k a0) (forebearlaw05_DiffSelf.f (k + 1) a0) := by
 intro a0 k
 have ih0 := forebearlaw05_DiffSelf.mono_l k
 unfold forebearlaw05_DiffSelf.f
 repeat' first
   | (with_reducible exact ih0 _ _ _ _)
   | (with_reducible exact diff_Hunks.mono _ _ _)
   | (with_reducible exact forebearlaw05_awake.mono _)
   | (with_reducible exact forebearref03_Same.mono _ _ _)
   | (with_reducible exact LeO.refl _)
   | (with_reducible exact LeO.none _)
   | (with_reducible refine LeO.ite ?_ ?_)
   | (with_reducible refine LeO.bind ?_ (fun _ => ?_))
   | exact ih0 _ _ _ _
   | exact diff_Hunks.mono _ _ _
   | exact forebearlaw05_awake.mono _
   | exact forebearref03_Same.mono _ _ _
   | exact LeO.none _
   | refine LeO.ite ?_ ?_
   | refine LeO.bind ?_ (fun _ => ?_)
def forebearlaw05_DiffSelf.T10 : Bool × List (List Nat × List Nat) := (true, [([], []), ([0], [0]), ([1], [1]), ([2], [2]), ([3], [3]), ([4, 3], [3, 4]), ([5, 3], [3, 5]), ([6, 3], [3, 6]), ([3], [3]), ([7, 8, 3, 3], [3, 7, 8]), ([9, 9, 3], [3, 9]), ([10], [10]), ([11, 10], [10, 11]), ([12, 10], [10, 12]), ([13, 10], [10, 13]), ([10], [10]), ([14, 15, 10, 10], [10, 14, 15]), ([10, 16, 3], [3, 10, 16]), ([17, 16, 3], [3, 17]), ([18], [18]), ([19, 18], [18, 19]), ([20, 18], [18, 20]), ([21, 18], [18, 21]), ([22, 18], [18, 22]), ([18], [18]), ([24, 18], [18, 24]), ([25, 18], [18, 25]), ([26, 18], [18, 26]), ([27, 18], [18, 27]), ([23, 28, 18], [18, 23, 28]), ([29, 18], [18, 29]), ([18, 30, 3], [3, 18, 30]), ([3, 31], [3, 31]), ([32, 18, 0, 1, 2, 3, 4, 5, 6, 7, 8, 9, 10, 11, 12, 13, 14, 15, 16, 17, 18, 19, 20, 21, 22, 23, 24, 25, 26, 27, 28, 29, 30, 31, 32], [32])])
def forebearlaw05_DiffSelf.B10 : List Nat := [0, 1, 3, 7, 15, 31, 63, 127, 15, 511, 1023, 2047, 4095, 8191, 16383, 2047, 65535, 131071, 262143, 524287, 1048575, 2097151, 4194303, 8388607, 524287, 17301503, 50855935, 117964799, 252182527, 536870911, 1073741823, 2147483647, 4294967295, 8589934591]
theorem forebearlaw05_DiffSelf.tab10 : rtab .any (opsOf Try.f7 10) = forebearlaw05_DiffSelf.T10 := by kernel_rfl
theorem forebearlaw05_DiffSelf.bits10 : waitsOk forebearlaw05_DiffSelf.T10.2 forebearlaw05_DiffSelf.B10 = true := by kernel_rfl
set_option maxHeartbeats 8000000 in
set_option maxRecDepth 100000 in
theorem forebearlaw05_DiffSelf.calls (k : Nat) (A0 : Option Addr) (c0 : Nat) (l0 : List ByteArray) (r : Bool) (w : World) (hr0 : Kd.C Kd.string w A0 l0.length l0) (hc0 : l0.length ≤ c0) (h : forebearlaw05_DiffSelf.f k l0 = some r) :
  Calls Try.prog 7 #[.slice A0 l0.length c0] w fun e w' => e = .returned (.bool r) ∧ Below w.heap.size w w' := by
 have HR0 := Aside0.mk hr0
 have HC0 := Aside0.mk hc0
 clear hr0 hc0
 have HB := Aside0.mk (Below.refl w.heap.size w)
 have H : ((forebearlaw05_awake.f k).bind fun t425 => (if t425 = true then ((some (([] : List ByteArray) : List ByteArray)).bind fun y426 => (if y426.length + l0.length < 8796093022208 then ((diff_Hunks.f k l0 (y426 ++ l0)).bind fun bt432 => ((diff_Hunks.f k l0 ([] : List ByteArray)).bind fun bt436 => ((diff_Hunks.f k ([] : List ByteArray) l0).bind fun bt440 => (if (l0.length : Int) > 256 then (if bt432.2 = 4 then (if bt436.2 = 4 then (some ((wrap64 ((wrap64 ((bt432.1.length : Int) + (bt436.1.length : Int))) + (bt440.1.length : Int))) == 0)) else (some false)) else (some false)) else (if bt432.2 = 0 then (if bt436.2 = 0 then (if (bt432.1.length : Int) = 0 then (if (bt436.1.length : Int) = (mn (l0.length : Int) 1) then (forebearlaw05_DiffSelf.j0 k l0 bt436.1 bt440.1 ((bt440.1.length : Int) != (bt436.1.length : Int))) else (forebearlaw05_DiffSelf.j0 k l0 bt436.1 bt440.1 true)) else (forebearlaw05_DiffSelf.j0 k l0 bt436.1 bt440.1 true)) else (forebearlaw05_DiffSelf.j0 k l0 bt436.1 bt440.1 true)) else (forebearlaw05_DiffSelf.j0 k l0 bt436.1 bt440.1 true)))))) else (none))) else (some false))) = some r := h
 clear h
 replace H := Option.bind_eq_some_iff.mp H
 obtain ⟨t425, A20, H⟩ := H
 replace H : (if t425 = true then ((some (([] : List ByteArray) : List ByteArray)).bind fun y426 => (if y426.length + l0.length < 8796093022208 then ((diff_Hunks.f k l0 (y426 ++ l0)).bind fun bt432 => ((diff_Hunks.f k l0 ([] : List ByteArray)).bind fun bt436 => ((diff_Hunks.f k ([] : List ByteArray) l0).bind fun bt440 => (if (l0.length : Int) > 256 then (if bt432.2 = 4 then (if bt436.2 = 4 then (some ((wrap64 ((wrap64 ((bt432.1.length : Int) + (bt436.1.length : Int))) + (bt440.1.length : Int))) == 0)) else (some false)) else (some false)) else (if bt432.2 = 0 then (if bt436.2 = 0 then (if (bt432.1.length : Int) = 0 then (if (bt436.1.length : Int) = (mn (l0.length : Int) 1) then (forebearlaw05_DiffSelf.j0 k l0 bt436.1 bt440.1 ((bt440.1.length : Int) != (bt436.1.length : Int))) else (forebearlaw05_DiffSelf.j0 k l0 bt436.1 bt440.1 true)) else (forebearlaw05_DiffSelf.j0 k l0 bt436.1 bt440.1 true)) else (forebearlaw05_DiffSelf.j0 k l0 bt436.1 bt440.1 true)) else (forebearlaw05_DiffSelf.j0 k l0 bt436.1 bt440.1 true)))))) else (none))) else (some false)) = some r := H
 have A2 := Aside0.mk A20
 clear A20
 by_cases c3 : t425 = true
 ·subst c3
  have H1 : ((some (([] : List ByteArray) : List ByteArray)).bind fun y426 => (if y426.length + l0.length < 8796093022208 then ((diff_Hunks.f k l0 (y426 ++ l0)).bind fun bt432 => ((diff_Hunks.f k l0 ([] : List ByteArray)).bind fun bt436 => ((diff_Hunks.f k ([] : List ByteArray) l0).bind fun bt440 => (if (l0.length : Int) > 256 then (if bt432.2 = 4 then (if bt436.2 = 4 then (some ((wrap64 ((wrap64 ((bt432.1.length : Int) + (bt436.1.length : Int))) + (bt440.1.length : Int))) == 0)) else (some false)) else (some false)) else (if bt432.2 = 0 then (if bt436.2 = 0 then (if (bt432.1.length : Int) = 0 then (if (bt436.1.length : Int) = (mn (l0.length : Int) 1) then (forebearlaw05_DiffSelf.j0 k l0 bt436.1 bt440.1 ((bt440.1.length : Int) != (bt436.1.length : Int))) else (forebearlaw05_DiffSelf.j0 k l0 bt436.1 bt440.1 true)) else (forebearlaw05_DiffSelf.j0 k l0 bt436.1 bt440.1 true)) else (forebearlaw05_DiffSelf.j0 k l0 bt436.1 bt440.1 true)) else (forebearlaw05_DiffSelf.j0 k l0 bt436.1 bt440.1 true)))))) else (none))) = some r := by rw [if_pos rfl] at H; exact H
  clear H
  have H := H1
  clear H1
  obtain ⟨y426, hy426⟩ : ∃ y_ : List ByteArray, y_ = (([] : List ByteArray)) := ⟨_, rfl⟩
  replace H : (if y426.length + l0.length < 8796093022208 then ((diff_Hunks.f k l0 (y426 ++ l0)).bind fun bt432 => ((diff_Hunks.f k l0 ([] : List ByteArray)).bind fun bt436 => ((diff_Hunks.f k ([] : List ByteArray) l0).bind fun bt440 => (if (l0.length : Int) > 256 then (if bt432.2 = 4 then (if bt436.2 = 4 then (some ((wrap64 ((wrap64 ((bt432.1.length : Int) + (bt436.1.length : Int))) + (bt440.1.length : Int))) == 0)) else (some false)) else (some false)) else (if bt432.2 = 0 then (if bt436.2 = 0 then (if (bt432.1.length : Int) = 0 then (if (bt436.1.length : Int) = (mn (l0.length : Int) 1) then (forebearlaw05_DiffSelf.j0 k l0 bt436.1 bt440.1 ((bt440.1.length : Int) != (bt436.1.length : Int))) else (forebearlaw05_DiffSelf.j0 k l0 bt436.1 bt440.1 true)) else (forebearlaw05_DiffSelf.j0 k l0 bt436.1 bt440.1 true)) else (forebearlaw05_DiffSelf.j0 k l0 bt436.1 bt440.1 true)) else (forebearlaw05_DiffSelf.j0 k l0 bt436.1 bt440.1 true)))))) else (none)) = some r := by first | (rw [hy426]; with_reducible exact H) | (have H2_ := (Option.bind_some _ _).symm.trans H; rw [hy426]; with_reducible exact H2_) | (have H2_ := (Option.bind_some _ _).symm.trans H; with_reducible exact H2_) | with_reducible exact H | (rw [hy426]; exact H) | exact H
  have Ny426 := Aside0.mk hy426
  clear hy426
  by_cases c4 : y426.length + l0.length < 8796093022208
  ·rw [if_pos c4] at H
   have LMc4 := Aside0.mk c4
   clear c4
   obtain ⟨y429, hy429⟩ : ∃ y_ : List ByteArray, y_ = (y426 ++ l0) := ⟨_, rfl⟩
   replace H : ((diff_Hunks.f k l0 y429).bind fun bt432 => ((diff_Hunks.f k l0 ([] : List ByteArray)).bind fun bt436 => ((diff_Hunks.f k ([] : List ByteArray) l0).bind fun bt440 => (if (l0.length : Int) > 256 then (if bt432.2 = 4 then (if bt436.2 = 4 then (some ((wrap64 ((wrap64 ((bt432.1.length : Int) + (bt436.1.length : Int))) + (bt440.1.length : Int))) == 0)) else (some false)) else (some false)) else (if bt432.2 = 0 then (if bt436.2 = 0 then (if (bt432.1.length : Int) = 0 then (if (bt436.1.length : Int) = (mn (l0.length : Int) 1) then (forebearlaw05_DiffSelf.j0 k l0 bt436.1 bt440.1 ((bt440.1.length : Int) != (bt436.1.length : Int))) else (forebearlaw05_DiffSelf.j0 k l0 bt436.1 bt440.1 true)) else (forebearlaw05_DiffSelf.j0 k l0 bt436.1 bt440.1 true)) else (forebearlaw05_DiffSelf.j0 k l0 bt436.1 bt440.1 true)) else (forebearlaw05_DiffSelf.j0 k l0 bt436.1 bt440.1 true)))))) = some r := by first | (rw [hy429]; with_reducible exact H) | (have H2_ := (Option.bind_some _ _).symm.trans H; rw [hy429]; with_reducible exact H2_) | (have H2_ := (Option.bind_some _ _).symm.trans H; with_reducible exact H2_) | with_reducible exact H | (rw [hy429]; exact H) | exact H
   have Ny429 := Aside0.mk hy429
   clear hy429
   replace H := Option.bind_eq_some_iff.mp H
   obtain ⟨⟨t432, t433⟩, A50, H⟩ := H
   replace H : ((diff_Hunks.f k l0 ([] : List ByteArray)).bind fun bt436 => ((diff_Hunks.f k ([] : List ByteArray) l0).bind fun bt440 => (if (l0.length : Int) > 256 then (if t433 = 4 then (if bt436.2 = 4 then (some ((wrap64 ((wrap64 ((t432.length : Int) + (bt436.1.length : Int))) + (bt440.1.length : Int))) == 0)) else (some false)) else (some false)) else (if t433 = 0 then (if bt436.2 = 0 then (if (t432.length : Int) = 0 then (if (bt436.1.length : Int) = (mn (l0.length : Int) 1) then (forebearlaw05_DiffSelf.j0 k l0 bt436.1 bt440.1 ((bt440.1.length : Int) != (bt436.1.length : Int))) else (forebearlaw05_DiffSelf.j0 k l0 bt436.1 bt440.1 true)) else (forebearlaw05_DiffSelf.j0 k l0 bt436.1 bt440.1 true)) else (forebearlaw05_DiffSelf.j0 k l0 bt436.1 bt440.1 true)) else (forebearlaw05_DiffSelf.j0 k l0 bt436.1 bt440.1 true))))) = some r := H
   have A5 := Aside0.mk A50
   clear A50
   replace H := Option.bind_eq_some_iff.mp H
   obtain ⟨⟨t436, t437⟩, A60, H⟩ := H
   replace H : ((diff_Hunks.f k ([] : List ByteArray) l0).bind fun bt440 => (if (l0.length : Int) > 256 then (if t433 = 4 then (if t437 = 4 then (some ((wrap64 ((wrap64 ((t432.length : Int) + (t436.length : Int))) + (bt440.1.length : Int))) == 0)) else (some false)) else (some false)) else (if t433 = 0 then (if t437 = 0 then (if (t432.length : Int) = 0 then (if (t436.length : Int) = (mn (l0.length : Int) 1) then (forebearlaw05_DiffSelf.j0 k l0 t436 bt440.1 ((bt440.1.length : Int) != (t436.length : Int))) else (forebearlaw05_DiffSelf.j0 k l0 t436 bt440.1 true)) else (forebearlaw05_DiffSelf.j0 k l0 t436 bt440.1 true)) else (forebearlaw05_DiffSelf.j0 k l0 t436 bt440.1 true)) else (forebearlaw05_DiffSelf.j0 k l0 t436 bt440.1 true)))) = some r := H
   have A6 := Aside0.mk A60
   clear A60
   replace H := Option.bind_eq_some_iff.mp H
   obtain ⟨⟨t440, t441⟩, A70, H⟩ := H
   replace H : (if (l0.length : Int) > 256 then (if t433 = 4 then (if t437 = 4 then (some ((wrap64 ((wrap64 ((t432.length : Int) + (t436.length : Int))) + (t440.length : Int))) == 0)) else (some false)) else (some false)) else (if t433 = 0 then (if t437 = 0 then (if (t432.length : Int) = 0 then (if (t436.length : Int) = (mn (l0.length : Int) 1) then (forebearlaw05_DiffSelf.j0 k l0 t436 t440 ((t440.length : Int) != (t436.length : Int))) else (forebearlaw05_DiffSelf.j0 k l0 t436 t440 true)) else (forebearlaw05_DiffSelf.j0 k l0 t436 t440 true)) else (forebearlaw05_DiffSelf.j0 k l0 t436 t440 true)) else (forebearlaw05_DiffSelf.j0 k l0 t436 t440 true))) = some r := H
   have A7 := Aside0.mk A70
   clear A70
   by_cases c8 : (l0.length : Int) > 256
   ·rw [if_pos c8] at H
    have c8b0 : decide (256 < (l0.length : Int)) = true := decide_eq_true c8
    have c8b1 : decide (256 < l0.length) = true := decide_eq_true (by omega)
    clear c8
    by_cases c9 : t433 = 4
    ·rw [if_pos c9] at H
     have c9b0 : (t433 == 4) = true := beq_iff_eq.mpr c9
     have c9b1 : (t433 != 4) = false := bne_eq_false_iff_eq.mpr c9
     clear c9
     by_cases c10 : t437 = 4
     ·rw [if_pos c10] at H
      have c10b0 : (t437 == 4) = true := beq_iff_eq.mpr c10
      have c10b1 : (t437 != 4) = false := bne_eq_false_iff_eq.mpr c10
      clear c10
      obtain rfl := Option.some.inj H
      go_enter Try.func7, Try.ntmps7
      go_wp2_with (first | ((with_reducible refine gate_callee (f := 12) rfl ?_); refine goesL_ (some 9) rfl rfl Try.func12 (by kernel_rfl) rfl #[] rfl (by (try simp only [List.map_toArray, List.map_cons, List.map_nil]); first | done | rfl | (simp only [List.length_drop, List.length_take]; rfl)) ?_; (with_reducible refine (forebearlaw05_awake.calls k  true _ A2.out).mono ?_); rintro e w11 ⟨rfl, hb⟩; refine ⟨_, rfl, ?_⟩; have n0_ := Aside0.mk (below_step (by repeat (first | (with_reducible first | exact HB.out | apply below_alloc | apply pw_below_drewN | apply below_drew1) | exact HB.out)) hb); clear HB; have HB := n0_; clear n0_; (try clear hb); (try clear hb2); (try clear hk); (try clear hi)) | ((with_reducible refine gate_dst (N := 13) rfl ?_); (try (refine gate_guard (by rfl) ?_; dsimp only)); refine Kd.R_lit Kd.string _ 9 ?hg (N := 13) ?hd (xs := ([] : List ByteArray)) (inner := []) (ok := fun _ => True) (okp := fun _ => True) ?hr ?hp (fun _ hk => hk) trivial (Below.refl _ _) (Nat.le_refl _) (by simp) ?_; (case hd => rfl); (case hg => rfl); (case hr => first | (go_simp; done) | (go_simp; rfl)); (case hp => exact (Reps.none _ _)); intro v427 w12 ho13 hb hg_ hnew_; clear hg_ hnew_; (first | rw [← Ny426.out] at ho13 | (simp only [Int.reduceToNat] at ho13; rw [← Ny426.out] at ho13)); have n0_ := Aside0.mk (Kd.R_lower ho13 (below_size (by repeat (first | (with_reducible first | exact HB.out | apply below_alloc | apply pw_below_drewN | apply below_drew1) | exact HB.out)))); have n1_ := Aside0.mk (below_step (by repeat (first | (with_reducible first | exact HB.out | apply below_alloc | apply pw_below_drewN | apply below_drew1) | exact HB.out)) hb); clear HB; have HO428 := n0_; have HB := n1_; clear n0_ n1_; clear hb ho13) | ((with_reducible refine gate_builtin (b := .append) (xs := #[.tmp 13, .tmp 14]) rfl ?_); (try (refine gate_guard (by rfl) ?_; dsimp only)); at_builtin; refine Kd.R_append_rows Kd.string (w0 := w) w.heap.size rfl (.tmp 13) (.tmp 14) 22 9 (.string ⟨#[]⟩) 16 rfl Try.underlying22 info9 rfl (by decide) (by omega) v427 y426 l0 _ _ _ (fun _ => True) (fun _ => False) rfl rfl ?aO ?aR (fun _ _ h => h) (fun _ h => h.elim) ?aF ?aB ?aS ?aL ?_; (case aR => repeat (first | exact (Kd.C_below HR0.out HB.out) | (with_reducible refine Kd.C_alloc ?_ _) | (with_reducible refine Kd.C_drewN ?_ _) | (with_reducible refine Kd.C_drew ?_))); (case aB => exact (by repeat (first | (with_reducible first | exact HB.out | apply below_alloc | apply pw_below_drewN | apply below_drew1) | exact HB.out))); (case aF => exact (fun _ _ => trivial)); (case aO => exact (by (with_reducible repeat (first | apply Kd.R_alloc | apply Kd.R_drewN | apply Kd.R_drew)); exact HO428.out)); (case aS => exact (below_size (by repeat (first | (with_reducible first | exact HB.out | apply below_alloc | apply pw_below_drewN | apply below_drew1) | exact HB.out)))); (case aL => have := LMc4.out; omega); intro v430 w14 ho hb hg hat; rw [← Ny429.out] at ho; have n0_ := Aside0.mk (hb); have n1_ := Aside0.mk (ho); clear HB; clear HO428; have HB := n0_; have HO431 := n1_; clear n0_ n1_; clear ho hb hg hat; obtain ⟨Ao15, co15, eo15⟩ := Kd.R_slice HO431.out; subst eo15) | ((with_reducible refine gate_callee (f := 15) rfl ?_); refine goesL_ (some 16) rfl rfl Try.func15 (by kernel_rfl) rfl #[.slice A0 l0.length c0, .slice Ao15 y429.length co15] rfl (by (try simp only [List.map_toArray, List.map_cons, List.map_nil]); first | done | rfl | (simp only [List.length_drop, List.length_take]; rfl)) ?_; (with_reducible refine (diff_Hunks.calls k _ _ l0 _ _ y429 t432 t433 _ ?side1 ?side2 ?side3 ?side4 A5.out).mono ?_); (case side1 => repeat (first | exact (Kd.C_below HR0.out HB.out) | (with_reducible refine Kd.C_alloc ?_ _) | (with_reducible refine Kd.C_drewN ?_ _) | (with_reducible refine Kd.C_drew ?_))); (case side2 => exact HC0.out); (case side3 => repeat (first | exact (Kd.R_reads' HO431.out).2.2 | (with_reducible refine Kd.C_alloc ?_ _) | (with_reducible refine Kd.C_drewN ?_ _) | (with_reducible refine Kd.C_drew ?_))); (case side4 => exact (Kd.R_reads' HO431.out).2.1); rintro e w16 ⟨v434, rfl, ho0, hb⟩; refine ⟨_, rfl, ?_⟩; have n0_ := Aside0.mk (Kd.R_below (by (with_reducible repeat (first | apply Kd.R_alloc | apply Kd.R_drewN | apply Kd.R_drew)); exact HO431.out) hb); have n1_ := Aside0.mk (Kd.S_lower (Kd.S_new' ho0 (Kd.R_lt (by (with_reducible repeat (first | apply Kd.R_alloc | apply Kd.R_drewN | apply Kd.R_drew)); exact HO431.out))) (below_size (by repeat (first | (with_reducible first | exact HB.out | apply below_alloc | apply pw_below_drewN | apply below_drew1) | exact HB.out)))); have n2_ := Aside0.mk (below_step (by repeat (first | (with_reducible first | exact HB.out | apply below_alloc | apply pw_below_drewN | apply below_drew1) | exact HB.out)) hb); clear HO431; clear HB; have HO431 := n0_; have HO435 := n1_; have HB := n2_; clear n0_ n1_ n2_; (try clear hb); (try clear hb2); (try clear hk); (try clear hi); (try clear ho0)) | ((with_reducible refine gate_callee (f := 15) rfl ?_); refine goesL_ (some 21) rfl rfl Try.func15 (by kernel_rfl) rfl #[.slice A0 l0.length c0, .slice none 0 0] rfl (by (try simp only [List.map_toArray, List.map_cons, List.map_nil]); first | done | rfl | (simp only [List.length_drop, List.length_take]; rfl)) ?_; (refine (diff_Hunks.calls k _ _ l0 _ _ ([] : List ByteArray) t436 t437 _ ?side1 ?side2 ?side3 ?side4 A6.out).mono ?_); (case side1 => repeat (first | exact (Kd.C_below HR0.out HB.out) | (with_reducible refine Kd.C_alloc ?_ _) | (with_reducible refine Kd.C_drewN ?_ _) | (with_reducible refine Kd.C_drew ?_))); (case side2 => exact HC0.out); (case side3 => exact Kd.C_nil _ _); (case side4 => exact Nat.le_refl _); rintro e w17 ⟨v438, rfl, ho0, hb⟩; refine ⟨_, rfl, ?_⟩; have n0_ := Aside0.mk (Kd.R_below (by (with_reducible repeat (first | apply Kd.R_alloc | apply Kd.R_drewN | apply Kd.R_drew)); exact HO431.out) hb); have n1_ := Aside0.mk (Kd.S_elder' (by (with_reducible repeat (first | apply Kd.S_alloc | apply Kd.S_drewN | apply Kd.S_drew)); exact HO435.out) (Kd.S_base ho0) hb); have n2_ := Aside0.mk (Kd.S_lower (Kd.S_new' (Kd.S_new' ho0 (Kd.R_lt (by (with_reducible repeat (first | apply Kd.R_alloc | apply Kd.R_drewN | apply Kd.R_drew)); exact HO431.out))) (Kd.S_lt (by (with_reducible repeat (first | apply Kd.S_alloc | apply Kd.S_drewN | apply Kd.S_drew)); exact HO435.out))) (below_size (by repeat (first | (with_reducible first | exact HB.out | apply below_alloc | apply pw_below_drewN | apply below_drew1) | exact HB.out)))); have n3_ := Aside0.mk (below_step (by repeat (first | (with_reducible first | exact HB.out | apply below_alloc | apply pw_below_drewN | apply below_drew1) | exact HB.out)) hb); clear HO431; clear HO435; clear HB; have HO431 := n0_; have HO435 := n1_; have HO439 := n2_; have HB := n3_; clear n0_ n1_ n2_ n3_; (try clear hb); (try clear hb2); (try clear hk); (try clear hi); (try clear ho0)) | ((with_reducible refine gate_callee (f := 15) rfl ?_); refine goesL_ (some 26) rfl rfl Try.func15 (by kernel_rfl) rfl #[.slice none 0 0, .slice A0 l0.length c0] rfl (by (try simp only [List.map_toArray, List.map_cons, List.map_nil]); first | done | rfl | (simp only [List.length_drop, List.length_take]; rfl)) ?_; (refine (diff_Hunks.calls k _ _ ([] : List ByteArray) _ _ l0 t440 t441 _ ?side1 ?side2 ?side3 ?side4 A7.out).mono ?_); (case side1 => exact Kd.C_nil _ _); (case side2 => exact Nat.le_refl _); (case side3 => repeat (first | exact (Kd.C_below HR0.out HB.out) | (with_reducible refine Kd.C_alloc ?_ _) | (with_reducible refine Kd.C_drewN ?_ _) | (with_reducible refine Kd.C_drew ?_))); (case side4 => exact HC0.out); rintro e w18 ⟨v442, rfl, ho0, hb⟩; refine ⟨_, rfl, ?_⟩; have n0_ := Aside0.mk (Kd.R_below (by (with_reducible repeat (first | apply Kd.R_alloc | apply Kd.R_drewN | apply Kd.R_drew)); exact HO431.out) hb); have n1_ := Aside0.mk (Kd.S_elder' (by (with_reducible repeat (first | apply Kd.S_alloc | apply Kd.S_drewN | apply Kd.S_drew)); exact HO435.out) (Kd.S_base ho0) hb); have n2_ := Aside0.mk (Kd.S_elder' (by (with_reducible repeat (first | apply Kd.S_alloc | apply Kd.S_drewN | apply Kd.S_drew)); exact HO439.out) (Kd.S_base ho0) hb); have n3_ := Aside0.mk (Kd.S_lower (Kd.S_new' (Kd.S_new' (Kd.S_new' ho0 (Kd.R_lt (by (with_reducible repeat (first | apply Kd.R_alloc | apply Kd.R_drewN | apply Kd.R_drew)); exact HO431.out))) (Kd.S_lt (by (with_reducible repeat (first | apply Kd.S_alloc | apply Kd.S_drewN | apply Kd.S_drew)); exact HO435.out))) (Kd.S_lt (by (with_reducible repeat (first | apply Kd.S_alloc | apply Kd.S_drewN | apply Kd.S_drew)); exact HO439.out))) (below_size (by repeat (first | (with_reducible first | exact HB.out | apply below_alloc | apply pw_below_drewN | apply below_drew1) | exact HB.out)))); have n4_ := Aside0.mk (below_step (by repeat (first | (with_reducible first | exact HB.out | apply below_alloc | apply pw_below_drewN | apply below_drew1) | exact HB.out)) hb); clear HO431; clear HO435; clear HO439; clear HB; have HO431 := n0_; have HO435 := n1_; have HO439 := n2_; have HO443 := n3_; have HB := n4_; clear n0_ n1_ n2_ n3_ n4_; (try clear hb); (try clear hb2); (try clear hk); (try clear hi); (try clear ho0); obtain ⟨Ao19, co19, eo19⟩ := Kd.S_slice HO435.out; subst eo19; obtain ⟨Ao20, co20, eo20⟩ := Kd.S_slice HO439.out; subst eo20; obtain ⟨Ao21, co21, eo21⟩ := Kd.S_slice HO443.out; subst eo21))
      go_ret
      exact ⟨by first | rfl | (simp [errW_none, errW_some] <;> rfl) | (simp [*, errW_none, errW_some] <;> rfl), by repeat (first | (with_reducible first | exact HB.out | apply below_alloc | apply pw_below_drewN | apply below_drew1) | exact HB.out)⟩
     ·rw [if_neg c10] at H
      have c10b0 : (t437 == 4) = false := beq_eq_false_iff_ne.mpr c10
      have c10b1 : (t437 != 4) = true := bne_iff_ne.mpr c10
      obtain rfl := Option.some.inj H
      go_enter Try.func7, Try.ntmps7
      go_wp2_with (first | ((with_reducible refine gate_callee (f := 12) rfl ?_); refine goesL_ (some 9) rfl rfl Try.func12 (by kernel_rfl) rfl #[] rfl (by (try simp only [List.map_toArray, List.map_cons, List.map_nil]); first | done | rfl | (simp only [List.length_drop, List.length_take]; rfl)) ?_; (with_reducible refine (forebearlaw05_awake.calls k  true _ A2.out).mono ?_); rintro e w22 ⟨rfl, hb⟩; refine ⟨_, rfl, ?_⟩; have n0_ := Aside0.mk (below_step (by repeat (first | (with_reducible first | exact HB.out | apply below_alloc | apply pw_below_drewN | apply below_drew1) | exact HB.out)) hb); clear HB; have HB := n0_; clear n0_; (try clear hb); (try clear hb2); (try clear hk); (try clear hi)) | ((with_reducible refine gate_dst (N := 13) rfl ?_); (try (refine gate_guard (by rfl) ?_; dsimp only)); refine Kd.R_lit Kd.string _ 9 ?hg (N := 13) ?hd (xs := ([] : List ByteArray)) (inner := []) (ok := fun _ => True) (okp := fun _ => True) ?hr ?hp (fun _ hk => hk) trivial (Below.refl _ _) (Nat.le_refl _) (by simp) ?_; (case hd => rfl); (case hg => rfl); (case hr => first | (go_simp; done) | (go_simp; rfl)); (case hp => exact (Reps.none _ _)); intro v427 w23 ho24 hb hg_ hnew_; clear hg_ hnew_; (first | rw [← Ny426.out] at ho24 | (simp only [Int.reduceToNat] at ho24; rw [← Ny426.out] at ho24)); have n0_ := Aside0.mk (Kd.R_lower ho24 (below_size (by repeat (first | (with_reducible first | exact HB.out | apply below_alloc | apply pw_below_drewN | apply below_drew1) | exact HB.out)))); have n1_ := Aside0.mk (below_step (by repeat (first | (with_reducible first | exact HB.out | apply below_alloc | apply pw_below_drewN | apply below_drew1) | exact HB.out)) hb); clear HB; have HO428 := n0_; have HB := n1_; clear n0_ n1_; clear hb ho24) | ((with_reducible refine gate_builtin (b := .append) (xs := #[.tmp 13, .tmp 14]) rfl ?_); (try (refine gate_guard (by rfl) ?_; dsimp only)); at_builtin; refine Kd.R_append_rows Kd.string (w0 := w) w.heap.size rfl (.tmp 13) (.tmp 14) 22 9 (.string ⟨#[]⟩) 16 rfl Try.underlying22 info9 rfl (by decide) (by omega) v427 y426 l0 _ _ _ (fun _ => True) (fun _ => False) rfl rfl ?aO ?aR (fun _ _ h => h) (fun _ h => h.elim) ?aF ?aB ?aS ?aL ?_; (case aR => repeat (first | exact (Kd.C_below HR0.out HB.out) | (with_reducible refine Kd.C_alloc ?_ _) | (with_reducible refine Kd.C_drewN ?_ _) | (with_reducible refine Kd.C_drew ?_))); (case aB => exact (by repeat (first | (with_reducible first | exact HB.out | apply below_alloc | apply pw_below_drewN | apply below_drew1) | exact HB.out))); (case aF => exact (fun _ _ => trivial)); (case aO => exact (by (with_reducible repeat (first | apply Kd.R_alloc | apply Kd.R_drewN | apply Kd.R_drew)); exact HO428.out)); (case aS => exact (below_size (by repeat (first | (with_reducible first | exact HB.out | apply below_alloc | apply pw_below_drewN | apply below_drew1) | exact HB.out)))); (case aL => have := LMc4.out; omega); intro v430 w25 ho hb hg hat; rw [← Ny429.out] at ho; have n0_ := Aside0.mk (hb); have n1_ := Aside0.mk (ho); clear HB; clear HO428; have HB := n0_; have HO431 := n1_; clear n0_ n1_; clear ho hb hg hat; obtain ⟨Ao26, co26, eo26⟩ := Kd.R_slice HO431.out; subst eo26) | ((with_reducible refine gate_callee (f := 15) rfl ?_); refine goesL_ (some 16) rfl rfl Try.func15 (by kernel_rfl) rfl #[.slice A0 l0.length c0, .slice Ao26 y429.length co26] rfl (by (try simp only [List.map_toArray, List.map_cons, List.map_nil]); first | done | rfl | (simp only [List.length_drop, List.length_take]; rfl)) ?_; (with_reducible refine (diff_Hunks.calls k _ _ l0 _ _ y429 t432 t433 _ ?side1 ?side2 ?side3 ?side4 A5.out).mono ?_); (case side1 => repeat (first | exact (Kd.C_below HR0.out HB.out) | (with_reducible refine Kd.C_alloc ?_ _) | (with_reducible refine Kd.C_drewN ?_ _) | (with_reducible refine Kd.C_drew ?_))); (case side2 => exact HC0.out); (case side3 => repeat (first | exact (Kd.R_reads' HO431.out).2.2 | (with_reducible refine Kd.C_alloc ?_ _) | (with_reducible refine Kd.C_drewN ?_ _) | (with_reducible refine Kd.C_drew ?_))); (case side4 => exact (Kd.R_reads' HO431.out).2.1); rintro e w27 ⟨v434, rfl, ho0, hb⟩; refine ⟨_, rfl, ?_⟩; have n0_ := Aside0.mk (Kd.R_below (by (with_reducible repeat (first | apply Kd.R_alloc | apply Kd.R_drewN | apply Kd.R_drew)); exact HO431.out) hb); have n1_ := Aside0.mk (Kd.S_lower (Kd.S_new' ho0 (Kd.R_lt (by (with_reducible repeat (first | apply Kd.R_alloc | apply Kd.R_drewN | apply Kd.R_drew)); exact HO431.out))) (below_size (by repeat (first | (with_reducible first | exact HB.out | apply below_alloc | apply pw_below_drewN | apply below_drew1) | exact HB.out)))); have n2_ := Aside0.mk (below_step (by repeat (first | (with_reducible first | exact HB.out | apply below_alloc | apply pw_below_drewN | apply below_drew1) | exact HB.out)) hb); clear HO431; clear HB; have HO431 := n0_; have HO435 := n1_; have HB := n2_; clear n0_ n1_ n2_; (try clear hb); (try clear hb2); (try clear hk); (try clear hi); (try clear ho0)) | ((with_reducible refine gate_callee (f := 15) rfl ?_); refine goesL_ (some 21) rfl rfl Try.func15 (by kernel_rfl) rfl #[.slice A0 l0.length c0, .slice none 0 0] rfl (by (try simp only [List.map_toArray, List.map_cons, List.map_nil]); first | done | rfl | (simp only [List.length_drop, List.length_take]; rfl)) ?_; (refine (diff_Hunks.calls k _ _ l0 _ _ ([] : List ByteArray) t436 t437 _ ?side1 ?side2 ?side3 ?side4 A6.out).mono ?_); (case side1 => repeat (first | exact (Kd.C_below HR0.out HB.out) | (with_reducible refine Kd.C_alloc ?_ _) | (with_reducible refine Kd.C_drewN ?_ _) | (with_reducible refine Kd.C_drew ?_))); (case side2 => exact HC0.out); (case side3 => exact Kd.C_nil _ _); (case side4 => exact Nat.le_refl _); rintro e w28 ⟨v438, rfl, ho0, hb⟩; refine ⟨_, rfl, ?_⟩; have n0_ := Aside0.mk (Kd.R_below (by (with_reducible repeat (first | apply Kd.R_alloc | apply Kd.R_drewN | apply Kd.R_drew)); exact HO431.out) hb); have n1_ := Aside0.mk (Kd.S_elder' (by (with_reducible repeat (first | apply Kd.S_alloc | apply Kd.S_drewN | apply Kd.S_drew)); exact HO435.out) (Kd.S_base ho0) hb); have n2_ := Aside0.mk (Kd.S_lower (Kd.S_new' (Kd.S_new' ho0 (Kd.R_lt (by (with_reducible repeat (first | apply Kd.R_alloc | apply Kd.R_drewN | apply Kd.R_drew)); exact HO431.out))) (Kd.S_lt (by (with_reducible repeat (first | apply Kd.S_alloc | apply Kd.S_drewN | apply Kd.S_drew)); exact HO435.out))) (below_size (by repeat (first | (with_reducible first | exact HB.out | apply below_alloc | apply pw_below_drewN | apply below_drew1) | exact HB.out)))); have n3_ := Aside0.mk (below_step (by repeat (first | (with_reducible first | exact HB.out | apply below_alloc | apply pw_below_drewN | apply below_drew1) | exact HB.out)) hb); clear HO431; clear HO435; clear HB; have HO431 := n0_; have HO435 := n1_; have HO439 := n2_; have HB := n3_; clear n0_ n1_ n2_ n3_; (try clear hb); (try clear hb2); (try clear hk); (try clear hi); (try clear ho0)) | ((with_reducible refine gate_callee (f := 15) rfl ?_); refine goesL_ (some 26) rfl rfl Try.func15 (by kernel_rfl) rfl #[.slice none 0 0, .slice A0 l0.length c0] rfl (by (try simp only [List.map_toArray, List.map_cons, List.map_nil]); first | done | rfl | (simp only [List.length_drop, List.length_take]; rfl)) ?_; (refine (diff_Hunks.calls k _ _ ([] : List ByteArray) _ _ l0 t440 t441 _ ?side1 ?side2 ?side3 ?side4 A7.out).mono ?_); (case side1 => exact Kd.C_nil _ _); (case side2 => exact Nat.le_refl _); (case side3 => repeat (first | exact (Kd.C_below HR0.out HB.out) | (with_reducible refine Kd.C_alloc ?_ _) | (with_reducible refine Kd.C_drewN ?_ _) | (with_reducible refine Kd.C_drew ?_))); (case side4 => exact HC0.out); rintro e w29 ⟨v442, rfl, ho0, hb⟩; refine ⟨_, rfl, ?_⟩; have n0_ := Aside0.mk (Kd.R_below (by (with_reducible repeat (first | apply Kd.R_alloc | apply Kd.R_drewN | apply Kd.R_drew)); exact HO431.out) hb); have n1_ := Aside0.mk (Kd.S_elder' (by (with_reducible repeat (first | apply Kd.S_alloc | apply Kd.S_drewN | apply Kd.S_drew)); exact HO435.out) (Kd.S_base ho0) hb); have n2_ := Aside0.mk (Kd.S_elder' (by (with_reducible repeat (first | apply Kd.S_alloc | apply Kd.S_drewN | apply Kd.S_drew)); exact HO439.out) (Kd.S_base ho0) hb); have n3_ := Aside0.mk (Kd.S_lower (Kd.S_new' (Kd.S_new' (Kd.S_new' ho0 (Kd.R_lt (by (with_reducible repeat (first | apply Kd.R_alloc | apply Kd.R_drewN | apply Kd.R_drew)); exact HO431.out))) (Kd.S_lt (by (with_reducible repeat (first | apply Kd.S_alloc | apply Kd.S_drewN | apply Kd.S_drew)); exact HO435.out))) (Kd.S_lt (by (with_reducible repeat (first | apply Kd.S_alloc | apply Kd.S_drewN | apply Kd.S_drew)); exact HO439.out))) (below_size (by repeat (first | (with_reducible first | exact HB.out | apply below_alloc | apply pw_below_drewN | apply below_drew1) | exact HB.out)))); have n4_ := Aside0.mk (below_step (by repeat (first | (with_reducible first | exact HB.out | apply below_alloc | apply pw_below_drewN | apply below_drew1) | exact HB.out)) hb); clear HO431; clear HO435; clear HO439; clear HB; have HO431 := n0_; have HO435 := n1_; have HO439 := n2_; have HO443 := n3_; have HB := n4_; clear n0_ n1_ n2_ n3_ n4_; (try clear hb); (try clear hb2); (try clear hk); (try clear hi); (try clear ho0)))
      go_ret
      exact ⟨by first | rfl | (simp [errW_none, errW_some] <;> rfl) | (simp [*, errW_none, errW_some] <;> rfl), by repeat (first | (with_reducible first | exact HB.out | apply below_alloc | apply pw_below_drewN | apply below_drew1) | exact HB.out)⟩
    ·rw [if_neg c9] at H
     have c9b0 : (t433 == 4) = false := beq_eq_false_iff_ne.mpr c9
     have c9b1 : (t433 != 4) = true := bne_iff_ne.mpr c9
     obtain rfl := Option.some.inj H
     go_enter Try.func7, Try.ntmps7
     go_wp2_with (first | ((with_reducible refine gate_callee (f := 12) rfl ?_); refine goesL_ (some 9) rfl rfl Try.func12 (by kernel_rfl) rfl #[] rfl (by (try simp only [List.map_toArray, List.map_cons, List.map_nil]); first | done | rfl | (simp only [List.length_drop, List.length_take]; rfl)) ?_; (with_reducible refine (forebearlaw05_awake.calls k  true _ A2.out).mono ?_); rintro e w30 ⟨rfl, hb⟩; refine ⟨_, rfl, ?_⟩; have n0_ := Aside0.mk (below_step (by repeat (first | (with_reducible first | exact HB.out | apply below_alloc | apply pw_below_drewN | apply below_drew1) | exact HB.out)) hb); clear HB; have HB := n0_; clear n0_; (try clear hb); (try clear hb2); (try clear hk); (try clear hi)) | ((with_reducible refine gate_dst (N := 13) rfl ?_); (try (refine gate_guard (by rfl) ?_; dsimp only)); refine Kd.R_lit Kd.string _ 9 ?hg (N := 13) ?hd (xs := ([] : List ByteArray)) (inner := []) (ok := fun _ => True) (okp := fun _ => True) ?hr ?hp (fun _ hk => hk) trivial (Below.refl _ _) (Nat.le_refl _) (by simp) ?_; (case hd => rfl); (case hg => rfl); (case hr => first | (go_simp; done) | (go_simp; rfl)); (case hp => exact (Reps.none _ _)); intro v427 w31 ho32 hb hg_ hnew_; clear hg_ hnew_; (first | rw [← Ny426.out] at ho32 | (simp only [Int.reduceToNat] at ho32; rw [← Ny426.out] at ho32)); have n0_ := Aside0.mk (Kd.R_lower ho32 (below_size (by repeat (first | (with_reducible first | exact HB.out | apply below_alloc | apply pw_below_drewN | apply below_drew1) | exact HB.out)))); have n1_ := Aside0.mk (below_step (by repeat (first | (with_reducible first | exact HB.out | apply below_alloc | apply pw_below_drewN | apply below_drew1) | exact HB.out)) hb); clear HB; have HO428 := n0_; have HB := n1_; clear n0_ n1_; clear hb ho32) | ((with_reducible refine gate_builtin (b := .append) (xs := #[.tmp 13, .tmp 14]) rfl ?_); (try (refine gate_guard (by rfl) ?_; dsimp only)); at_builtin; refine Kd.R_append_rows Kd.string (w0 := w) w.heap.size rfl (.tmp 13) (.tmp 14) 22 9 (.string ⟨#[]⟩) 16 rfl Try.underlying22 info9 rfl (by decide) (by omega) v427 y426 l0 _ _ _ (fun _ => True) (fun _ => False) rfl rfl ?aO ?aR (fun _ _ h => h) (fun _ h => h.elim) ?aF ?aB ?aS ?aL ?_; (case aR => repeat (first | exact (Kd.C_below HR0.out HB.out) | (with_reducible refine Kd.C_alloc ?_ _) | (with_reducible refine Kd.C_drewN ?_ _) | (with_reducible refine Kd.C_drew ?_))); (case aB => exact (by repeat (first | (with_reducible first | exact HB.out | apply below_alloc | apply pw_below_drewN | apply below_drew1) | exact HB.out))); (case aF => exact (fun _ _ => trivial)); (case aO => exact (by (with_reducible repeat (first | apply Kd.R_alloc | apply Kd.R_drewN | apply Kd.R_drew)); exact HO428.out)); (case aS => exact (below_size (by repeat (first | (with_reducible first | exact HB.out | apply below_alloc | apply pw_below_drewN | apply below_drew1) | exact HB.out)))); (case aL => have := LMc4.out; omega); intro v430 w33 ho hb hg hat; rw [← Ny429.out] at ho; have n0_ := Aside0.mk (hb); have n1_ := Aside0.mk (ho); clear HB; clear HO428; have HB := n0_; have HO431 := n1_; clear n0_ n1_; clear ho hb hg hat; obtain ⟨Ao34, co34, eo34⟩ := Kd.R_slice HO431.out; subst eo34) | ((with_reducible refine gate_callee (f := 15) rfl ?_); refine goesL_ (some 16) rfl rfl Try.func15 (by kernel_rfl) rfl #[.slice A0 l0.length c0, .slice Ao34 y429.length co34] rfl (by (try simp only [List.map_toArray, List.map_cons, List.map_nil]); first | done | rfl | (simp only [List.length_drop, List.length_take]; rfl)) ?_; (with_reducible refine (diff_Hunks.calls k _ _ l0 _ _ y429 t432 t433 _ ?side1 ?side2 ?side3 ?side4 A5.out).mono ?_); (case side1 => repeat (first | exact (Kd.C_below HR0.out HB.out) | (with_reducible refine Kd.C_alloc ?_ _) | (with_reducible refine Kd.C_drewN ?_ _) | (with_reducible refine Kd.C_drew ?_))); (case side2 => exact HC0.out); (case side3 => repeat (first | exact (Kd.R_reads' HO431.out).2.2 | (with_reducible refine Kd.C_alloc ?_ _) | (with_reducible refine Kd.C_drewN ?_ _) | (with_reducible refine Kd.C_drew ?_))); (case side4 => exact (Kd.R_reads' HO431.out).2.1); rintro e w35 ⟨v434, rfl, ho0, hb⟩; refine ⟨_, rfl, ?_⟩; have n0_ := Aside0.mk (Kd.R_below (by (with_reducible repeat (first | apply Kd.R_alloc | apply Kd.R_drewN | apply Kd.R_drew)); exact HO431.out) hb); have n1_ := Aside0.mk (Kd.S_lower (Kd.S_new' ho0 (Kd.R_lt (by (with_reducible repeat (first | apply Kd.R_alloc | apply Kd.R_drewN | apply Kd.R_drew)); exact HO431.out))) (below_size (by repeat (first | (with_reducible first | exact HB.out | apply below_alloc | apply pw_below_drewN | apply below_drew1) | exact HB.out)))); have n2_ := Aside0.mk (below_step (by repeat (first | (with_reducible first | exact HB.out | apply below_alloc | apply pw_below_drewN | apply below_drew1) | exact HB.out)) hb); clear HO431; clear HB; have HO431 := n0_; have HO435 := n1_; have HB := n2_; clear n0_ n1_ n2_; (try clear hb); (try clear hb2); (try clear hk); (try clear hi); (try clear ho0)) | ((with_reducible refine gate_callee (f := 15) rfl ?_); refine goesL_ (some 21) rfl rfl Try.func15 (by kernel_rfl) rfl #[.slice A0 l0.length c0, .slice none 0 0] rfl (by (try simp only [List.map_toArray, List.map_cons, List.map_nil]); first | done | rfl | (simp only [List.length_drop, List.length_take]; rfl)) ?_; (refine (diff_Hunks.calls k _ _ l0 _ _ ([] : List ByteArray) t436 t437 _ ?side1 ?side2 ?side3 ?side4 A6.out).mono ?_); (case side1 => repeat (first | exact (Kd.C_below HR0.out HB.out) | (with_reducible refine Kd.C_alloc ?_ _) | (with_reducible refine Kd.C_drewN ?_ _) | (with_reducible refine Kd.C_drew ?_))); (case side2 => exact HC0.out); (case side3 => exact Kd.C_nil _ _); (case side4 => exact Nat.le_refl _); rintro e w36 ⟨v438, rfl, ho0, hb⟩; refine ⟨_, rfl, ?_⟩; have n0_ := Aside0.mk (Kd.R_below (by (with_reducible repeat (first | apply Kd.R_alloc | apply Kd.R_drewN | apply Kd.R_drew)); exact HO431.out) hb); have n1_ := Aside0.mk (Kd.S_elder' (by (with_reducible repeat (first | apply Kd.S_alloc | apply Kd.S_drewN | apply Kd.S_drew)); exact HO435.out) (Kd.S_base ho0) hb); have n2_ := Aside0.mk (Kd.S_lower (Kd.S_new' (Kd.S_new' ho0 (Kd.R_lt (by (with_reducible repeat (first | apply Kd.R_alloc | apply Kd.R_drewN | apply Kd.R_drew)); exact HO431.out))) (Kd.S_lt (by (with_reducible repeat (first | apply Kd.S_alloc | apply Kd.S_drewN | apply Kd.S_drew)); exact HO435.out))) (below_size (by repeat (first | (with_reducible first | exact HB.out | apply below_alloc | apply pw_below_drewN | apply below_drew1) | exact HB.out)))); have n3_ := Aside0.mk (below_step (by repeat (first | (with_reducible first | exact HB.out | apply below_alloc | apply pw_below_drewN | apply below_drew1) | exact HB.out)) hb); clear HO431; clear HO435; clear HB; have HO431 := n0_; have HO435 := n1_; have HO439 := n2_; have HB := n3_; clear n0_ n1_ n2_ n3_; (try clear hb); (try clear hb2); (try clear hk); (try clear hi); (try clear ho0)) | ((with_reducible refine gate_callee (f := 15) rfl ?_); refine goesL_ (some 26) rfl rfl Try.func15 (by kernel_rfl) rfl #[.slice none 0 0, .slice A0 l0.length c0] rfl (by (try simp only [List.map_toArray, List.map_cons, List.map_nil]); first | done | rfl | (simp only [List.length_drop, List.length_take]; rfl)) ?_; (refine (diff_Hunks.calls k _ _ ([] : List ByteArray) _ _ l0 t440 t441 _ ?side1 ?side2 ?side3 ?side4 A7.out).mono ?_); (case side1 => exact Kd.C_nil _ _); (case side2 => exact Nat.le_refl _); (case side3 => repeat (first | exact (Kd.C_below HR0.out HB.out) | (with_reducible refine Kd.C_alloc ?_ _) | (with_reducible refine Kd.C_drewN ?_ _) | (with_reducible refine Kd.C_drew ?_))); (case side4 => exact HC0.out); rintro e w37 ⟨v442, rfl, ho0, hb⟩; refine ⟨_, rfl, ?_⟩; have n0_ := Aside0.mk (Kd.R_below (by (with_reducible repeat (first | apply Kd.R_alloc | apply Kd.R_drewN | apply Kd.R_drew)); exact HO431.out) hb); have n1_ := Aside0.mk (Kd.S_elder' (by (with_reducible repeat (first | apply Kd.S_alloc | apply Kd.S_drewN | apply Kd.S_drew)); exact HO435.out) (Kd.S_base ho0) hb); have n2_ := Aside0.mk (Kd.S_elder' (by (with_reducible repeat (first | apply Kd.S_alloc | apply Kd.S_drewN | apply Kd.S_drew)); exact HO439.out) (Kd.S_base ho0) hb); have n3_ := Aside0.mk (Kd.S_lower (Kd.S_new' (Kd.S_new' (Kd.S_new' ho0 (Kd.R_lt (by (with_reducible repeat (first | apply Kd.R_alloc | apply Kd.R_drewN | apply Kd.R_drew)); exact HO431.out))) (Kd.S_lt (by (with_reducible repeat (first | apply Kd.S_alloc | apply Kd.S_drewN | apply Kd.S_drew)); exact HO435.out))) (Kd.S_lt (by (with_reducible repeat (first | apply Kd.S_alloc | apply Kd.S_drewN | apply Kd.S_drew)); exact HO439.out))) (below_size (by repeat (first | (with_reducible first | exact HB.out | apply below_alloc | apply pw_below_drewN | apply below_drew1) | exact HB.out)))); have n4_ := Aside0.mk (below_step (by repeat (first | (with_reducible first | exact HB.out | apply below_alloc | apply pw_below_drewN | apply below_drew1) | exact HB.out)) hb); clear HO431; clear HO435; clear HO439; clear HB; have HO431 := n0_; have HO435 := n1_; have HO439 := n2_; have HO443 := n3_; have HB := n4_; clear n0_ n1_ n2_ n3_ n4_; (try clear hb); (try clear hb2); (try clear hk); (try clear hi); (try clear ho0)))
     go_ret
     exact ⟨by first | rfl | (simp [errW_none, errW_some] <;> rfl) | (simp [*, errW_none, errW_some] <;> rfl), by repeat (first | (with_reducible first | exact HB.out | apply below_alloc | apply pw_below_drewN | apply below_drew1) | exact HB.out)⟩
   ·rw [if_neg c8] at H
    have c8b0 : decide (256 < (l0.length : Int)) = false := decide_eq_false c8
    have c8b1 : decide (256 < l0.length) = false := decide_eq_false (by omega)
    clear c8
    have HC38 := Aside0.mk H
    clear H
    go_enter Try.func7, Try.ntmps7
    go_upto_region 8 with (first | ((with_reducible refine gate_callee (f := 12) rfl ?_); refine goesL_ (some 9) rfl rfl Try.func12 (by kernel_rfl) rfl #[] rfl (by (try simp only [List.map_toArray, List.map_cons, List.map_nil]); first | done | rfl | (simp only [List.length_drop, List.length_take]; rfl)) ?_; (with_reducible refine (forebearlaw05_awake.calls k  true _ A2.out).mono ?_); rintro e w39 ⟨rfl, hb⟩; refine ⟨_, rfl, ?_⟩; have n0_ := Aside0.mk (below_step (by repeat (first | (with_reducible first | exact HB.out | apply below_alloc | apply pw_below_drewN | apply below_drew1) | exact HB.out)) hb); clear HB; have HB := n0_; clear n0_; (try clear hb); (try clear hb2); (try clear hk); (try clear hi)) | ((with_reducible refine gate_dst (N := 13) rfl ?_); (try (refine gate_guard (by rfl) ?_; dsimp only)); refine Kd.R_lit Kd.string _ 9 ?hg (N := 13) ?hd (xs := ([] : List ByteArray)) (inner := []) (ok := fun _ => True) (okp := fun _ => True) ?hr ?hp (fun _ hk => hk) trivial (Below.refl _ _) (Nat.le_refl _) (by simp) ?_; (case hd => rfl); (case hg => rfl); (case hr => first | (go_simp; done) | (go_simp; rfl)); (case hp => exact (Reps.none _ _)); intro v427 w40 ho41 hb hg_ hnew_; clear hg_ hnew_; (first | rw [← Ny426.out] at ho41 | (simp only [Int.reduceToNat] at ho41; rw [← Ny426.out] at ho41)); have n0_ := Aside0.mk (Kd.R_lower ho41 (below_size (by repeat (first | (with_reducible first | exact HB.out | apply below_alloc | apply pw_below_drewN | apply below_drew1) | exact HB.out)))); have n1_ := Aside0.mk (below_step (by repeat (first | (with_reducible first | exact HB.out | apply below_alloc | apply pw_below_drewN | apply below_drew1) | exact HB.out)) hb); clear HB; have HO428 := n0_; have HB := n1_; clear n0_ n1_; clear hb ho41) | ((with_reducible refine gate_builtin (b := .append) (xs := #[.tmp 13, .tmp 14]) rfl ?_); (try (refine gate_guard (by rfl) ?_; dsimp only)); at_builtin; refine Kd.R_append_rows Kd.string (w0 := w) w.heap.size rfl (.tmp 13) (.tmp 14) 22 9 (.string ⟨#[]⟩) 16 rfl Try.underlying22 info9 rfl (by decide) (by omega) v427 y426 l0 _ _ _ (fun _ => True) (fun _ => False) rfl rfl ?aO ?aR (fun _ _ h => h) (fun _ h => h.elim) ?aF ?aB ?aS ?aL ?_; (case aR => repeat (first | exact (Kd.C_below HR0.out HB.out) | (with_reducible refine Kd.C_alloc ?_ _) | (with_reducible refine Kd.C_drewN ?_ _) | (with_reducible refine Kd.C_drew ?_))); (case aB => exact (by repeat (first | (with_reducible first | exact HB.out | apply below_alloc | apply pw_below_drewN | apply below_drew1) | exact HB.out))); (case aF => exact (fun _ _ => trivial)); (case aO => exact (by (with_reducible repeat (first | apply Kd.R_alloc | apply Kd.R_drewN | apply Kd.R_drew)); exact HO428.out)); (case aS => exact (below_size (by repeat (first | (with_reducible first | exact HB.out | apply below_alloc | apply pw_below_drewN | apply below_drew1) | exact HB.out)))); (case aL => have := LMc4.out; omega); intro v430 w42 ho hb hg hat; rw [← Ny429.out] at ho; have n0_ := Aside0.mk (hb); have n1_ := Aside0.mk (ho); clear HB; clear HO428; have HB := n0_; have HO431 := n1_; clear n0_ n1_; clear ho hb hg hat; obtain ⟨Ao43, co43, eo43⟩ := Kd.R_slice HO431.out; subst eo43) | ((with_reducible refine gate_callee (f := 15) rfl ?_); refine goesL_ (some 16) rfl rfl Try.func15 (by kernel_rfl) rfl #[.slice A0 l0.length c0, .slice Ao43 y429.length co43] rfl (by (try simp only [List.map_toArray, List.map_cons, List.map_nil]); first | done | rfl | (simp only [List.length_drop, List.length_take]; rfl)) ?_; (with_reducible refine (diff_Hunks.calls k _ _ l0 _ _ y429 t432 t433 _ ?side1 ?side2 ?side3 ?side4 A5.out).mono ?_); (case side1 => repeat (first | exact (Kd.C_below HR0.out HB.out) | (with_reducible refine Kd.C_alloc ?_ _) | (with_reducible refine Kd.C_drewN ?_ _) | (with_reducible refine Kd.C_drew ?_))); (case side2 => exact HC0.out); (case side3 => repeat (first | exact (Kd.R_reads' HO431.out).2.2 | (with_reducible refine Kd.C_alloc ?_ _) | (with_reducible refine Kd.C_drewN ?_ _) | (with_reducible refine Kd.C_drew ?_))); (case side4 => exact (Kd.R_reads' HO431.out).2.1); rintro e w44 ⟨v434, rfl, ho0, hb⟩; refine ⟨_, rfl, ?_⟩; have n0_ := Aside0.mk (Kd.R_below (by (with_reducible repeat (first | apply Kd.R_alloc | apply Kd.R_drewN | apply Kd.R_drew)); exact HO431.out) hb); have n1_ := Aside0.mk (Kd.S_lower (Kd.S_new' ho0 (Kd.R_lt (by (with_reducible repeat (first | apply Kd.R_alloc | apply Kd.R_drewN | apply Kd.R_drew)); exact HO431.out))) (below_size (by repeat (first | (with_reducible first | exact HB.out | apply below_alloc | apply pw_below_drewN | apply below_drew1) | exact HB.out)))); have n2_ := Aside0.mk (below_step (by repeat (first | (with_reducible first | exact HB.out | apply below_alloc | apply pw_below_drewN | apply below_drew1) | exact HB.out)) hb); clear HO431; clear HB; have HO431 := n0_; have HO435 := n1_; have HB := n2_; clear n0_ n1_ n2_; (try clear hb); (try clear hb2); (try clear hk); (try clear hi); (try clear ho0)) | ((with_reducible refine gate_callee (f := 15) rfl ?_); refine goesL_ (some 21) rfl rfl Try.func15 (by kernel_rfl) rfl #[.slice A0 l0.length c0, .slice none 0 0] rfl (by (try simp only [List.map_toArray, List.map_cons, List.map_nil]); first | done | rfl | (simp only [List.length_drop, List.length_take]; rfl)) ?_; (refine (diff_Hunks.calls k _ _ l0 _ _ ([] : List ByteArray) t436 t437 _ ?side1 ?side2 ?side3 ?side4 A6.out).mono ?_); (case side1 => repeat (first | exact (Kd.C_below HR0.out HB.out) | (with_reducible refine Kd.C_alloc ?_ _) | (with_reducible refine Kd.C_drewN ?_ _) | (with_reducible refine Kd.C_drew ?_))); (case side2 => exact HC0.out); (case side3 => exact Kd.C_nil _ _); (case side4 => exact Nat.le_refl _); rintro e w45 ⟨v438, rfl, ho0, hb⟩; refine ⟨_, rfl, ?_⟩; have n0_ := Aside0.mk (Kd.R_below (by (with_reducible repeat (first | apply Kd.R_alloc | apply Kd.R_drewN | apply Kd.R_drew)); exact HO431.out) hb); have n1_ := Aside0.mk (Kd.S_elder' (by (with_reducible repeat (first | apply Kd.S_alloc | apply Kd.S_drewN | apply Kd.S_drew)); exact HO435.out) (Kd.S_base ho0) hb); have n2_ := Aside0.mk (Kd.S_lower (Kd.S_new' (Kd.S_new' ho0 (Kd.R_lt (by (with_reducible repeat (first | apply Kd.R_alloc | apply Kd.R_drewN | apply Kd.R_drew)); exact HO431.out))) (Kd.S_lt (by (with_reducible repeat (first | apply Kd.S_alloc | apply Kd.S_drewN | apply Kd.S_drew)); exact HO435.out))) (below_size (by repeat (first | (with_reducible first | exact HB.out | apply below_alloc | apply pw_below_drewN | apply below_drew1) | exact HB.out)))); have n3_ := Aside0.mk (below_step (by repeat (first | (with_reducible first | exact HB.out | apply below_alloc | apply pw_below_drewN | apply below_drew1) | exact HB.out)) hb); clear HO431; clear HO435; clear HB; have HO431 := n0_; have HO435 := n1_; have HO439 := n2_; have HB := n3_; clear n0_ n1_ n2_ n3_; (try clear hb); (try clear hb2); (try clear hk); (try clear hi); (try clear ho0)) | ((with_reducible refine gate_callee (f := 15) rfl ?_); refine goesL_ (some 26) rfl rfl Try.func15 (by kernel_rfl) rfl #[.slice none 0 0, .slice A0 l0.length c0] rfl (by (try simp only [List.map_toArray, List.map_cons, List.map_nil]); first | done | rfl | (simp only [List.length_drop, List.length_take]; rfl)) ?_; (refine (diff_Hunks.calls k _ _ ([] : List ByteArray) _ _ l0 t440 t441 _ ?side1 ?side2 ?side3 ?side4 A7.out).mono ?_); (case side1 => exact Kd.C_nil _ _); (case side2 => exact Nat.le_refl _); (case side3 => repeat (first | exact (Kd.C_below HR0.out HB.out) | (with_reducible refine Kd.C_alloc ?_ _) | (with_reducible refine Kd.C_drewN ?_ _) | (with_reducible refine Kd.C_drew ?_))); (case side4 => exact HC0.out); rintro e w46 ⟨v442, rfl, ho0, hb⟩; refine ⟨_, rfl, ?_⟩; have n0_ := Aside0.mk (Kd.R_below (by (with_reducible repeat (first | apply Kd.R_alloc | apply Kd.R_drewN | apply Kd.R_drew)); exact HO431.out) hb); have n1_ := Aside0.mk (Kd.S_elder' (by (with_reducible repeat (first | apply Kd.S_alloc | apply Kd.S_drewN | apply Kd.S_drew)); exact HO435.out) (Kd.S_base ho0) hb); have n2_ := Aside0.mk (Kd.S_elder' (by (with_reducible repeat (first | apply Kd.S_alloc | apply Kd.S_drewN | apply Kd.S_drew)); exact HO439.out) (Kd.S_base ho0) hb); have n3_ := Aside0.mk (Kd.S_lower (Kd.S_new' (Kd.S_new' (Kd.S_new' ho0 (Kd.R_lt (by (with_reducible repeat (first | apply Kd.R_alloc | apply Kd.R_drewN | apply Kd.R_drew)); exact HO431.out))) (Kd.S_lt (by (with_reducible repeat (first | apply Kd.S_alloc | apply Kd.S_drewN | apply Kd.S_drew)); exact HO435.out))) (Kd.S_lt (by (with_reducible repeat (first | apply Kd.S_alloc | apply Kd.S_drewN | apply Kd.S_drew)); exact HO439.out))) (below_size (by repeat (first | (with_reducible first | exact HB.out | apply below_alloc | apply pw_below_drewN | apply below_drew1) | exact HB.out)))); have n4_ := Aside0.mk (below_step (by repeat (first | (with_reducible first | exact HB.out | apply below_alloc | apply pw_below_drewN | apply below_drew1) | exact HB.out)) hb); clear HO431; clear HO435; clear HO439; clear HB; have HO431 := n0_; have HO435 := n1_; have HO439 := n2_; have HO443 := n3_; have HB := n4_; clear n0_ n1_ n2_ n3_ n4_; (try clear hb); (try clear hb2); (try clear hk); (try clear hi); (try clear ho0)))
    (try simp only [Act.put, List.setIfInBounds_toArray, List.set_cons_zero, List.set_cons_succ])
    go_cut [74] (fun v74 wc => ∃ (kq : Nat) (x74_37 : Bool), v74 = .bool x74_37 ∧ Aside0 (forebearlaw05_DiffSelf.j0 kq l0 t436 t440 x74_37 = some r) ∧ Aside0 (kq ≤ k) ∧ Aside0 (Kd.S k46 46 wc w.heap.size (fun k_ => some k_ ≠ (v442 : Value).ownBlock) v438 t436) ∧ Aside0 (Kd.S k46 46 wc w.heap.size (fun k_ => some k_ ≠ (v438 : Value).ownBlock) v442 t440) ∧ Aside0 (Below w.heap.size w wc))
    case first =>
     have H := HC38.out
     clear HC38
     by_cases c47 : t433 = 0
     ·rw [if_pos c47] at H
      have c47b0 : (t433 == 0) = true := beq_iff_eq.mpr c47
      have c47b1 : (t433 != 0) = false := bne_eq_false_iff_eq.mpr c47
      clear c47
      (first | rw [c47b0] | (simp only [i64_w, i32_w]; rw [c47b0]) | skip)
      by_cases c48 : t437 = 0
      ·rw [if_pos c48] at H
       have c48b0 : (t437 == 0) = true := beq_iff_eq.mpr c48
       have c48b1 : (t437 != 0) = false := bne_eq_false_iff_eq.mpr c48
       clear c48
       by_cases c49 : (t432.length : Int) = 0
       ·rw [if_pos c49] at H
        have c49b0 : ((t432.length : Int) == 0) = true := beq_iff_eq.mpr c49
        have c49b1 : ((t432.length : Int) != 0) = false := bne_eq_false_iff_eq.mpr c49
        clear c49
        obtain ⟨ji50, hji50⟩ : ∃ j_ : Int, (mn (l0.length : Int) 1) = j_ := ⟨_, rfl⟩
        replace H : (if (t436.length : Int) = (ji50) then (forebearlaw05_DiffSelf.j0 k l0 t436 t440 ((t440.length : Int) != (t436.length : Int))) else (forebearlaw05_DiffSelf.j0 k l0 t436 t440 true)) = some r := by first | (rw [hji50] at H; exact H) | (simp only [hji50] at H ⊢; exact H)
        (try (have hji50h : ji50 ≤ 1 := by (rw [← hji50]; unfold mn; (repeat' split) <;> omega)))
        (try (have hji50g : ji50 ≤ 64 := by omega))
        (try (have hji50l : 0 ≤ ji50 := by (rw [← hji50]; unfold mn; (repeat' split) <;> omega)))
        (try (have hji50m : 0 ≤ ji50 := by omega))
        have hji50_ : (if 1 < (l0.length : Int) then 1 else (l0.length : Int)) = ji50 := hji50
        by_cases c51 : (t436.length : Int) = (ji50)
        ·rw [if_pos c51] at H
         have c51b0 : ((t436.length : Int) == (ji50)) = true := beq_iff_eq.mpr c51
         have c51b1 : ((t436.length : Int) != (ji50)) = false := bne_eq_false_iff_eq.mpr c51
         clear c51
         have H' := Aside0.mk H
         clear H
         obtain ⟨Ao52, co52, eo52⟩ := Kd.S_slice HO435.out
         subst eo52
         obtain ⟨Ao53, co53, eo53⟩ := Kd.S_slice HO439.out
         subst eo53
         obtain ⟨Ao54, co54, eo54⟩ := Kd.S_slice HO443.out
         subst eo54
         go_wp2
         go_meet
         case rel => exact ⟨_, (((t440.length : Int) != (t436.length : Int))), (by first | rfl | (simp; done) | (simp [*]; done)), H', ⟨by first | omega | exact Nat.le_refl _⟩, ⟨by (with_reducible repeat (first | apply Kd.S_alloc | apply Kd.S_drewN | apply Kd.S_drew)); exact Kd.S_mono HO439.out (fun _ hk => hk.2)⟩, ⟨by (with_reducible repeat (first | apply Kd.S_alloc | apply Kd.S_drewN | apply Kd.S_drew)); exact Kd.S_mono HO443.out (fun _ hk => hk.2)⟩, ⟨by repeat (first | (with_reducible first | exact HB.out | apply below_alloc | apply pw_below_drewN | apply below_drew1) | exact HB.out)⟩⟩
        ·rw [if_neg c51] at H
         have c51b0 : ((t436.length : Int) == (ji50)) = false := beq_eq_false_iff_ne.mpr c51
         have c51b1 : ((t436.length : Int) != (ji50)) = true := bne_iff_ne.mpr c51
         have H' := Aside0.mk H
         clear H
         obtain ⟨Ao55, co55, eo55⟩ := Kd.S_slice HO435.out
         subst eo55
         obtain ⟨Ao56, co56, eo56⟩ := Kd.S_slice HO439.out
         subst eo56
         go_wp2
         go_meet
         case rel => exact ⟨_, (true), (by first | rfl | (simp; done) | (simp [*]; done)), H', ⟨by first | omega | exact Nat.le_refl _⟩, ⟨by (with_reducible repeat (first | apply Kd.S_alloc | apply Kd.S_drewN | apply Kd.S_drew)); exact Kd.S_mono HO439.out (fun _ hk => hk.2)⟩, ⟨by (with_reducible repeat (first | apply Kd.S_alloc | apply Kd.S_drewN | apply Kd.S_drew)); exact Kd.S_mono HO443.out (fun _ hk => hk.2)⟩, ⟨by repeat (first | (with_reducible first | exact HB.out | apply below_alloc | apply pw_below_drewN | apply below_drew1) | exact HB.out)⟩⟩
       ·rw [if_neg c49] at H
        have c49b0 : ((t432.length : Int) == 0) = false := beq_eq_false_iff_ne.mpr c49
        have c49b1 : ((t432.length : Int) != 0) = true := bne_iff_ne.mpr c49
        have c49b2 : ¬ (t432 = []) := fun h_ => c49 (by rw [h_]; rfl)
        have H' := Aside0.mk H
        clear H
        obtain ⟨Ao57, co57, eo57⟩ := Kd.S_slice HO435.out
        subst eo57
        go_wp2
        go_meet
        case rel => exact ⟨_, (true), (by first | rfl | (simp; done) | (simp [*]; done)), H', ⟨by first | omega | exact Nat.le_refl _⟩, ⟨by (with_reducible repeat (first | apply Kd.S_alloc | apply Kd.S_drewN | apply Kd.S_drew)); exact Kd.S_mono HO439.out (fun _ hk => hk.2)⟩, ⟨by (with_reducible repeat (first | apply Kd.S_alloc | apply Kd.S_drewN | apply Kd.S_drew)); exact Kd.S_mono HO443.out (fun _ hk => hk.2)⟩, ⟨by repeat (first | (with_reducible first | exact HB.out | apply below_alloc | apply pw_below_drewN | apply below_drew1) | exact HB.out)⟩⟩
      ·rw [if_neg c48] at H
       have c48b0 : (t437 == 0) = false := beq_eq_false_iff_ne.mpr c48
       have c48b1 : (t437 != 0) = true := bne_iff_ne.mpr c48
       have H' := Aside0.mk H
       clear H
       go_wp2
       go_meet
       case rel => exact ⟨_, (true), (by first | rfl | (simp; done) | (simp [*]; done)), H', ⟨by first | omega | exact Nat.le_refl _⟩, ⟨by (with_reducible repeat (first | apply Kd.S_alloc | apply Kd.S_drewN | apply Kd.S_drew)); exact Kd.S_mono HO439.out (fun _ hk => hk.2)⟩, ⟨by (with_reducible repeat (first | apply Kd.S_alloc | apply Kd.S_drewN | apply Kd.S_drew)); exact Kd.S_mono HO443.out (fun _ hk => hk.2)⟩, ⟨by repeat (first | (with_reducible first | exact HB.out | apply below_alloc | apply pw_below_drewN | apply below_drew1) | exact HB.out)⟩⟩
     ·rw [if_neg c47] at H
      have c47b0 : (t433 == 0) = false := beq_eq_false_iff_ne.mpr c47
      have c47b1 : (t433 != 0) = true := bne_iff_ne.mpr c47
      (first | rw [c47b0] | (simp only [i64_w, i32_w]; rw [c47b0]) | skip)
      have H' := Aside0.mk H
      clear H
      go_wp2
      go_meet
      case rel => exact ⟨_, (true), (by first | rfl | (simp; done) | (simp [*]; done)), H', ⟨by first | omega | exact Nat.le_refl _⟩, ⟨by (with_reducible repeat (first | apply Kd.S_alloc | apply Kd.S_drewN | apply Kd.S_drew)); exact Kd.S_mono HO439.out (fun _ hk => hk.2)⟩, ⟨by (with_reducible repeat (first | apply Kd.S_alloc | apply Kd.S_drewN | apply Kd.S_drew)); exact Kd.S_mono HO443.out (fun _ hk => hk.2)⟩, ⟨by repeat (first | (with_reducible first | exact HB.out | apply below_alloc | apply pw_below_drewN | apply below_drew1) | exact HB.out)⟩⟩
    case rest =>
     clear HC38
     try clear c1
     try clear p2
     try clear c3
     try clear c4
     try clear c5
     try clear p6
     try clear c7
     try clear c8
     try clear c8b0
     try clear c8b1
     try clear c9
     try clear c9b0
     try clear c9b1
     try clear c10
     try clear c10b0
     try clear c10b1
     try clear c12
     try clear c15
     try clear c47
     try clear c47b0
     try clear c47b1
     try clear c48
     try clear c48b0
     try clear c48b1
     try clear c49
     try clear c49b0
     try clear c49b1
     try clear c49b2
     try clear c51
     try clear c51b0
     try clear c51b1
     obtain ⟨kq, x74_37, rfl, HA, HJ37, HO_5, HO_7, HB⟩ := hcut
     cases kq with
     | zero => exact absurd HA.out (by simp [forebearlaw05_DiffSelf.j0])
     | succ kj37 =>
      have H := HA.out
      clear HA
      simp only [forebearlaw05_DiffSelf.j0] at H
      by_cases c58 : x74_37 = true
      ·subst c58
       have H1 : (some false) = some r := by rw [if_pos rfl] at H; exact H
       clear H
       have H := H1
       clear H1
       obtain rfl := Option.some.inj H
       go_wp2
       go_ret
       exact ⟨by first | rfl | (simp [errW_none, errW_some] <;> rfl) | (simp [*, errW_none, errW_some] <;> rfl), by repeat (first | (with_reducible first | exact HB.out | apply below_alloc | apply pw_below_drewN | apply below_drew1) | exact HB.out)⟩
      ·replace c58 := Bool.eq_false_iff.mpr c58
       subst c58
       have H1 : (if (l0.length : Int) = 0 then (some true) else (if 0 < (t436.length : Int) then ((forebearref03_Same.f kj37 ((rd_T46 t436 0).f2) l0).bind fun t445 => (if t445 = true then (if 0 < (t440.length : Int) then ((forebearref03_Same.f kj37 ((rd_T46 t440 0).f3) l0).bind fun t447 => (if t447 = true then (some ((wrap64 ((((rd_T46 t436 0).f3).length : Int) + (((rd_T46 t440 0).f2).length : Int))) == 0)) else (some false))) else (none)) else (some false))) else (none))) = some r := by rw [if_neg (show ¬ (false = true) by decide)] at H; exact H
       clear H
       have H := H1
       clear H1
       by_cases c59 : (l0.length : Int) = 0
       ·rw [if_pos c59] at H
        have c59b0 : ((l0.length : Int) == 0) = true := beq_iff_eq.mpr c59
        have c59b1 : ((l0.length : Int) != 0) = false := bne_eq_false_iff_eq.mpr c59
        clear c59
        obtain rfl := Option.some.inj H
        try go_wp2
        have n0_ := Aside0.mk (Kd.S_drew HO_5.out)
        have n1_ := Aside0.mk (Kd.S_drew HO_7.out)
        have n2_ := Aside0.mk (below_drew1 HB.out)
        clear HO_5
        clear HO_7
        clear HB
        have HO_5 := n0_
        have HO_7 := n1_
        have HB := n2_
        clear n0_ n1_ n2_
        refine start_ (n := 34) (S := fun w' => True) (ds := []) (vb 0 34) (by kernel_rfl) rfl rfl trivial (fun hHeld => ?_); refine with_tabW forebearlaw05_DiffSelf.tab10 forebearlaw05_DiffSelf.bits10 (fun HT_ HW_ => ?_)
        generalize wc.drew = w60 at HO_5 HO_7 HB hHeld ⊢
        refine pure_ (i := 0) (N := some 75) (v := ?_) (a' := ?_) (vb 1 34) rfl rfl (any_of HT_.out (by kernel_rfl)) (fun _ _ _ h => h) (Or.inl ⟨by rfl, ?_⟩) ?_ ?_
        rotate_left
        ·intro w'
         go_simp
         with_reducible rfl
        rotate_left
        ·simp only [Act.put, List.setIfInBounds_toArray, List.set_cons_zero, List.set_cons_succ, i64_w, i32_w]
         rfl
        refine pure_ (i := 1) (N := some 76) (v := ?_) (a' := ?_) (vb 3 34) rfl rfl (any_of HT_.out (by kernel_rfl)) (fun _ _ _ h => h) (Or.inl ⟨by rfl, ?_⟩) ?_ ?_
        rotate_left
        ·intro w'
         go_simp
         with_reducible rfl
        rotate_left
        ·simp only [Act.put, List.setIfInBounds_toArray, List.set_cons_zero, List.set_cons_succ, i64_w, i32_w]
         rfl
        refine pure_ (i := 2) (N := some 77) (v := ?_) (a' := ?_) (vb 7 34) rfl rfl (any_of HT_.out (by kernel_rfl)) (fun _ _ _ h => h) (Or.inl ⟨by rfl, ?_⟩) ?_ ?_
        rotate_left
        ·intro w'
         go_simp
         with_reducible rfl
        rotate_left
        ·simp only [Act.put, List.setIfInBounds_toArray, List.set_cons_zero, List.set_cons_succ, i64_w, i32_w]
         rfl
        refine pure_ (i := 3) (N := some 78) (v := ?_) (a' := ?_) (vb 15 34) rfl rfl (any_of HT_.out (by kernel_rfl)) (fun _ _ _ h => h) (Or.inl ⟨by rfl, ?_⟩) ?_ ?_
        rotate_left
        ·intro w'
         go_simp
         with_reducible rfl
        rotate_left
        ·simp only [Act.put, List.setIfInBounds_toArray, List.set_cons_zero, List.set_cons_succ, i64_w, i32_w]
         rfl
        refine pure_ (i := 4) (N := some 79) (v := undef) (a' := ?_) (vb 31 34) rfl rfl (any_of HT_.out (by kernel_rfl)) (fun _ _ _ h => h) (Or.inr ⟨by rfl, rfl⟩) ?_ ?_
        rotate_left
        ·simp only [Act.put, List.setIfInBounds_toArray, List.set_cons_zero, List.set_cons_succ, i64_w, i32_w]
         rfl
        refine pure_ (i := 5) (N := some 80) (v := undef) (a' := ?_) (vb 63 34) rfl rfl (any_of HT_.out (by kernel_rfl)) (fun _ _ _ h => h) (Or.inr ⟨by rfl, rfl⟩) ?_ ?_
        rotate_left
        ·simp only [Act.put, List.setIfInBounds_toArray, List.set_cons_zero, List.set_cons_succ, i64_w, i32_w]
         rfl
        refine pure_ (i := 6) (N := some 81) (v := undef) (a' := ?_) (vb 127 34) rfl rfl (any_of HT_.out (by kernel_rfl)) (fun _ _ _ h => h) (Or.inr ⟨by rfl, rfl⟩) ?_ ?_
        rotate_left
        ·simp only [Act.put, List.setIfInBounds_toArray, List.set_cons_zero, List.set_cons_succ, i64_w, i32_w]
         rfl
        refine pure_ (i := 7) (N := some 82) (v := undef) (a' := ?_) (vb 255 34) rfl rfl (any_of HT_.out (by kernel_rfl)) (fun _ _ _ h => h) (Or.inr ⟨by rfl, rfl⟩) ?_ ?_
        rotate_left
        ·simp only [Act.put, List.setIfInBounds_toArray, List.set_cons_zero, List.set_cons_succ, i64_w, i32_w]
         rfl
        refine pure_ (i := 8) (N := some 83) (v := undef) (a' := ?_) (vb 511 34) rfl rfl (any_of HT_.out (by kernel_rfl)) (fun _ _ _ h => h) (Or.inr ⟨by rfl, rfl⟩) ?_ ?_
        rotate_left
        ·simp only [Act.put, List.setIfInBounds_toArray, List.set_cons_zero, List.set_cons_succ, i64_w, i32_w]
         rfl
        refine pure_ (i := 9) (N := some 84) (v := undef) (a' := ?_) (vb 1023 34) rfl rfl (any_of HT_.out (by kernel_rfl)) (fun _ _ _ h => h) (Or.inr ⟨by rfl, rfl⟩) ?_ ?_
        rotate_left
        ·simp only [Act.put, List.setIfInBounds_toArray, List.set_cons_zero, List.set_cons_succ, i64_w, i32_w]
         rfl
        refine pure_ (i := 10) (N := some 85) (v := undef) (a' := ?_) (vb 2047 34) rfl rfl (any_of HT_.out (by kernel_rfl)) (fun _ _ _ h => h) (Or.inr ⟨by rfl, rfl⟩) ?_ ?_
        rotate_left
        ·simp only [Act.put, List.setIfInBounds_toArray, List.set_cons_zero, List.set_cons_succ, i64_w, i32_w]
         rfl
        refine pure_ (i := 11) (N := some 86) (v := undef) (a' := ?_) (vb 4095 34) rfl rfl (any_of HT_.out (by kernel_rfl)) (fun _ _ _ h => h) (Or.inr ⟨by rfl, rfl⟩) ?_ ?_
        rotate_left
        ·simp only [Act.put, List.setIfInBounds_toArray, List.set_cons_zero, List.set_cons_succ, i64_w, i32_w]
         rfl
        refine pure_ (i := 12) (N := some 87) (v := undef) (a' := ?_) (vb 8191 34) rfl rfl (any_of HT_.out (by kernel_rfl)) (fun _ _ _ h => h) (Or.inr ⟨by rfl, rfl⟩) ?_ ?_
        rotate_left
        ·simp only [Act.put, List.setIfInBounds_toArray, List.set_cons_zero, List.set_cons_succ, i64_w, i32_w]
         rfl
        refine pure_ (i := 13) (N := some 88) (v := undef) (a' := ?_) (vb 16383 34) rfl rfl (any_of HT_.out (by kernel_rfl)) (fun _ _ _ h => h) (Or.inr ⟨by rfl, rfl⟩) ?_ ?_
        rotate_left
        ·simp only [Act.put, List.setIfInBounds_toArray, List.set_cons_zero, List.set_cons_succ, i64_w, i32_w]
         rfl
        refine pure_ (i := 14) (N := some 89) (v := undef) (a' := ?_) (vb 32767 34) rfl rfl (any_of HT_.out (by kernel_rfl)) (fun _ _ _ h => h) (Or.inr ⟨by rfl, rfl⟩) ?_ ?_
        rotate_left
        ·simp only [Act.put, List.setIfInBounds_toArray, List.set_cons_zero, List.set_cons_succ, i64_w, i32_w]
         rfl
        refine pure_ (i := 15) (N := some 90) (v := undef) (a' := ?_) (vb 65535 34) rfl rfl (any_of HT_.out (by kernel_rfl)) (fun _ _ _ h => h) (Or.inr ⟨by rfl, rfl⟩) ?_ ?_
        rotate_left
        ·simp only [Act.put, List.setIfInBounds_toArray, List.set_cons_zero, List.set_cons_succ, i64_w, i32_w]
         rfl
        refine pure_ (i := 16) (N := some 91) (v := undef) (a' := ?_) (vb 131071 34) rfl rfl (any_of HT_.out (by kernel_rfl)) (fun _ _ _ h => h) (Or.inr ⟨by rfl, rfl⟩) ?_ ?_
        rotate_left
        ·simp only [Act.put, List.setIfInBounds_toArray, List.set_cons_zero, List.set_cons_succ, i64_w, i32_w]
         rfl
        refine pure_ (i := 17) (N := some 92) (v := undef) (a' := ?_) (vb 262143 34) rfl rfl (any_of HT_.out (by kernel_rfl)) (fun _ _ _ h => h) (Or.inr ⟨by rfl, rfl⟩) ?_ ?_
        rotate_left
        ·simp only [Act.put, List.setIfInBounds_toArray, List.set_cons_zero, List.set_cons_succ, i64_w, i32_w]
         rfl
        refine pure_ (i := 18) (N := some 93) (v := undef) (a' := ?_) (vb 524287 34) rfl rfl (any_of HT_.out (by kernel_rfl)) (fun _ _ _ h => h) (Or.inr ⟨by rfl, rfl⟩) ?_ ?_
        rotate_left
        ·simp only [Act.put, List.setIfInBounds_toArray, List.set_cons_zero, List.set_cons_succ, i64_w, i32_w]
         rfl
        refine pure_ (i := 19) (N := some 94) (v := undef) (a' := ?_) (vb 1048575 34) rfl rfl (any_of HT_.out (by kernel_rfl)) (fun _ _ _ h => h) (Or.inr ⟨by rfl, rfl⟩) ?_ ?_
        rotate_left
        ·simp only [Act.put, List.setIfInBounds_toArray, List.set_cons_zero, List.set_cons_succ, i64_w, i32_w]
         rfl
        refine pure_ (i := 20) (N := some 95) (v := undef) (a' := ?_) (vb 2097151 34) rfl rfl (any_of HT_.out (by kernel_rfl)) (fun _ _ _ h => h) (Or.inr ⟨by rfl, rfl⟩) ?_ ?_
        rotate_left
        ·simp only [Act.put, List.setIfInBounds_toArray, List.set_cons_zero, List.set_cons_succ, i64_w, i32_w]
         rfl
        refine pure_ (i := 21) (N := some 96) (v := undef) (a' := ?_) (vb 4194303 34) rfl rfl (any_of HT_.out (by kernel_rfl)) (fun _ _ _ h => h) (Or.inr ⟨by rfl, rfl⟩) ?_ ?_
        rotate_left
        ·simp only [Act.put, List.setIfInBounds_toArray, List.set_cons_zero, List.set_cons_succ, i64_w, i32_w]
         rfl
        refine pure_ (i := 22) (N := some 97) (v := undef) (a' := ?_) (vb 8388607 34) rfl rfl (any_of HT_.out (by kernel_rfl)) (fun _ _ _ h => h) (Or.inr ⟨by rfl, rfl⟩) ?_ ?_
        rotate_left
        ·simp only [Act.put, List.setIfInBounds_toArray, List.set_cons_zero, List.set_cons_succ, i64_w, i32_w]
         rfl
        refine pure_ (i := 23) (N := some 98) (v := undef) (a' := ?_) (vb 16777215 34) rfl rfl (any_of HT_.out (by kernel_rfl)) (fun _ _ _ h => h) (Or.inr ⟨by rfl, rfl⟩) ?_ ?_
        rotate_left
        ·simp only [Act.put, List.setIfInBounds_toArray, List.set_cons_zero, List.set_cons_succ, i64_w, i32_w]
         rfl
        refine pure_ (i := 24) (N := some 99) (v := undef) (a' := ?_) (vb 33554431 34) rfl rfl (any_of HT_.out (by kernel_rfl)) (fun _ _ _ h => h) (Or.inr ⟨by rfl, rfl⟩) ?_ ?_
        rotate_left
        ·simp only [Act.put, List.setIfInBounds_toArray, List.set_cons_zero, List.set_cons_succ, i64_w, i32_w]
         rfl
        refine pure_ (i := 25) (N := some 100) (v := undef) (a' := ?_) (vb 67108863 34) rfl rfl (any_of HT_.out (by kernel_rfl)) (fun _ _ _ h => h) (Or.inr ⟨by rfl, rfl⟩) ?_ ?_
        rotate_left
        ·simp only [Act.put, List.setIfInBounds_toArray, List.set_cons_zero, List.set_cons_succ, i64_w, i32_w]
         rfl
        refine pure_ (i := 26) (N := some 101) (v := undef) (a' := ?_) (vb 134217727 34) rfl rfl (any_of HT_.out (by kernel_rfl)) (fun _ _ _ h => h) (Or.inr ⟨by rfl, rfl⟩) ?_ ?_
        rotate_left
        ·simp only [Act.put, List.setIfInBounds_toArray, List.set_cons_zero, List.set_cons_succ, i64_w, i32_w]
         rfl
        refine pure_ (i := 27) (N := some 102) (v := undef) (a' := ?_) (vb 268435455 34) rfl rfl (any_of HT_.out (by kernel_rfl)) (fun _ _ _ h => h) (Or.inr ⟨by rfl, rfl⟩) ?_ ?_
        rotate_left
        ·simp only [Act.put, List.setIfInBounds_toArray, List.set_cons_zero, List.set_cons_succ, i64_w, i32_w]
         rfl
        refine pure_ (i := 28) (N := some 103) (v := undef) (a' := ?_) (vb 536870911 34) rfl rfl (any_of HT_.out (by kernel_rfl)) (fun _ _ _ h => h) (Or.inr ⟨by rfl, rfl⟩) ?_ ?_
        rotate_left
        ·simp only [Act.put, List.setIfInBounds_toArray, List.set_cons_zero, List.set_cons_succ, i64_w, i32_w]
         rfl
        refine pure_ (i := 29) (N := some 104) (v := undef) (a' := ?_) (vb 1073741823 34) rfl rfl (any_of HT_.out (by kernel_rfl)) (fun _ _ _ h => h) (Or.inr ⟨by rfl, rfl⟩) ?_ ?_
        rotate_left
        ·simp only [Act.put, List.setIfInBounds_toArray, List.set_cons_zero, List.set_cons_succ, i64_w, i32_w]
         rfl
        refine pure_ (i := 30) (N := some 105) (v := undef) (a' := ?_) (vb 2147483647 34) rfl rfl (any_of HT_.out (by kernel_rfl)) (fun _ _ _ h => h) (Or.inr ⟨by rfl, rfl⟩) ?_ ?_
        rotate_left
        ·simp only [Act.put, List.setIfInBounds_toArray, List.set_cons_zero, List.set_cons_succ, i64_w, i32_w]
         rfl
        refine pure_ (i := 31) (N := some 106) (v := undef) (a' := ?_) (vb 4294967295 34) rfl rfl (any_of HT_.out (by kernel_rfl)) (fun _ _ _ h => h) (Or.inr ⟨by rfl, rfl⟩) ?_ ?_
        rotate_left
        ·simp only [Act.put, List.setIfInBounds_toArray, List.set_cons_zero, List.set_cons_succ, i64_w, i32_w]
         rfl
        refine pure_ (i := 32) (N := some 107) (v := ?_) (a' := ?_) (vb 8589934591 34) rfl rfl (any_of HT_.out (by kernel_rfl)) (fun _ _ _ h => h) (Or.inl ⟨by rfl, ?_⟩) ?_ ?_
        rotate_left
        ·intro w'
         go_simp
         with_reducible rfl
        rotate_left
        ·simp only [Act.put, List.setIfInBounds_toArray, List.set_cons_zero, List.set_cons_succ, i64_w, i32_w]
         rfl
        refine pure_ (i := 33) (N := some 2) (v := ?_) (a' := ?_) (vb 17179869183 34) rfl rfl (any_of HT_.out (by kernel_rfl)) (fun _ _ _ h => h) (Or.inl ⟨by rfl, ?_⟩) ?_ ?_
        rotate_left
        ·intro w'
         go_simp
         with_reducible rfl
        rotate_left
        ·simp only [Act.put, List.setIfInBounds_toArray, List.set_cons_zero, List.set_cons_succ, i64_w, i32_w]
         rfl
        refine done_ (done_of HT_.out (by kernel_rfl)) ?_
        try go_wp2
        go_ret
        exact ⟨by first | rfl | (simp [errW_none, errW_some] <;> rfl) | (simp [*, errW_none, errW_some] <;> rfl), by repeat (first | (with_reducible first | exact HB.out | apply below_alloc | apply pw_below_drewN | apply below_drew1) | exact HB.out)⟩
       ·rw [if_neg c59] at H
        have c59b0 : ((l0.length : Int) == 0) = false := beq_eq_false_iff_ne.mpr c59
        have c59b1 : ((l0.length : Int) != 0) = true := bne_iff_ne.mpr c59
        have c59b2 : ¬ (l0 = []) := fun h_ => c59 (by rw [h_]; rfl)
        by_cases c61 : 0 < (t436.length : Int)
        ·rw [if_pos c61] at H
         have c61b0 : decide (0 < (t436.length : Int)) = true := decide_eq_true c61
         have c61b1 : decide (0 < t436.length) = true := decide_eq_true (by omega)
         clear c61
         replace H := Option.bind_eq_some_iff.mp H
         obtain ⟨t445, A620, H⟩ := H
         replace H : (if t445 = true then (if 0 < (t440.length : Int) then ((forebearref03_Same.f kj37 ((rd_T46 t440 0).f3) l0).bind fun t447 => (if t447 = true then (some ((wrap64 ((((rd_T46 t436 0).f3).length : Int) + (((rd_T46 t440 0).f2).length : Int))) == 0)) else (some false))) else (none)) else (some false)) = some r := H
         have A62 := Aside0.mk A620
         clear A620
         by_cases c63 : t445 = true
         ·subst c63
          have H1 : (if 0 < (t440.length : Int) then ((forebearref03_Same.f kj37 ((rd_T46 t440 0).f3) l0).bind fun t447 => (if t447 = true then (some ((wrap64 ((((rd_T46 t436 0).f3).length : Int) + (((rd_T46 t440 0).f2).length : Int))) == 0)) else (some false))) else (none)) = some r := by rw [if_pos rfl] at H; exact H
          clear H
          have H := H1
          clear H1
          by_cases c64 : 0 < (t440.length : Int)
          ·rw [if_pos c64] at H
           have c64b0 : decide (0 < (t440.length : Int)) = true := decide_eq_true c64
           have c64b1 : decide (0 < t440.length) = true := decide_eq_true (by omega)
           clear c64
           replace H := Option.bind_eq_some_iff.mp H
           obtain ⟨t447, A650, H⟩ := H
           replace H : (if t447 = true then (some ((wrap64 ((((rd_T46 t436 0).f3).length : Int) + (((rd_T46 t440 0).f2).length : Int))) == 0)) else (some false)) = some r := H
           have A65 := Aside0.mk A650
           clear A650
           by_cases c66 : t447 = true
           ·subst c66
            have H1 : (some ((wrap64 ((((rd_T46 t436 0).f3).length : Int) + (((rd_T46 t440 0).f2).length : Int))) == 0)) = some r := by rw [if_pos rfl] at H; exact H
            clear H
            have H := H1
            clear H1
            obtain rfl := Option.some.inj H
            try go_wp2
            have n0_ := Aside0.mk (Kd.S_drew HO_5.out)
            have n1_ := Aside0.mk (Kd.S_drew HO_7.out)
            have n2_ := Aside0.mk (below_drew1 HB.out)
            clear HO_5
            clear HO_7
            clear HB
            have HO_5 := n0_
            have HO_7 := n1_
            have HB := n2_
            clear n0_ n1_ n2_
            obtain ⟨Ao68, co68, eo68⟩ := Kd.S_slice HO_5.out
            (first | subst eo68 | (injection eo68 with f1_ f2_ f3_; have f4_ := f1_.symm; have f5_ := f3_.symm; clear f1_ f2_ f3_; subst f4_; subst f5_))
            have p444 : 0 ≤ (0 : Int) := (by omega)
            have q444 : 0 < (t436.length : Int) := of_decide_eq_true (by first | (with_reducible assumption) | assumption)
            obtain ⟨ad444, A444_2, c444_2, A444_3, c444_3, e444, hx444_0, hx444_1, hx444_2, hx444_3, hl444_2, hi444_2, hl444_3, hi444_3⟩ := at_T46 (Kd.S_reads' HO_5.out).2.2 0 p444 q444
            cases e444
            obtain ⟨ce444, hce444, hMe444, hcc444⟩ := Kd.S_get HO_5.out z46 0 p444 (by first | exact q444 | exact of_decide_eq_true (by first | (with_reducible assumption) | assumption) | (have e_ := (Kd.S_reads' HO_5.out).1; omega))
            obtain ⟨ve444_2, ve444_3, rfl, ge444_2, ge444_3⟩ := k46_openM hMe444
            have hv444_2 := hcc444 2 _ rfl
            rw [add_field _ _ 2 (by omega)] at hv444_2
            replace hv444_2 := Option.some.inj (hv444_2.symm.trans hx444_2)
            rw [hv444_2] at ge444_2
            have HL444_2 := Aside0.mk (show Kd.R Kd.string 9 _ _ _ _ ((rd_T46 t436 0).f2) from ge444_2)
            clear hv444_2 ge444_2
            have hv444_3 := hcc444 3 _ rfl
            rw [add_field _ _ 3 (by omega)] at hv444_3
            replace hv444_3 := Option.some.inj (hv444_3.symm.trans hx444_3)
            rw [hv444_3] at ge444_3
            have HL444_3 := Aside0.mk (show Kd.R Kd.string 9 _ _ _ _ ((rd_T46 t436 0).f3) from ge444_3)
            clear hv444_3 ge444_3
            clear hcc444 hce444
            have qi444 : (0 < t436.length) = True := eq_true (by omega)
            (try rw [show ((0 : Int)).toNat = 0 from rfl] at hx444_0)
            (try rw [show 0 * 4 = 0 from rfl] at hx444_0)
            (try rw [Addr.add_zero'] at hx444_0)
            (try rw [show ((0 : Int)).toNat = 0 from rfl] at hx444_1)
            (try rw [show 0 * 4 = 0 from rfl] at hx444_1)
            (try rw [Addr.add_zero'] at hx444_1)
            (try rw [show ((0 : Int)).toNat = 0 from rfl] at hx444_2)
            (try rw [show 0 * 4 = 0 from rfl] at hx444_2)
            (try rw [Addr.add_zero'] at hx444_2)
            (try rw [show ((0 : Int)).toNat = 0 from rfl] at hx444_3)
            (try rw [show 0 * 4 = 0 from rfl] at hx444_3)
            (try rw [Addr.add_zero'] at hx444_3)
            have HR444_2 := Aside0.mk hi444_2
            have HC444_2 := Aside0.mk hl444_2
            clear hi444_2 hl444_2
            have HR444_3 := Aside0.mk hi444_3
            have HC444_3 := Aside0.mk hl444_3
            clear hi444_3 hl444_3
            replace p444 := eq_true p444
            replace q444 := eq_true q444
            have p446 : 0 ≤ (0 : Int) := (by omega)
            have q446 : 0 < (t440.length : Int) := of_decide_eq_true (by first | (with_reducible assumption) | assumption)
            (try (obtain ⟨Aoz_, coz_, eoz_⟩ := Kd.S_slice HO_7.out; subst eoz_))
            obtain ⟨ad446, A446_2, c446_2, A446_3, c446_3, e446, hx446_0, hx446_1, hx446_2, hx446_3, hl446_2, hi446_2, hl446_3, hi446_3⟩ := at_T46 (Kd.S_reads' HO_7.out).2.2 0 p446 q446
            cases e446
            obtain ⟨ce446, hce446, hMe446, hcc446⟩ := Kd.S_get HO_7.out z46 0 p446 (by first | exact q446 | exact of_decide_eq_true (by first | (with_reducible assumption) | assumption) | (have e_ := (Kd.S_reads' HO_7.out).1; omega))
            obtain ⟨ve446_2, ve446_3, rfl, ge446_2, ge446_3⟩ := k46_openM hMe446
            have hv446_2 := hcc446 2 _ rfl
            rw [add_field _ _ 2 (by omega)] at hv446_2
            replace hv446_2 := Option.some.inj (hv446_2.symm.trans hx446_2)
            rw [hv446_2] at ge446_2
            have HL446_2 := Aside0.mk (show Kd.R Kd.string 9 _ _ _ _ ((rd_T46 t440 0).f2) from ge446_2)
            clear hv446_2 ge446_2
            have hv446_3 := hcc446 3 _ rfl
            rw [add_field _ _ 3 (by omega)] at hv446_3
            replace hv446_3 := Option.some.inj (hv446_3.symm.trans hx446_3)
            rw [hv446_3] at ge446_3
            have HL446_3 := Aside0.mk (show Kd.R Kd.string 9 _ _ _ _ ((rd_T46 t440 0).f3) from ge446_3)
            clear hv446_3 ge446_3
            clear hcc446 hce446
            have qi446 : (0 < t440.length) = True := eq_true (by omega)
            (try rw [show ((0 : Int)).toNat = 0 from rfl] at hx446_0)
            (try rw [show 0 * 4 = 0 from rfl] at hx446_0)
            (try rw [Addr.add_zero'] at hx446_0)
            (try rw [show ((0 : Int)).toNat = 0 from rfl] at hx446_1)
            (try rw [show 0 * 4 = 0 from rfl] at hx446_1)
            (try rw [Addr.add_zero'] at hx446_1)
            (try rw [show ((0 : Int)).toNat = 0 from rfl] at hx446_2)
            (try rw [show 0 * 4 = 0 from rfl] at hx446_2)
            (try rw [Addr.add_zero'] at hx446_2)
            (try rw [show ((0 : Int)).toNat = 0 from rfl] at hx446_3)
            (try rw [show 0 * 4 = 0 from rfl] at hx446_3)
            (try rw [Addr.add_zero'] at hx446_3)
            have HR446_2 := Aside0.mk hi446_2
            have HC446_2 := Aside0.mk hl446_2
            clear hi446_2 hl446_2
            have HR446_3 := Aside0.mk hi446_3
            have HC446_3 := Aside0.mk hl446_3
            clear hi446_3 hl446_3
            replace p446 := eq_true p446
            replace q446 := eq_true q446
            have p448 : 0 ≤ (0 : Int) := (by omega)
            have q448 : 0 < (t436.length : Int) := of_decide_eq_true (by first | (with_reducible assumption) | assumption)
            obtain ⟨ad448, A448_2, c448_2, A448_3, c448_3, e448, hx448_0, hx448_1, hx448_2, hx448_3, hl448_2, hi448_2, hl448_3, hi448_3⟩ := at_T46 (Kd.S_reads' HO_5.out).2.2 0 p448 q448
            obtain rfl : ad444 = ad448 := (by injection e448)
            obtain ⟨ce448, hce448, hMe448, hcc448⟩ := Kd.S_get HO_5.out z46 0 p448 (by first | exact q448 | exact of_decide_eq_true (by first | (with_reducible assumption) | assumption) | (have e_ := (Kd.S_reads' HO_5.out).1; omega))
            obtain ⟨ve448_2, ve448_3, rfl, ge448_2, ge448_3⟩ := k46_openM hMe448
            have hv448_2 := hcc448 2 _ rfl
            rw [add_field _ _ 2 (by omega)] at hv448_2
            replace hv448_2 := Option.some.inj (hv448_2.symm.trans hx448_2)
            rw [hv448_2] at ge448_2
            have HL448_2 := Aside0.mk (show Kd.R Kd.string 9 _ _ _ _ ((rd_T46 t436 0).f2) from ge448_2)
            clear hv448_2 ge448_2
            have hv448_3 := hcc448 3 _ rfl
            rw [add_field _ _ 3 (by omega)] at hv448_3
            replace hv448_3 := Option.some.inj (hv448_3.symm.trans hx448_3)
            rw [hv448_3] at ge448_3
            have HL448_3 := Aside0.mk (show Kd.R Kd.string 9 _ _ _ _ ((rd_T46 t436 0).f3) from ge448_3)
            clear hv448_3 ge448_3
            clear hcc448 hce448
            have qi448 : (0 < t436.length) = True := eq_true (by omega)
            (try rw [show ((0 : Int)).toNat = 0 from rfl] at hx448_0)
            (try rw [show 0 * 4 = 0 from rfl] at hx448_0)
            (try rw [Addr.add_zero'] at hx448_0)
            (try rw [show ((0 : Int)).toNat = 0 from rfl] at hx448_1)
            (try rw [show 0 * 4 = 0 from rfl] at hx448_1)
            (try rw [Addr.add_zero'] at hx448_1)
            (try rw [show ((0 : Int)).toNat = 0 from rfl] at hx448_2)
            (try rw [show 0 * 4 = 0 from rfl] at hx448_2)
            (try rw [Addr.add_zero'] at hx448_2)
            (try rw [show ((0 : Int)).toNat = 0 from rfl] at hx448_3)
            (try rw [show 0 * 4 = 0 from rfl] at hx448_3)
            (try rw [Addr.add_zero'] at hx448_3)
            have HR448_2 := Aside0.mk hi448_2
            have HC448_2 := Aside0.mk hl448_2
            clear hi448_2 hl448_2
            have HR448_3 := Aside0.mk hi448_3
            have HC448_3 := Aside0.mk hl448_3
            clear hi448_3 hl448_3
            replace p448 := eq_true p448
            replace q448 := eq_true q448
            have ea_ := Option.some.inj (hx444_2.symm.trans hx448_2)
            injection ea_ with ea_ en_ ec_
            subst ea_
            subst ec_
            clear en_
            have ea_ := Option.some.inj (hx444_3.symm.trans hx448_3)
            injection ea_ with ea_ en_ ec_
            subst ea_
            subst ec_
            clear en_
            have p449 : 0 ≤ (0 : Int) := (by omega)
            have q449 : 0 < (t440.length : Int) := of_decide_eq_true (by first | (with_reducible assumption) | assumption)
            (try (obtain ⟨Aoz_, coz_, eoz_⟩ := Kd.S_slice HO_7.out; subst eoz_))
            obtain ⟨ad449, A449_2, c449_2, A449_3, c449_3, e449, hx449_0, hx449_1, hx449_2, hx449_3, hl449_2, hi449_2, hl449_3, hi449_3⟩ := at_T46 (Kd.S_reads' HO_7.out).2.2 0 p449 q449
            obtain rfl : ad446 = ad449 := (by injection e449)
            obtain ⟨ce449, hce449, hMe449, hcc449⟩ := Kd.S_get HO_7.out z46 0 p449 (by first | exact q449 | exact of_decide_eq_true (by first | (with_reducible assumption) | assumption) | (have e_ := (Kd.S_reads' HO_7.out).1; omega))
            obtain ⟨ve449_2, ve449_3, rfl, ge449_2, ge449_3⟩ := k46_openM hMe449
            have hv449_2 := hcc449 2 _ rfl
            rw [add_field _ _ 2 (by omega)] at hv449_2
            replace hv449_2 := Option.some.inj (hv449_2.symm.trans hx449_2)
            rw [hv449_2] at ge449_2
            have HL449_2 := Aside0.mk (show Kd.R Kd.string 9 _ _ _ _ ((rd_T46 t440 0).f2) from ge449_2)
            clear hv449_2 ge449_2
            have hv449_3 := hcc449 3 _ rfl
            rw [add_field _ _ 3 (by omega)] at hv449_3
            replace hv449_3 := Option.some.inj (hv449_3.symm.trans hx449_3)
            rw [hv449_3] at ge449_3
            have HL449_3 := Aside0.mk (show Kd.R Kd.string 9 _ _ _ _ ((rd_T46 t440 0).f3) from ge449_3)
            clear hv449_3 ge449_3
            clear hcc449 hce449
            have qi449 : (0 < t440.length) = True := eq_true (by omega)
            (try rw [show ((0 : Int)).toNat = 0 from rfl] at hx449_0)
            (try rw [show 0 * 4 = 0 from rfl] at hx449_0)
            (try rw [Addr.add_zero'] at hx449_0)
            (try rw [show ((0 : Int)).toNat = 0 from rfl] at hx449_1)
            (try rw [show 0 * 4 = 0 from rfl] at hx449_1)
            (try rw [Addr.add_zero'] at hx449_1)
            (try rw [show ((0 : Int)).toNat = 0 from rfl] at hx449_2)
            (try rw [show 0 * 4 = 0 from rfl] at hx449_2)
            (try rw [Addr.add_zero'] at hx449_2)
            (try rw [show ((0 : Int)).toNat = 0 from rfl] at hx449_3)
            (try rw [show 0 * 4 = 0 from rfl] at hx449_3)
            (try rw [Addr.add_zero'] at hx449_3)
            have HR449_2 := Aside0.mk hi449_2
            have HC449_2 := Aside0.mk hl449_2
            clear hi449_2 hl449_2
            have HR449_3 := Aside0.mk hi449_3
            have HC449_3 := Aside0.mk hl449_3
            clear hi449_3 hl449_3
            replace p449 := eq_true p449
            replace q449 := eq_true q449
            have ea_ := Option.some.inj (hx446_2.symm.trans hx449_2)
            injection ea_ with ea_ en_ ec_
            subst ea_
            subst ec_
            clear en_
            have ea_ := Option.some.inj (hx446_3.symm.trans hx449_3)
            injection ea_ with ea_ en_ ec_
            subst ea_
            subst ec_
            clear en_
            refine start_ (n := 34) (S := fun w' => w'.cell? ad444 = some (.int .i64 ((rd_T46 t436 0).f0)) ∧ w'.cell? ⟨ad444.block, ad444.off + 1, none⟩ = some (.int .i64 ((rd_T46 t436 0).f1)) ∧ w'.cell? ⟨ad444.block, ad444.off + 2, none⟩ = some (.slice A444_2 ((rd_T46 t436 0).f2).length c444_2) ∧ w'.cell? ⟨ad444.block, ad444.off + 3, none⟩ = some (.slice A444_3 ((rd_T46 t436 0).f3).length c444_3) ∧ w'.cell? ad446 = some (.int .i64 ((rd_T46 t440 0).f0)) ∧ w'.cell? ⟨ad446.block, ad446.off + 1, none⟩ = some (.int .i64 ((rd_T46 t440 0).f1)) ∧ w'.cell? ⟨ad446.block, ad446.off + 2, none⟩ = some (.slice A446_2 ((rd_T46 t440 0).f2).length c446_2) ∧ w'.cell? ⟨ad446.block, ad446.off + 3, none⟩ = some (.slice A446_3 ((rd_T46 t440 0).f3).length c446_3) ∧ w'.cell? ad444 = some (.int .i64 ((rd_T46 t436 0).f0)) ∧ w'.cell? ⟨ad444.block, ad444.off + 1, none⟩ = some (.int .i64 ((rd_T46 t436 0).f1)) ∧ w'.cell? ⟨ad444.block, ad444.off + 2, none⟩ = some (.slice A444_2 ((rd_T46 t436 0).f2).length c444_2) ∧ w'.cell? ⟨ad444.block, ad444.off + 3, none⟩ = some (.slice A444_3 ((rd_T46 t436 0).f3).length c444_3) ∧ w'.cell? ad446 = some (.int .i64 ((rd_T46 t440 0).f0)) ∧ w'.cell? ⟨ad446.block, ad446.off + 1, none⟩ = some (.int .i64 ((rd_T46 t440 0).f1)) ∧ w'.cell? ⟨ad446.block, ad446.off + 2, none⟩ = some (.slice A446_2 ((rd_T46 t440 0).f2).length c446_2) ∧ w'.cell? ⟨ad446.block, ad446.off + 3, none⟩ = some (.slice A446_3 ((rd_T46 t440 0).f3).length c446_3)) (ds := []) (vb 0 34) (by kernel_rfl) rfl rfl ⟨hx444_0, hx444_1, hx444_2, hx444_3, hx446_0, hx446_1, hx446_2, hx446_3, hx448_0, hx448_1, hx448_2, hx448_3, hx449_0, hx449_1, hx449_2, hx449_3⟩ (fun hHeld => ?_); refine with_tabW forebearlaw05_DiffSelf.tab10 forebearlaw05_DiffSelf.bits10 (fun HT_ HW_ => ?_)
            generalize wc.drew = w67 at HO_5 HO_7 HB HL444_2 HL444_3 HL446_2 HL446_3 HL448_2 HL448_3 HL449_2 HL449_3 HR444_2 HR444_3 HR446_2 HR446_3 HR448_2 HR448_3 HR449_2 HR449_3 hx444_0 hx444_1 hx444_2 hx444_3 hx446_0 hx446_1 hx446_2 hx446_3 hx448_0 hx448_1 hx448_2 hx448_3 hx449_0 hx449_1 hx449_2 hx449_3 hHeld ⊢
            refine pure_ (i := 0) (N := some 75) (v := ?_) (a' := ?_) (vb 1 34) rfl rfl (any_of HT_.out (by kernel_rfl)) (fun _ _ _ h => h) (Or.inl ⟨by rfl, ?_⟩) ?_ ?_
            rotate_left
            ·intro w'
             go_simp
             with_reducible rfl
            rotate_left
            ·simp only [Act.put, List.setIfInBounds_toArray, List.set_cons_zero, List.set_cons_succ, i64_w, i32_w]
             rfl
            refine pure_ (i := 1) (N := some 76) (v := ?_) (a' := ?_) (vb 3 34) rfl rfl (any_of HT_.out (by kernel_rfl)) (fun _ _ _ h => h) (Or.inl ⟨by rfl, ?_⟩) ?_ ?_
            rotate_left
            ·intro w'
             go_simp
             with_reducible rfl
            rotate_left
            ·simp only [Act.put, List.setIfInBounds_toArray, List.set_cons_zero, List.set_cons_succ, i64_w, i32_w]
             rfl
            refine pure_ (i := 2) (N := some 77) (v := ?_) (a' := ?_) (vb 7 34) rfl rfl (any_of HT_.out (by kernel_rfl)) (fun _ _ _ h => h) (Or.inl ⟨by rfl, ?_⟩) ?_ ?_
            rotate_left
            ·intro w'
             go_simp
             with_reducible rfl
            rotate_left
            ·simp only [Act.put, List.setIfInBounds_toArray, List.set_cons_zero, List.set_cons_succ, i64_w, i32_w]
             rfl
            refine pure_ (i := 3) (N := some 78) (v := ?_) (a' := ?_) (vb 15 34) rfl rfl (any_of HT_.out (by kernel_rfl)) (fun _ _ _ h => h) (Or.inl ⟨by rfl, ?_⟩) ?_ ?_
            rotate_left
            ·intro w'
             go_simp
             with_reducible rfl
            rotate_left
            ·simp only [Act.put, List.setIfInBounds_toArray, List.set_cons_zero, List.set_cons_succ, i64_w, i32_w]
             rfl
            refine pure_ (i := 4) (N := some 79) (v := ?_) (a' := ?_) (vb 31 34) rfl rfl (any_of HT_.out (by kernel_rfl)) (fun _ _ _ h => h) (Or.inl ⟨by rfl, ?_⟩) ?_ ?_
            rotate_left
            ·intro w'
             go_simp
             with_reducible rfl
            rotate_left
            ·simp only [Act.put, List.setIfInBounds_toArray, List.set_cons_zero, List.set_cons_succ, i64_w, i32_w]
             rfl
            refine pure_ (i := 5) (N := some 80) (v := ?_) (a' := ?_) (vb 63 34) rfl rfl (any_of HT_.out (by kernel_rfl)) (fun _ _ _ h => h) (Or.inl ⟨by rfl, ?_⟩) ?_ ?_
            rotate_left
            ·intro w'
             go_simp
             with_reducible rfl
            rotate_left
            ·simp only [Act.put, List.setIfInBounds_toArray, List.set_cons_zero, List.set_cons_succ, i64_w, i32_w]
             rfl
            refine pure_ (i := 6) (N := some 81) (v := ?_) (a' := ?_) (vb 127 34) rfl rfl (any_of HT_.out (by kernel_rfl)) (fun _ _ _ h => h) (Or.inl ⟨by rfl, ?_⟩) ?_ ?_
            rotate_left
            ·intro w'
             go_simp
             with_reducible rfl
            rotate_left
            ·simp only [Act.put, List.setIfInBounds_toArray, List.set_cons_zero, List.set_cons_succ, i64_w, i32_w]
             rfl
            refine pure_ (i := 8) (N := some 83) (v := ?_) (a' := ?_) (vb 383 34) rfl rfl (any_of HT_.out (by kernel_rfl)) (fun _ _ _ h => h) (Or.inl ⟨by rfl, ?_⟩) ?_ ?_
            rotate_left
            ·intro w'
             go_simp
             with_reducible rfl
            rotate_left
            ·simp only [Act.put, List.setIfInBounds_toArray, List.set_cons_zero, List.set_cons_succ, i64_w, i32_w]
             rfl
            refine take_ (i := 7) (N := some 82) (v := ?_) (a' := ?_) (vb 511 34) rfl rfl (take_ofW HT_.out HW_.out (by kernel_rfl)) (fun _ _ _ h => h) (Or.inl ⟨by rfl, ?_⟩) hHeld ?_ ?_
            rotate_left
            ·rintro w' ⟨s0, s1, s2, s3, s4, s5, s6, s7, s8, s9, s10, s11, s12, s13, s14, s15⟩
             go_simp
             with_reducible rfl
            rotate_left
            ·simp only [Act.put, List.setIfInBounds_toArray, List.set_cons_zero, List.set_cons_succ, i64_w, i32_w]
             rfl
            refine one_ (i := 9) (N := some 84) (vb 1023 34) rfl rfl (one_of HT_.out (by kernel_rfl)) (by decide) (fun K hK => ?_)
            refine goes_ Try.func19 (by kernel_rfl) rfl #[.slice A444_2 ((rd_T46 t436 0).f2).length c444_2, .slice A0 l0.length c0] (by rfl) rfl rfl (by (try simp only [List.map_toArray, List.map_cons, List.map_nil]); first | done | rfl | (simp only [List.length_drop, List.length_take]; rfl)) ?_
            with_reducible refine (forebearref03_Same.calls kj37 _ _ ((rd_T46 t436 0).f2) _ _ l0 true _ ?side1 ?side2 ?side3 ?side4 A62.out).mono ?_
            (case side1 => repeat (first | exact (by repeat (first | (with_reducible exact HR444_2.out) | (with_reducible refine Kd.C_alloc ?_ _) | (with_reducible refine Kd.C_drewN ?_ _) | (with_reducible refine Kd.C_drew ?_) | exact HR444_2.out)) | (with_reducible refine Kd.C_alloc ?_ _) | (with_reducible refine Kd.C_drewN ?_ _) | (with_reducible refine Kd.C_drew ?_)))
            (case side2 => exact HC444_2.out)
            (case side3 => repeat (first | exact (Kd.C_below HR0.out HB.out) | (with_reducible refine Kd.C_alloc ?_ _) | (with_reducible refine Kd.C_drewN ?_ _) | (with_reducible refine Kd.C_drew ?_)))
            (case side4 => exact HC0.out)
            rintro e w' ⟨rfl, ⟨nd, rfl⟩⟩
            refine ⟨_, rfl, ?_⟩
            obtain ⟨Ao69, co69, eo69⟩ := Kd.S_slice HO_7.out
            (first | subst eo69 | (injection eo69 with f1_ f2_ f3_; have f4_ := f1_.symm; have f5_ := f3_.symm; clear f1_ f2_ f3_; subst f4_; subst f5_))
            refine hK.out _ _ ⟨hHeld.1, hHeld.2.1, hHeld.2.2.1, hHeld.2.2.2.1, hHeld.2.2.2.2.1, hHeld.2.2.2.2.2.1, hHeld.2.2.2.2.2.2.1, hHeld.2.2.2.2.2.2.2.1, hHeld.2.2.2.2.2.2.2.2.1, hHeld.2.2.2.2.2.2.2.2.2.1, hHeld.2.2.2.2.2.2.2.2.2.2.1, hHeld.2.2.2.2.2.2.2.2.2.2.2.1, hHeld.2.2.2.2.2.2.2.2.2.2.2.2.1, hHeld.2.2.2.2.2.2.2.2.2.2.2.2.2.1, hHeld.2.2.2.2.2.2.2.2.2.2.2.2.2.2.1, hHeld.2.2.2.2.2.2.2.2.2.2.2.2.2.2.2⟩ (fun hHeld => ?_)
            clear hK K
            refine norm_ (a' := ?_) ?_ ?_
            rotate_left
            ·show Act.put _ (some 84) _ = _
             simp only [Act.put, List.setIfInBounds_toArray, List.set_cons_zero, List.set_cons_succ, i64_w, i32_w]
             rfl
            refine pure_ (i := 10) (N := some 85) (v := ?_) (a' := ?_) (vb 2047 34) rfl rfl (any_of HT_.out (by kernel_rfl)) (fun _ _ _ h => h) (Or.inl ⟨by rfl, ?_⟩) ?_ ?_
            rotate_left
            ·intro w'
             go_simp
             with_reducible rfl
            rotate_left
            ·simp only [Act.put, List.setIfInBounds_toArray, List.set_cons_zero, List.set_cons_succ, i64_w, i32_w]
             rfl
            refine pure_ (i := 11) (N := some 86) (v := ?_) (a' := ?_) (vb 4095 34) rfl rfl (any_of HT_.out (by kernel_rfl)) (fun _ _ _ h => h) (Or.inl ⟨by rfl, ?_⟩) ?_ ?_
            rotate_left
            ·intro w'
             go_simp
             with_reducible rfl
            rotate_left
            ·simp only [Act.put, List.setIfInBounds_toArray, List.set_cons_zero, List.set_cons_succ, i64_w, i32_w]
             rfl
            refine pure_ (i := 12) (N := some 87) (v := ?_) (a' := ?_) (vb 8191 34) rfl rfl (any_of HT_.out (by kernel_rfl)) (fun _ _ _ h => h) (Or.inl ⟨by rfl, ?_⟩) ?_ ?_
            rotate_left
            ·intro w'
             go_simp
             with_reducible rfl
            rotate_left
            ·simp only [Act.put, List.setIfInBounds_toArray, List.set_cons_zero, List.set_cons_succ, i64_w, i32_w]
             rfl
            refine pure_ (i := 13) (N := some 88) (v := ?_) (a' := ?_) (vb 16383 34) rfl rfl (any_of HT_.out (by kernel_rfl)) (fun _ _ _ h => h) (Or.inl ⟨by rfl, ?_⟩) ?_ ?_
            rotate_left
            ·intro w'
             go_simp
             with_reducible rfl
            rotate_left
            ·simp only [Act.put, List.setIfInBounds_toArray, List.set_cons_zero, List.set_cons_succ, i64_w, i32_w]
             rfl
            refine pure_ (i := 15) (N := some 90) (v := ?_) (a' := ?_) (vb 49151 34) rfl rfl (any_of HT_.out (by kernel_rfl)) (fun _ _ _ h => h) (Or.inl ⟨by rfl, ?_⟩) ?_ ?_
            rotate_left
            ·intro w'
             go_simp
             with_reducible rfl
            rotate_left
            ·simp only [Act.put, List.setIfInBounds_toArray, List.set_cons_zero, List.set_cons_succ, i64_w, i32_w]
             rfl
            refine take_ (i := 14) (N := some 89) (v := ?_) (a' := ?_) (vb 65535 34) rfl rfl (take_ofW HT_.out HW_.out (by kernel_rfl)) (fun _ _ _ h => h) (Or.inl ⟨by rfl, ?_⟩) hHeld ?_ ?_
            rotate_left
            ·rintro w' ⟨s0, s1, s2, s3, s4, s5, s6, s7, s8, s9, s10, s11, s12, s13, s14, s15⟩
             go_simp
             with_reducible rfl
            rotate_left
            ·simp only [Act.put, List.setIfInBounds_toArray, List.set_cons_zero, List.set_cons_succ, i64_w, i32_w]
             rfl
            refine one_ (i := 16) (N := some 91) (vb 131071 34) rfl rfl (one_of HT_.out (by kernel_rfl)) (by decide) (fun K hK => ?_)
            refine goes_ Try.func19 (by kernel_rfl) rfl #[.slice A446_3 ((rd_T46 t440 0).f3).length c446_3, .slice A0 l0.length c0] (by rfl) rfl rfl (by (try simp only [List.map_toArray, List.map_cons, List.map_nil]); first | done | rfl | (simp only [List.length_drop, List.length_take]; rfl)) ?_
            with_reducible refine (forebearref03_Same.calls kj37 _ _ ((rd_T46 t440 0).f3) _ _ l0 true _ ?side1 ?side2 ?side3 ?side4 A65.out).mono ?_
            (case side1 => repeat (first | exact (by repeat (first | (with_reducible exact HR446_3.out) | (with_reducible refine Kd.C_alloc ?_ _) | (with_reducible refine Kd.C_drewN ?_ _) | (with_reducible refine Kd.C_drew ?_) | exact HR446_3.out)) | (with_reducible refine Kd.C_alloc ?_ _) | (with_reducible refine Kd.C_drewN ?_ _) | (with_reducible refine Kd.C_drew ?_)))
            (case side2 => exact HC446_3.out)
            (case side3 => repeat (first | exact (Kd.C_below HR0.out (by repeat (first | (with_reducible first | exact HB.out | apply below_alloc | apply pw_below_drewN | apply below_drew1) | exact HB.out))) | (with_reducible refine Kd.C_alloc ?_ _) | (with_reducible refine Kd.C_drewN ?_ _) | (with_reducible refine Kd.C_drew ?_)))
            (case side4 => exact HC0.out)
            rintro e w' ⟨rfl, ⟨nd, rfl⟩⟩
            refine ⟨_, rfl, ?_⟩
            refine hK.out _ _ ⟨hHeld.1, hHeld.2.1, hHeld.2.2.1, hHeld.2.2.2.1, hHeld.2.2.2.2.1, hHeld.2.2.2.2.2.1, hHeld.2.2.2.2.2.2.1, hHeld.2.2.2.2.2.2.2.1, hHeld.2.2.2.2.2.2.2.2.1, hHeld.2.2.2.2.2.2.2.2.2.1, hHeld.2.2.2.2.2.2.2.2.2.2.1, hHeld.2.2.2.2.2.2.2.2.2.2.2.1, hHeld.2.2.2.2.2.2.2.2.2.2.2.2.1, hHeld.2.2.2.2.2.2.2.2.2.2.2.2.2.1, hHeld.2.2.2.2.2.2.2.2.2.2.2.2.2.2.1, hHeld.2.2.2.2.2.2.2.2.2.2.2.2.2.2.2⟩ (fun hHeld => ?_)
            clear hK K
            refine norm_ (a' := ?_) ?_ ?_
            rotate_left
            ·show Act.put _ (some 91) _ = _
             simp only [Act.put, List.setIfInBounds_toArray, List.set_cons_zero, List.set_cons_succ, i64_w, i32_w]
             rfl
            refine pure_ (i := 17) (N := some 92) (v := ?_) (a' := ?_) (vb 262143 34) rfl rfl (any_of HT_.out (by kernel_rfl)) (fun _ _ _ h => h) (Or.inl ⟨by rfl, ?_⟩) ?_ ?_
            rotate_left
            ·intro w'
             go_simp
             with_reducible rfl
            rotate_left
            ·simp only [Act.put, List.setIfInBounds_toArray, List.set_cons_zero, List.set_cons_succ, i64_w, i32_w]
             rfl
            refine pure_ (i := 18) (N := some 93) (v := ?_) (a' := ?_) (vb 524287 34) rfl rfl (any_of HT_.out (by kernel_rfl)) (fun _ _ _ h => h) (Or.inl ⟨by rfl, ?_⟩) ?_ ?_
            rotate_left
            ·intro w'
             go_simp
             with_reducible rfl
            rotate_left
            ·simp only [Act.put, List.setIfInBounds_toArray, List.set_cons_zero, List.set_cons_succ, i64_w, i32_w]
             rfl
            refine pure_ (i := 19) (N := some 94) (v := ?_) (a' := ?_) (vb 1048575 34) rfl rfl (any_of HT_.out (by kernel_rfl)) (fun _ _ _ h => h) (Or.inl ⟨by rfl, ?_⟩) ?_ ?_
            rotate_left
            ·intro w'
             go_simp
             with_reducible rfl
            rotate_left
            ·simp only [Act.put, List.setIfInBounds_toArray, List.set_cons_zero, List.set_cons_succ, i64_w, i32_w]
             rfl
            refine pure_ (i := 20) (N := some 95) (v := ?_) (a' := ?_) (vb 2097151 34) rfl rfl (any_of HT_.out (by kernel_rfl)) (fun _ _ _ h => h) (Or.inl ⟨by rfl, ?_⟩) ?_ ?_
            rotate_left
            ·intro w'
             go_simp
             with_reducible rfl
            rotate_left
            ·simp only [Act.put, List.setIfInBounds_toArray, List.set_cons_zero, List.set_cons_succ, i64_w, i32_w]
             rfl
            refine pure_ (i := 21) (N := some 96) (v := ?_) (a' := ?_) (vb 4194303 34) rfl rfl (any_of HT_.out (by kernel_rfl)) (fun _ _ _ h => h) (Or.inl ⟨by rfl, ?_⟩) ?_ ?_
            rotate_left
            ·intro w'
             go_simp
             with_reducible rfl
            rotate_left
            ·simp only [Act.put, List.setIfInBounds_toArray, List.set_cons_zero, List.set_cons_succ, i64_w, i32_w]
             rfl
            refine pure_ (i := 24) (N := some 99) (v := ?_) (a' := ?_) (vb 20971519 34) rfl rfl (any_of HT_.out (by kernel_rfl)) (fun _ _ _ h => h) (Or.inl ⟨by rfl, ?_⟩) ?_ ?_
            rotate_left
            ·intro w'
             go_simp
             with_reducible rfl
            rotate_left
            ·simp only [Act.put, List.setIfInBounds_toArray, List.set_cons_zero, List.set_cons_succ, i64_w, i32_w]
             rfl
            refine pure_ (i := 25) (N := some 100) (v := ?_) (a' := ?_) (vb 54525951 34) rfl rfl (any_of HT_.out (by kernel_rfl)) (fun _ _ _ h => h) (Or.inl ⟨by rfl, ?_⟩) ?_ ?_
            rotate_left
            ·intro w'
             go_simp
             with_reducible rfl
            rotate_left
            ·simp only [Act.put, List.setIfInBounds_toArray, List.set_cons_zero, List.set_cons_succ, i64_w, i32_w]
             rfl
            refine pure_ (i := 26) (N := some 101) (v := ?_) (a' := ?_) (vb 121634815 34) rfl rfl (any_of HT_.out (by kernel_rfl)) (fun _ _ _ h => h) (Or.inl ⟨by rfl, ?_⟩) ?_ ?_
            rotate_left
            ·intro w'
             go_simp
             with_reducible rfl
            rotate_left
            ·simp only [Act.put, List.setIfInBounds_toArray, List.set_cons_zero, List.set_cons_succ, i64_w, i32_w]
             rfl
            refine take_ (i := 22) (N := some 97) (v := ?_) (a' := ?_) (vb 125829119 34) rfl rfl (take_ofW HT_.out HW_.out (by kernel_rfl)) (fun _ _ _ h => h) (Or.inl ⟨by rfl, ?_⟩) hHeld ?_ ?_
            rotate_left
            ·rintro w' ⟨s0, s1, s2, s3, s4, s5, s6, s7, s8, s9, s10, s11, s12, s13, s14, s15⟩
             go_simp
             with_reducible rfl
            rotate_left
            ·simp only [Act.put, List.setIfInBounds_toArray, List.set_cons_zero, List.set_cons_succ, i64_w, i32_w]
             rfl
            refine pure_ (i := 23) (N := some 98) (v := ?_) (a' := ?_) (vb 134217727 34) rfl rfl (any_of HT_.out (by kernel_rfl)) (fun _ _ _ h => h) (Or.inl ⟨by rfl, ?_⟩) ?_ ?_
            rotate_left
            ·intro w'
             go_simp
             with_reducible rfl
            rotate_left
            ·simp only [Act.put, List.setIfInBounds_toArray, List.set_cons_zero, List.set_cons_succ, i64_w, i32_w]
             rfl
            refine take_ (i := 27) (N := some 102) (v := ?_) (a' := ?_) (vb 268435455 34) rfl rfl (take_ofW HT_.out HW_.out (by kernel_rfl)) (fun _ _ _ h => h) (Or.inl ⟨by rfl, ?_⟩) hHeld ?_ ?_
            rotate_left
            ·rintro w' ⟨s0, s1, s2, s3, s4, s5, s6, s7, s8, s9, s10, s11, s12, s13, s14, s15⟩
             go_simp
             with_reducible rfl
            rotate_left
            ·simp only [Act.put, List.setIfInBounds_toArray, List.set_cons_zero, List.set_cons_succ, i64_w, i32_w]
             rfl
            refine pure_ (i := 28) (N := some 103) (v := ?_) (a' := ?_) (vb 536870911 34) rfl rfl (any_of HT_.out (by kernel_rfl)) (fun _ _ _ h => h) (Or.inl ⟨by rfl, ?_⟩) ?_ ?_
            rotate_left
            ·intro w'
             go_simp
             with_reducible rfl
            rotate_left
            ·simp only [Act.put, List.setIfInBounds_toArray, List.set_cons_zero, List.set_cons_succ, i64_w, i32_w]
             rfl
            refine pure_ (i := 29) (N := some 104) (v := ?_) (a' := ?_) (vb 1073741823 34) rfl rfl (any_of HT_.out (by kernel_rfl)) (fun _ _ _ h => h) (Or.inl ⟨by rfl, ?_⟩) ?_ ?_
            rotate_left
            ·intro w'
             go_simp
             with_reducible rfl
            rotate_left
            ·simp only [Act.put, List.setIfInBounds_toArray, List.set_cons_zero, List.set_cons_succ, i64_w, i32_w]
             rfl
            refine pure_ (i := 30) (N := some 105) (v := ?_) (a' := ?_) (vb 2147483647 34) rfl rfl (any_of HT_.out (by kernel_rfl)) (fun _ _ _ h => h) (Or.inl ⟨by rfl, ?_⟩) ?_ ?_
            rotate_left
            ·intro w'
             go_simp
             with_reducible rfl
            rotate_left
            ·simp only [Act.put, List.setIfInBounds_toArray, List.set_cons_zero, List.set_cons_succ, i64_w, i32_w]
             rfl
            refine pure_ (i := 31) (N := some 106) (v := ?_) (a' := ?_) (vb 4294967295 34) rfl rfl (any_of HT_.out (by kernel_rfl)) (fun _ _ _ h => h) (Or.inl ⟨by rfl, ?_⟩) ?_ ?_
            rotate_left
            ·intro w'
             go_simp
             with_reducible rfl
            rotate_left
            ·simp only [Act.put, List.setIfInBounds_toArray, List.set_cons_zero, List.set_cons_succ, i64_w, i32_w]
             rfl
            refine pure_ (i := 32) (N := some 107) (v := ?_) (a' := ?_) (vb 8589934591 34) rfl rfl (any_of HT_.out (by kernel_rfl)) (fun _ _ _ h => h) (Or.inl ⟨by rfl, ?_⟩) ?_ ?_
            rotate_left
            ·intro w'
             go_simp
             with_reducible rfl
            rotate_left
            ·simp only [Act.put, List.setIfInBounds_toArray, List.set_cons_zero, List.set_cons_succ, i64_w, i32_w]
             rfl
            refine pure_ (i := 33) (N := some 2) (v := ?_) (a' := ?_) (vb 17179869183 34) rfl rfl (any_of HT_.out (by kernel_rfl)) (fun _ _ _ h => h) (Or.inl ⟨by rfl, ?_⟩) ?_ ?_
            rotate_left
            ·intro w'
             go_simp
             with_reducible rfl
            rotate_left
            ·simp only [Act.put, List.setIfInBounds_toArray, List.set_cons_zero, List.set_cons_succ, i64_w, i32_w]
             rfl
            refine done_ (done_of HT_.out (by kernel_rfl)) ?_
            try go_wp2
            go_ret
            exact ⟨by first | rfl | (simp [errW_none, errW_some] <;> rfl) | (simp [*, errW_none, errW_some] <;> rfl), by repeat (first | (with_reducible first | exact HB.out | apply below_alloc | apply pw_below_drewN | apply below_drew1) | exact HB.out)⟩
           ·replace c66 := Bool.eq_false_iff.mpr c66
            subst c66
            have H1 : (some false) = some r := by rw [if_neg (show ¬ (false = true) by decide)] at H; exact H
            clear H
            have H := H1
            clear H1
            obtain rfl := Option.some.inj H
            try go_wp2
            have n0_ := Aside0.mk (Kd.S_drew HO_5.out)
            have n1_ := Aside0.mk (Kd.S_drew HO_7.out)
            have n2_ := Aside0.mk (below_drew1 HB.out)
            clear HO_5
            clear HO_7
            clear HB
            have HO_5 := n0_
            have HO_7 := n1_
            have HB := n2_
            clear n0_ n1_ n2_
            obtain ⟨Ao71, co71, eo71⟩ := Kd.S_slice HO_5.out
            (first | subst eo71 | (injection eo71 with f1_ f2_ f3_; have f4_ := f1_.symm; have f5_ := f3_.symm; clear f1_ f2_ f3_; subst f4_; subst f5_))
            have p444 : 0 ≤ (0 : Int) := (by omega)
            have q444 : 0 < (t436.length : Int) := of_decide_eq_true (by first | (with_reducible assumption) | assumption)
            obtain ⟨ad444, A444_2, c444_2, A444_3, c444_3, e444, hx444_0, hx444_1, hx444_2, hx444_3, hl444_2, hi444_2, hl444_3, hi444_3⟩ := at_T46 (Kd.S_reads' HO_5.out).2.2 0 p444 q444
            cases e444
            obtain ⟨ce444, hce444, hMe444, hcc444⟩ := Kd.S_get HO_5.out z46 0 p444 (by first | exact q444 | exact of_decide_eq_true (by first | (with_reducible assumption) | assumption) | (have e_ := (Kd.S_reads' HO_5.out).1; omega))
            obtain ⟨ve444_2, ve444_3, rfl, ge444_2, ge444_3⟩ := k46_openM hMe444
            have hv444_2 := hcc444 2 _ rfl
            rw [add_field _ _ 2 (by omega)] at hv444_2
            replace hv444_2 := Option.some.inj (hv444_2.symm.trans hx444_2)
            rw [hv444_2] at ge444_2
            have HL444_2 := Aside0.mk (show Kd.R Kd.string 9 _ _ _ _ ((rd_T46 t436 0).f2) from ge444_2)
            clear hv444_2 ge444_2
            have hv444_3 := hcc444 3 _ rfl
            rw [add_field _ _ 3 (by omega)] at hv444_3
            replace hv444_3 := Option.some.inj (hv444_3.symm.trans hx444_3)
            rw [hv444_3] at ge444_3
            have HL444_3 := Aside0.mk (show Kd.R Kd.string 9 _ _ _ _ ((rd_T46 t436 0).f3) from ge444_3)
            clear hv444_3 ge444_3
            clear hcc444 hce444
            have qi444 : (0 < t436.length) = True := eq_true (by omega)
            (try rw [show ((0 : Int)).toNat = 0 from rfl] at hx444_0)
            (try rw [show 0 * 4 = 0 from rfl] at hx444_0)
            (try rw [Addr.add_zero'] at hx444_0)
            (try rw [show ((0 : Int)).toNat = 0 from rfl] at hx444_1)
            (try rw [show 0 * 4 = 0 from rfl] at hx444_1)
            (try rw [Addr.add_zero'] at hx444_1)
            (try rw [show ((0 : Int)).toNat = 0 from rfl] at hx444_2)
            (try rw [show 0 * 4 = 0 from rfl] at hx444_2)
            (try rw [Addr.add_zero'] at hx444_2)
            (try rw [show ((0 : Int)).toNat = 0 from rfl] at hx444_3)
            (try rw [show 0 * 4 = 0 from rfl] at hx444_3)
            (try rw [Addr.add_zero'] at hx444_3)
            have HR444_2 := Aside0.mk hi444_2
            have HC444_2 := Aside0.mk hl444_2
            clear hi444_2 hl444_2
            have HR444_3 := Aside0.mk hi444_3
            have HC444_3 := Aside0.mk hl444_3
            clear hi444_3 hl444_3
            replace p444 := eq_true p444
            replace q444 := eq_true q444
            have p446 : 0 ≤ (0 : Int) := (by omega)
            have q446 : 0 < (t440.length : Int) := of_decide_eq_true (by first | (with_reducible assumption) | assumption)
            (try (obtain ⟨Aoz_, coz_, eoz_⟩ := Kd.S_slice HO_7.out; subst eoz_))
            obtain ⟨ad446, A446_2, c446_2, A446_3, c446_3, e446, hx446_0, hx446_1, hx446_2, hx446_3, hl446_2, hi446_2, hl446_3, hi446_3⟩ := at_T46 (Kd.S_reads' HO_7.out).2.2 0 p446 q446
            cases e446
            obtain ⟨ce446, hce446, hMe446, hcc446⟩ := Kd.S_get HO_7.out z46 0 p446 (by first | exact q446 | exact of_decide_eq_true (by first | (with_reducible assumption) | assumption) | (have e_ := (Kd.S_reads' HO_7.out).1; omega))
            obtain ⟨ve446_2, ve446_3, rfl, ge446_2, ge446_3⟩ := k46_openM hMe446
            have hv446_2 := hcc446 2 _ rfl
            rw [add_field _ _ 2 (by omega)] at hv446_2
            replace hv446_2 := Option.some.inj (hv446_2.symm.trans hx446_2)
            rw [hv446_2] at ge446_2
            have HL446_2 := Aside0.mk (show Kd.R Kd.string 9 _ _ _ _ ((rd_T46 t440 0).f2) from ge446_2)
            clear hv446_2 ge446_2
            have hv446_3 := hcc446 3 _ rfl
            rw [add_field _ _ 3 (by omega)] at hv446_3
            replace hv446_3 := Option.some.inj (hv446_3.symm.trans hx446_3)
            rw [hv446_3] at ge446_3
            have HL446_3 := Aside0.mk (show Kd.R Kd.string 9 _ _ _ _ ((rd_T46 t440 0).f3) from ge446_3)
            clear hv446_3 ge446_3
            clear hcc446 hce446
            have qi446 : (0 < t440.length) = True := eq_true (by omega)
            (try rw [show ((0 : Int)).toNat = 0 from rfl] at hx446_0)
            (try rw [show 0 * 4 = 0 from rfl] at hx446_0)
            (try rw [Addr.add_zero'] at hx446_0)
            (try rw [show ((0 : Int)).toNat = 0 from rfl] at hx446_1)
            (try rw [show 0 * 4 = 0 from rfl] at hx446_1)
            (try rw [Addr.add_zero'] at hx446_1)
            (try rw [show ((0 : Int)).toNat = 0 from rfl] at hx446_2)
            (try rw [show 0 * 4 = 0 from rfl] at hx446_2)
            (try rw [Addr.add_zero'] at hx446_2)
            (try rw [show ((0 : Int)).toNat = 0 from rfl] at hx446_3)
            (try rw [show 0 * 4 = 0 from rfl] at hx446_3)
            (try rw [Addr.add_zero'] at hx446_3)
            have HR446_2 := Aside0.mk hi446_2
            have HC446_2 := Aside0.mk hl446_2
            clear hi446_2 hl446_2
            have HR446_3 := Aside0.mk hi446_3
            have HC446_3 := Aside0.mk hl446_3
            clear hi446_3 hl446_3
            replace p446 := eq_true p446
            replace q446 := eq_true q446
            refine start_ (n := 34) (S := fun w' => w'.cell? ad444 = some (.int .i64 ((rd_T46 t436 0).f0)) ∧ w'.cell? ⟨ad444.block, ad444.off + 1, none⟩ = some (.int .i64 ((rd_T46 t436 0).f1)) ∧ w'.cell? ⟨ad444.block, ad444.off + 2, none⟩ = some (.slice A444_2 ((rd_T46 t436 0).f2).length c444_2) ∧ w'.cell? ⟨ad444.block, ad444.off + 3, none⟩ = some (.slice A444_3 ((rd_T46 t436 0).f3).length c444_3) ∧ w'.cell? ad446 = some (.int .i64 ((rd_T46 t440 0).f0)) ∧ w'.cell? ⟨ad446.block, ad446.off + 1, none⟩ = some (.int .i64 ((rd_T46 t440 0).f1)) ∧ w'.cell? ⟨ad446.block, ad446.off + 2, none⟩ = some (.slice A446_2 ((rd_T46 t440 0).f2).length c446_2) ∧ w'.cell? ⟨ad446.block, ad446.off + 3, none⟩ = some (.slice A446_3 ((rd_T46 t440 0).f3).length c446_3)) (ds := []) (vb 0 34) (by kernel_rfl) rfl rfl ⟨hx444_0, hx444_1, hx444_2, hx444_3, hx446_0, hx446_1, hx446_2, hx446_3⟩ (fun hHeld => ?_); refine with_tabW forebearlaw05_DiffSelf.tab10 forebearlaw05_DiffSelf.bits10 (fun HT_ HW_ => ?_)
            generalize wc.drew = w70 at HO_5 HO_7 HB HL444_2 HL444_3 HL446_2 HL446_3 HR444_2 HR444_3 HR446_2 HR446_3 hx444_0 hx444_1 hx444_2 hx444_3 hx446_0 hx446_1 hx446_2 hx446_3 hHeld ⊢
            refine pure_ (i := 0) (N := some 75) (v := ?_) (a' := ?_) (vb 1 34) rfl rfl (any_of HT_.out (by kernel_rfl)) (fun _ _ _ h => h) (Or.inl ⟨by rfl, ?_⟩) ?_ ?_
            rotate_left
            ·intro w'
             go_simp
             with_reducible rfl
            rotate_left
            ·simp only [Act.put, List.setIfInBounds_toArray, List.set_cons_zero, List.set_cons_succ, i64_w, i32_w]
             rfl
            refine pure_ (i := 1) (N := some 76) (v := ?_) (a' := ?_) (vb 3 34) rfl rfl (any_of HT_.out (by kernel_rfl)) (fun _ _ _ h => h) (Or.inl ⟨by rfl, ?_⟩) ?_ ?_
            rotate_left
            ·intro w'
             go_simp
             with_reducible rfl
            rotate_left
            ·simp only [Act.put, List.setIfInBounds_toArray, List.set_cons_zero, List.set_cons_succ, i64_w, i32_w]
             rfl
            refine pure_ (i := 2) (N := some 77) (v := ?_) (a' := ?_) (vb 7 34) rfl rfl (any_of HT_.out (by kernel_rfl)) (fun _ _ _ h => h) (Or.inl ⟨by rfl, ?_⟩) ?_ ?_
            rotate_left
            ·intro w'
             go_simp
             with_reducible rfl
            rotate_left
            ·simp only [Act.put, List.setIfInBounds_toArray, List.set_cons_zero, List.set_cons_succ, i64_w, i32_w]
             rfl
            refine pure_ (i := 3) (N := some 78) (v := ?_) (a' := ?_) (vb 15 34) rfl rfl (any_of HT_.out (by kernel_rfl)) (fun _ _ _ h => h) (Or.inl ⟨by rfl, ?_⟩) ?_ ?_
            rotate_left
            ·intro w'
             go_simp
             with_reducible rfl
            rotate_left
            ·simp only [Act.put, List.setIfInBounds_toArray, List.set_cons_zero, List.set_cons_succ, i64_w, i32_w]
             rfl
            refine pure_ (i := 4) (N := some 79) (v := ?_) (a' := ?_) (vb 31 34) rfl rfl (any_of HT_.out (by kernel_rfl)) (fun _ _ _ h => h) (Or.inl ⟨by rfl, ?_⟩) ?_ ?_
            rotate_left
            ·intro w'
             go_simp
             with_reducible rfl
            rotate_left
            ·simp only [Act.put, List.setIfInBounds_toArray, List.set_cons_zero, List.set_cons_succ, i64_w, i32_w]
             rfl
            refine pure_ (i := 5) (N := some 80) (v := ?_) (a' := ?_) (vb 63 34) rfl rfl (any_of HT_.out (by kernel_rfl)) (fun _ _ _ h => h) (Or.inl ⟨by rfl, ?_⟩) ?_ ?_
            rotate_left
            ·intro w'
             go_simp
             with_reducible rfl
            rotate_left
            ·simp only [Act.put, List.setIfInBounds_toArray, List.set_cons_zero, List.set_cons_succ, i64_w, i32_w]
             rfl
            refine pure_ (i := 6) (N := some 81) (v := ?_) (a' := ?_) (vb 127 34) rfl rfl (any_of HT_.out (by kernel_rfl)) (fun _ _ _ h => h) (Or.inl ⟨by rfl, ?_⟩) ?_ ?_
            rotate_left
            ·intro w'
             go_simp
             with_reducible rfl
            rotate_left
            ·simp only [Act.put, List.setIfInBounds_toArray, List.set_cons_zero, List.set_cons_succ, i64_w, i32_w]
             rfl
            refine pure_ (i := 8) (N := some 83) (v := ?_) (a' := ?_) (vb 383 34) rfl rfl (any_of HT_.out (by kernel_rfl)) (fun _ _ _ h => h) (Or.inl ⟨by rfl, ?_⟩) ?_ ?_
            rotate_left
            ·intro w'
             go_simp
             with_reducible rfl
            rotate_left
            ·simp only [Act.put, List.setIfInBounds_toArray, List.set_cons_zero, List.set_cons_succ, i64_w, i32_w]
             rfl
            refine take_ (i := 7) (N := some 82) (v := ?_) (a' := ?_) (vb 511 34) rfl rfl (take_ofW HT_.out HW_.out (by kernel_rfl)) (fun _ _ _ h => h) (Or.inl ⟨by rfl, ?_⟩) hHeld ?_ ?_
            rotate_left
            ·rintro w' ⟨s0, s1, s2, s3, s4, s5, s6, s7⟩
             go_simp
             with_reducible rfl
            rotate_left
            ·simp only [Act.put, List.setIfInBounds_toArray, List.set_cons_zero, List.set_cons_succ, i64_w, i32_w]
             rfl
            refine one_ (i := 9) (N := some 84) (vb 1023 34) rfl rfl (one_of HT_.out (by kernel_rfl)) (by decide) (fun K hK => ?_)
            refine goes_ Try.func19 (by kernel_rfl) rfl #[.slice A444_2 ((rd_T46 t436 0).f2).length c444_2, .slice A0 l0.length c0] (by rfl) rfl rfl (by (try simp only [List.map_toArray, List.map_cons, List.map_nil]); first | done | rfl | (simp only [List.length_drop, List.length_take]; rfl)) ?_
            with_reducible refine (forebearref03_Same.calls kj37 _ _ ((rd_T46 t436 0).f2) _ _ l0 true _ ?side1 ?side2 ?side3 ?side4 A62.out).mono ?_
            (case side1 => repeat (first | exact (by repeat (first | (with_reducible exact HR444_2.out) | (with_reducible refine Kd.C_alloc ?_ _) | (with_reducible refine Kd.C_drewN ?_ _) | (with_reducible refine Kd.C_drew ?_) | exact HR444_2.out)) | (with_reducible refine Kd.C_alloc ?_ _) | (with_reducible refine Kd.C_drewN ?_ _) | (with_reducible refine Kd.C_drew ?_)))
            (case side2 => exact HC444_2.out)
            (case side3 => repeat (first | exact (Kd.C_below HR0.out HB.out) | (with_reducible refine Kd.C_alloc ?_ _) | (with_reducible refine Kd.C_drewN ?_ _) | (with_reducible refine Kd.C_drew ?_)))
            (case side4 => exact HC0.out)
            rintro e w' ⟨rfl, ⟨nd, rfl⟩⟩
            refine ⟨_, rfl, ?_⟩
            obtain ⟨Ao72, co72, eo72⟩ := Kd.S_slice HO_7.out
            (first | subst eo72 | (injection eo72 with f1_ f2_ f3_; have f4_ := f1_.symm; have f5_ := f3_.symm; clear f1_ f2_ f3_; subst f4_; subst f5_))
            refine hK.out _ _ ⟨hHeld.1, hHeld.2.1, hHeld.2.2.1, hHeld.2.2.2.1, hHeld.2.2.2.2.1, hHeld.2.2.2.2.2.1, hHeld.2.2.2.2.2.2.1, hHeld.2.2.2.2.2.2.2⟩ (fun hHeld => ?_)
            clear hK K
            refine norm_ (a' := ?_) ?_ ?_
            rotate_left
            ·show Act.put _ (some 84) _ = _
             simp only [Act.put, List.setIfInBounds_toArray, List.set_cons_zero, List.set_cons_succ, i64_w, i32_w]
             rfl
            refine pure_ (i := 10) (N := some 85) (v := ?_) (a' := ?_) (vb 2047 34) rfl rfl (any_of HT_.out (by kernel_rfl)) (fun _ _ _ h => h) (Or.inl ⟨by rfl, ?_⟩) ?_ ?_
            rotate_left
            ·intro w'
             go_simp
             with_reducible rfl
            rotate_left
            ·simp only [Act.put, List.setIfInBounds_toArray, List.set_cons_zero, List.set_cons_succ, i64_w, i32_w]
             rfl
            refine pure_ (i := 11) (N := some 86) (v := ?_) (a' := ?_) (vb 4095 34) rfl rfl (any_of HT_.out (by kernel_rfl)) (fun _ _ _ h => h) (Or.inl ⟨by rfl, ?_⟩) ?_ ?_
            rotate_left
            ·intro w'
             go_simp
             with_reducible rfl
            rotate_left
            ·simp only [Act.put, List.setIfInBounds_toArray, List.set_cons_zero, List.set_cons_succ, i64_w, i32_w]
             rfl
            refine pure_ (i := 12) (N := some 87) (v := ?_) (a' := ?_) (vb 8191 34) rfl rfl (any_of HT_.out (by kernel_rfl)) (fun _ _ _ h => h) (Or.inl ⟨by rfl, ?_⟩) ?_ ?_
            rotate_left
            ·intro w'
             go_simp
             with_reducible rfl
            rotate_left
            ·simp only [Act.put, List.setIfInBounds_toArray, List.set_cons_zero, List.set_cons_succ, i64_w, i32_w]
             rfl
            refine pure_ (i := 13) (N := some 88) (v := ?_) (a' := ?_) (vb 16383 34) rfl rfl (any_of HT_.out (by kernel_rfl)) (fun _ _ _ h => h) (Or.inl ⟨by rfl, ?_⟩) ?_ ?_
            rotate_left
            ·intro w'
             go_simp
             with_reducible rfl
            rotate_left
            ·simp only [Act.put, List.setIfInBounds_toArray, List.set_cons_zero, List.set_cons_succ, i64_w, i32_w]
             rfl
            refine pure_ (i := 15) (N := some 90) (v := ?_) (a' := ?_) (vb 49151 34) rfl rfl (any_of HT_.out (by kernel_rfl)) (fun _ _ _ h => h) (Or.inl ⟨by rfl, ?_⟩) ?_ ?_
            rotate_left
            ·intro w'
             go_simp
             with_reducible rfl
            rotate_left
            ·simp only [Act.put, List.setIfInBounds_toArray, List.set_cons_zero, List.set_cons_succ, i64_w, i32_w]
             rfl
            refine take_ (i := 14) (N := some 89) (v := ?_) (a' := ?_) (vb 65535 34) rfl rfl (take_ofW HT_.out HW_.out (by kernel_rfl)) (fun _ _ _ h => h) (Or.inl ⟨by rfl, ?_⟩) hHeld ?_ ?_
            rotate_left
            ·rintro w' ⟨s0, s1, s2, s3, s4, s5, s6, s7⟩
             go_simp
             with_reducible rfl
            rotate_left
            ·simp only [Act.put, List.setIfInBounds_toArray, List.set_cons_zero, List.set_cons_succ, i64_w, i32_w]
             rfl
            refine one_ (i := 16) (N := some 91) (vb 131071 34) rfl rfl (one_of HT_.out (by kernel_rfl)) (by decide) (fun K hK => ?_)
            refine goes_ Try.func19 (by kernel_rfl) rfl #[.slice A446_3 ((rd_T46 t440 0).f3).length c446_3, .slice A0 l0.length c0] (by rfl) rfl rfl (by (try simp only [List.map_toArray, List.map_cons, List.map_nil]); first | done | rfl | (simp only [List.length_drop, List.length_take]; rfl)) ?_
            with_reducible refine (forebearref03_Same.calls kj37 _ _ ((rd_T46 t440 0).f3) _ _ l0 false _ ?side1 ?side2 ?side3 ?side4 A65.out).mono ?_
            (case side1 => repeat (first | exact (by repeat (first | (with_reducible exact HR446_3.out) | (with_reducible refine Kd.C_alloc ?_ _) | (with_reducible refine Kd.C_drewN ?_ _) | (with_reducible refine Kd.C_drew ?_) | exact HR446_3.out)) | (with_reducible refine Kd.C_alloc ?_ _) | (with_reducible refine Kd.C_drewN ?_ _) | (with_reducible refine Kd.C_drew ?_)))
            (case side2 => exact HC446_3.out)
            (case side3 => repeat (first | exact (Kd.C_below HR0.out (by repeat (first | (with_reducible first | exact HB.out | apply below_alloc | apply pw_below_drewN | apply below_drew1) | exact HB.out))) | (with_reducible refine Kd.C_alloc ?_ _) | (with_reducible refine Kd.C_drewN ?_ _) | (with_reducible refine Kd.C_drew ?_)))
            (case side4 => exact HC0.out)
            rintro e w' ⟨rfl, ⟨nd, rfl⟩⟩
            refine ⟨_, rfl, ?_⟩
            refine hK.out _ _ ⟨hHeld.1, hHeld.2.1, hHeld.2.2.1, hHeld.2.2.2.1, hHeld.2.2.2.2.1, hHeld.2.2.2.2.2.1, hHeld.2.2.2.2.2.2.1, hHeld.2.2.2.2.2.2.2⟩ (fun hHeld => ?_)
            clear hK K
            refine norm_ (a' := ?_) ?_ ?_
            rotate_left
            ·show Act.put _ (some 91) _ = _
             simp only [Act.put, List.setIfInBounds_toArray, List.set_cons_zero, List.set_cons_succ, i64_w, i32_w]
             rfl
            refine pure_ (i := 17) (N := some 92) (v := ?_) (a' := ?_) (vb 262143 34) rfl rfl (any_of HT_.out (by kernel_rfl)) (fun _ _ _ h => h) (Or.inl ⟨by rfl, ?_⟩) ?_ ?_
            rotate_left
            ·intro w'
             go_simp
             with_reducible rfl
            rotate_left
            ·simp only [Act.put, List.setIfInBounds_toArray, List.set_cons_zero, List.set_cons_succ, i64_w, i32_w]
             rfl
            refine pure_ (i := 18) (N := some 93) (v := ?_) (a' := ?_) (vb 524287 34) rfl rfl (any_of HT_.out (by kernel_rfl)) (fun _ _ _ h => h) (Or.inl ⟨by rfl, ?_⟩) ?_ ?_
            rotate_left
            ·intro w'
             go_simp
             with_reducible rfl
            rotate_left
            ·simp only [Act.put, List.setIfInBounds_toArray, List.set_cons_zero, List.set_cons_succ, i64_w, i32_w]
             rfl
            refine pure_ (i := 19) (N := some 94) (v := undef) (a' := ?_) (vb 1048575 34) rfl rfl (any_of HT_.out (by kernel_rfl)) (fun _ _ _ h => h) (Or.inr ⟨by rfl, rfl⟩) ?_ ?_
            rotate_left
            ·simp only [Act.put, List.setIfInBounds_toArray, List.set_cons_zero, List.set_cons_succ, i64_w, i32_w]
             rfl
            refine pure_ (i := 20) (N := some 95) (v := undef) (a' := ?_) (vb 2097151 34) rfl rfl (any_of HT_.out (by kernel_rfl)) (fun _ _ _ h => h) (Or.inr ⟨by rfl, rfl⟩) ?_ ?_
            rotate_left
            ·simp only [Act.put, List.setIfInBounds_toArray, List.set_cons_zero, List.set_cons_succ, i64_w, i32_w]
             rfl
            refine pure_ (i := 21) (N := some 96) (v := undef) (a' := ?_) (vb 4194303 34) rfl rfl (any_of HT_.out (by kernel_rfl)) (fun _ _ _ h => h) (Or.inr ⟨by rfl, rfl⟩) ?_ ?_
            rotate_left
            ·simp only [Act.put, List.setIfInBounds_toArray, List.set_cons_zero, List.set_cons_succ, i64_w, i32_w]
             rfl
            refine pure_ (i := 22) (N := some 97) (v := undef) (a' := ?_) (vb 8388607 34) rfl rfl (any_of HT_.out (by kernel_rfl)) (fun _ _ _ h => h) (Or.inr ⟨by rfl, rfl⟩) ?_ ?_
            rotate_left
            ·simp only [Act.put, List.setIfInBounds_toArray, List.set_cons_zero, List.set_cons_succ, i64_w, i32_w]
             rfl
            refine pure_ (i := 23) (N := some 98) (v := undef) (a' := ?_) (vb 16777215 34) rfl rfl (any_of HT_.out (by kernel_rfl)) (fun _ _ _ h => h) (Or.inr ⟨by rfl, rfl⟩) ?_ ?_
            rotate_left
            ·simp only [Act.put, List.setIfInBounds_toArray, List.set_cons_zero, List.set_cons_succ, i64_w, i32_w]
             rfl
            refine pure_ (i := 24) (N := some 99) (v := undef) (a' := ?_) (vb 33554431 34) rfl rfl (any_of HT_.out (by kernel_rfl)) (fun _ _ _ h => h) (Or.inr ⟨by rfl, rfl⟩) ?_ ?_
            rotate_left
            ·simp only [Act.put, List.setIfInBounds_toArray, List.set_cons_zero, List.set_cons_succ, i64_w, i32_w]
             rfl
            refine pure_ (i := 25) (N := some 100) (v := undef) (a' := ?_) (vb 67108863 34) rfl rfl (any_of HT_.out (by kernel_rfl)) (fun _ _ _ h => h) (Or.inr ⟨by rfl, rfl⟩) ?_ ?_
            rotate_left
            ·simp only [Act.put, List.setIfInBounds_toArray, List.set_cons_zero, List.set_cons_succ, i64_w, i32_w]
             rfl
            refine pure_ (i := 26) (N := some 101) (v := undef) (a' := ?_) (vb 134217727 34) rfl rfl (any_of HT_.out (by kernel_rfl)) (fun _ _ _ h => h) (Or.inr ⟨by rfl, rfl⟩) ?_ ?_
            rotate_left
            ·simp only [Act.put, List.setIfInBounds_toArray, List.set_cons_zero, List.set_cons_succ, i64_w, i32_w]
             rfl
            refine pure_ (i := 27) (N := some 102) (v := undef) (a' := ?_) (vb 268435455 34) rfl rfl (any_of HT_.out (by kernel_rfl)) (fun _ _ _ h => h) (Or.inr ⟨by rfl, rfl⟩) ?_ ?_
            rotate_left
            ·simp only [Act.put, List.setIfInBounds_toArray, List.set_cons_zero, List.set_cons_succ, i64_w, i32_w]
             rfl
            refine pure_ (i := 28) (N := some 103) (v := undef) (a' := ?_) (vb 536870911 34) rfl rfl (any_of HT_.out (by kernel_rfl)) (fun _ _ _ h => h) (Or.inr ⟨by rfl, rfl⟩) ?_ ?_
            rotate_left
            ·simp only [Act.put, List.setIfInBounds_toArray, List.set_cons_zero, List.set_cons_succ, i64_w, i32_w]
             rfl
            refine pure_ (i := 29) (N := some 104) (v := undef) (a' := ?_) (vb 1073741823 34) rfl rfl (any_of HT_.out (by kernel_rfl)) (fun _ _ _ h => h) (Or.inr ⟨by rfl, rfl⟩) ?_ ?_
            rotate_left
            ·simp only [Act.put, List.setIfInBounds_toArray, List.set_cons_zero, List.set_cons_succ, i64_w, i32_w]
             rfl
            refine pure_ (i := 30) (N := some 105) (v := undef) (a' := ?_) (vb 2147483647 34) rfl rfl (any_of HT_.out (by kernel_rfl)) (fun _ _ _ h => h) (Or.inr ⟨by rfl, rfl⟩) ?_ ?_
            rotate_left
            ·simp only [Act.put, List.setIfInBounds_toArray, List.set_cons_zero, List.set_cons_succ, i64_w, i32_w]
             rfl
            refine pure_ (i := 31) (N := some 106) (v := ?_) (a' := ?_) (vb 4294967295 34) rfl rfl (any_of HT_.out (by kernel_rfl)) (fun _ _ _ h => h) (Or.inl ⟨by rfl, ?_⟩) ?_ ?_
            rotate_left
            ·intro w'
             go_simp
             with_reducible rfl
            rotate_left
            ·simp only [Act.put, List.setIfInBounds_toArray, List.set_cons_zero, List.set_cons_succ, i64_w, i32_w]
             rfl
            refine pure_ (i := 32) (N := some 107) (v := ?_) (a' := ?_) (vb 8589934591 34) rfl rfl (any_of HT_.out (by kernel_rfl)) (fun _ _ _ h => h) (Or.inl ⟨by rfl, ?_⟩) ?_ ?_
            rotate_left
            ·intro w'
             go_simp
             with_reducible rfl
            rotate_left
            ·simp only [Act.put, List.setIfInBounds_toArray, List.set_cons_zero, List.set_cons_succ, i64_w, i32_w]
             rfl
            refine pure_ (i := 33) (N := some 2) (v := ?_) (a' := ?_) (vb 17179869183 34) rfl rfl (any_of HT_.out (by kernel_rfl)) (fun _ _ _ h => h) (Or.inl ⟨by rfl, ?_⟩) ?_ ?_
            rotate_left
            ·intro w'
             go_simp
             with_reducible rfl
            rotate_left
            ·simp only [Act.put, List.setIfInBounds_toArray, List.set_cons_zero, List.set_cons_succ, i64_w, i32_w]
             rfl
            refine done_ (done_of HT_.out (by kernel_rfl)) ?_
            try go_wp2
            go_ret
            exact ⟨by first | rfl | (simp [errW_none, errW_some] <;> rfl) | (simp [*, errW_none, errW_some] <;> rfl), by repeat (first | (with_reducible first | exact HB.out | apply below_alloc | apply pw_below_drewN | apply below_drew1) | exact HB.out)⟩
          ·rw [if_neg c64] at H
           exact absurd H (by simp)
         ·replace c63 := Bool.eq_false_iff.mpr c63
          subst c63
          have H1 : (some false) = some r := by rw [if_neg (show ¬ (false = true) by decide)] at H; exact H
          clear H
          have H := H1
          clear H1
          obtain rfl := Option.some.inj H
          try go_wp2
          have n0_ := Aside0.mk (Kd.S_drew HO_5.out)
          have n1_ := Aside0.mk (Kd.S_drew HO_7.out)
          have n2_ := Aside0.mk (below_drew1 HB.out)
          clear HO_5
          clear HO_7
          clear HB
          have HO_5 := n0_
          have HO_7 := n1_
          have HB := n2_
          clear n0_ n1_ n2_
          obtain ⟨Ao74, co74, eo74⟩ := Kd.S_slice HO_5.out
          (first | subst eo74 | (injection eo74 with f1_ f2_ f3_; have f4_ := f1_.symm; have f5_ := f3_.symm; clear f1_ f2_ f3_; subst f4_; subst f5_))
          have p444 : 0 ≤ (0 : Int) := (by omega)
          have q444 : 0 < (t436.length : Int) := of_decide_eq_true (by first | (with_reducible assumption) | assumption)
          obtain ⟨ad444, A444_2, c444_2, A444_3, c444_3, e444, hx444_0, hx444_1, hx444_2, hx444_3, hl444_2, hi444_2, hl444_3, hi444_3⟩ := at_T46 (Kd.S_reads' HO_5.out).2.2 0 p444 q444
          cases e444
          obtain ⟨ce444, hce444, hMe444, hcc444⟩ := Kd.S_get HO_5.out z46 0 p444 (by first | exact q444 | exact of_decide_eq_true (by first | (with_reducible assumption) | assumption) | (have e_ := (Kd.S_reads' HO_5.out).1; omega))
          obtain ⟨ve444_2, ve444_3, rfl, ge444_2, ge444_3⟩ := k46_openM hMe444
          have hv444_2 := hcc444 2 _ rfl
          rw [add_field _ _ 2 (by omega)] at hv444_2
          replace hv444_2 := Option.some.inj (hv444_2.symm.trans hx444_2)
          rw [hv444_2] at ge444_2
          have HL444_2 := Aside0.mk (show Kd.R Kd.string 9 _ _ _ _ ((rd_T46 t436 0).f2) from ge444_2)
          clear hv444_2 ge444_2
          have hv444_3 := hcc444 3 _ rfl
          rw [add_field _ _ 3 (by omega)] at hv444_3
          replace hv444_3 := Option.some.inj (hv444_3.symm.trans hx444_3)
          rw [hv444_3] at ge444_3
          have HL444_3 := Aside0.mk (show Kd.R Kd.string 9 _ _ _ _ ((rd_T46 t436 0).f3) from ge444_3)
          clear hv444_3 ge444_3
          clear hcc444 hce444
          have qi444 : (0 < t436.length) = True := eq_true (by omega)
          (try rw [show ((0 : Int)).toNat = 0 from rfl] at hx444_0)
          (try rw [show 0 * 4 = 0 from rfl] at hx444_0)
          (try rw [Addr.add_zero'] at hx444_0)
          (try rw [show ((0 : Int)).toNat = 0 from rfl] at hx444_1)
          (try rw [show 0 * 4 = 0 from rfl] at hx444_1)
          (try rw [Addr.add_zero'] at hx444_1)
          (try rw [show ((0 : Int)).toNat = 0 from rfl] at hx444_2)
          (try rw [show 0 * 4 = 0 from rfl] at hx444_2)
          (try rw [Addr.add_zero'] at hx444_2)
          (try rw [show ((0 : Int)).toNat = 0 from rfl] at hx444_3)
          (try rw [show 0 * 4 = 0 from rfl] at hx444_3)
          (try rw [Addr.add_zero'] at hx444_3)
          have HR444_2 := Aside0.mk hi444_2
          have HC444_2 := Aside0.mk hl444_2
          clear hi444_2 hl444_2
          have HR444_3 := Aside0.mk hi444_3
          have HC444_3 := Aside0.mk hl444_3
          clear hi444_3 hl444_3
          replace p444 := eq_true p444
          replace q444 := eq_true q444
          refine start_ (n := 34) (S := fun w' => w'.cell? ad444 = some (.int .i64 ((rd_T46 t436 0).f0)) ∧ w'.cell? ⟨ad444.block, ad444.off + 1, none⟩ = some (.int .i64 ((rd_T46 t436 0).f1)) ∧ w'.cell? ⟨ad444.block, ad444.off + 2, none⟩ = some (.slice A444_2 ((rd_T46 t436 0).f2).length c444_2) ∧ w'.cell? ⟨ad444.block, ad444.off + 3, none⟩ = some (.slice A444_3 ((rd_T46 t436 0).f3).length c444_3)) (ds := []) (vb 0 34) (by kernel_rfl) rfl rfl ⟨hx444_0, hx444_1, hx444_2, hx444_3⟩ (fun hHeld => ?_); refine with_tabW forebearlaw05_DiffSelf.tab10 forebearlaw05_DiffSelf.bits10 (fun HT_ HW_ => ?_)
          generalize wc.drew = w73 at HO_5 HO_7 HB HL444_2 HL444_3 HR444_2 HR444_3 hx444_0 hx444_1 hx444_2 hx444_3 hHeld ⊢
          refine pure_ (i := 0) (N := some 75) (v := ?_) (a' := ?_) (vb 1 34) rfl rfl (any_of HT_.out (by kernel_rfl)) (fun _ _ _ h => h) (Or.inl ⟨by rfl, ?_⟩) ?_ ?_
          rotate_left
          ·intro w'
           go_simp
           with_reducible rfl
          rotate_left
          ·simp only [Act.put, List.setIfInBounds_toArray, List.set_cons_zero, List.set_cons_succ, i64_w, i32_w]
           rfl
          refine pure_ (i := 1) (N := some 76) (v := ?_) (a' := ?_) (vb 3 34) rfl rfl (any_of HT_.out (by kernel_rfl)) (fun _ _ _ h => h) (Or.inl ⟨by rfl, ?_⟩) ?_ ?_
          rotate_left
          ·intro w'
           go_simp
           with_reducible rfl
          rotate_left
          ·simp only [Act.put, List.setIfInBounds_toArray, List.set_cons_zero, List.set_cons_succ, i64_w, i32_w]
           rfl
          refine pure_ (i := 2) (N := some 77) (v := ?_) (a' := ?_) (vb 7 34) rfl rfl (any_of HT_.out (by kernel_rfl)) (fun _ _ _ h => h) (Or.inl ⟨by rfl, ?_⟩) ?_ ?_
          rotate_left
          ·intro w'
           go_simp
           with_reducible rfl
          rotate_left
          ·simp only [Act.put, List.setIfInBounds_toArray, List.set_cons_zero, List.set_cons_succ, i64_w, i32_w]
           rfl
          refine pure_ (i := 3) (N := some 78) (v := ?_) (a' := ?_) (vb 15 34) rfl rfl (any_of HT_.out (by kernel_rfl)) (fun _ _ _ h => h) (Or.inl ⟨by rfl, ?_⟩) ?_ ?_
          rotate_left
          ·intro w'
           go_simp
           with_reducible rfl
          rotate_left
          ·simp only [Act.put, List.setIfInBounds_toArray, List.set_cons_zero, List.set_cons_succ, i64_w, i32_w]
           rfl
          refine pure_ (i := 4) (N := some 79) (v := ?_) (a' := ?_) (vb 31 34) rfl rfl (any_of HT_.out (by kernel_rfl)) (fun _ _ _ h => h) (Or.inl ⟨by rfl, ?_⟩) ?_ ?_
          rotate_left
          ·intro w'
           go_simp
           with_reducible rfl
          rotate_left
          ·simp only [Act.put, List.setIfInBounds_toArray, List.set_cons_zero, List.set_cons_succ, i64_w, i32_w]
           rfl
          refine pure_ (i := 5) (N := some 80) (v := ?_) (a' := ?_) (vb 63 34) rfl rfl (any_of HT_.out (by kernel_rfl)) (fun _ _ _ h => h) (Or.inl ⟨by rfl, ?_⟩) ?_ ?_
          rotate_left
          ·intro w'
           go_simp
           with_reducible rfl
          rotate_left
          ·simp only [Act.put, List.setIfInBounds_toArray, List.set_cons_zero, List.set_cons_succ, i64_w, i32_w]
           rfl
          refine pure_ (i := 6) (N := some 81) (v := ?_) (a' := ?_) (vb 127 34) rfl rfl (any_of HT_.out (by kernel_rfl)) (fun _ _ _ h => h) (Or.inl ⟨by rfl, ?_⟩) ?_ ?_
          rotate_left
          ·intro w'
           go_simp
           with_reducible rfl
          rotate_left
          ·simp only [Act.put, List.setIfInBounds_toArray, List.set_cons_zero, List.set_cons_succ, i64_w, i32_w]
           rfl
          refine pure_ (i := 8) (N := some 83) (v := ?_) (a' := ?_) (vb 383 34) rfl rfl (any_of HT_.out (by kernel_rfl)) (fun _ _ _ h => h) (Or.inl ⟨by rfl, ?_⟩) ?_ ?_
          rotate_left
          ·intro w'
           go_simp
           with_reducible rfl
          rotate_left
          ·simp only [Act.put, List.setIfInBounds_toArray, List.set_cons_zero, List.set_cons_succ, i64_w, i32_w]
           rfl
          refine take_ (i := 7) (N := some 82) (v := ?_) (a' := ?_) (vb 511 34) rfl rfl (take_ofW HT_.out HW_.out (by kernel_rfl)) (fun _ _ _ h => h) (Or.inl ⟨by rfl, ?_⟩) hHeld ?_ ?_
          rotate_left
          ·rintro w' ⟨s0, s1, s2, s3⟩
           go_simp
           with_reducible rfl
          rotate_left
          ·simp only [Act.put, List.setIfInBounds_toArray, List.set_cons_zero, List.set_cons_succ, i64_w, i32_w]
           rfl
          refine one_ (i := 9) (N := some 84) (vb 1023 34) rfl rfl (one_of HT_.out (by kernel_rfl)) (by decide) (fun K hK => ?_)
          refine goes_ Try.func19 (by kernel_rfl) rfl #[.slice A444_2 ((rd_T46 t436 0).f2).length c444_2, .slice A0 l0.length c0] (by rfl) rfl rfl (by (try simp only [List.map_toArray, List.map_cons, List.map_nil]); first | done | rfl | (simp only [List.length_drop, List.length_take]; rfl)) ?_
          with_reducible refine (forebearref03_Same.calls kj37 _ _ ((rd_T46 t436 0).f2) _ _ l0 false _ ?side1 ?side2 ?side3 ?side4 A62.out).mono ?_
          (case side1 => repeat (first | exact (by repeat (first | (with_reducible exact HR444_2.out) | (with_reducible refine Kd.C_alloc ?_ _) | (with_reducible refine Kd.C_drewN ?_ _) | (with_reducible refine Kd.C_drew ?_) | exact HR444_2.out)) | (with_reducible refine Kd.C_alloc ?_ _) | (with_reducible refine Kd.C_drewN ?_ _) | (with_reducible refine Kd.C_drew ?_)))
          (case side2 => exact HC444_2.out)
          (case side3 => repeat (first | exact (Kd.C_below HR0.out HB.out) | (with_reducible refine Kd.C_alloc ?_ _) | (with_reducible refine Kd.C_drewN ?_ _) | (with_reducible refine Kd.C_drew ?_)))
          (case side4 => exact HC0.out)
          rintro e w' ⟨rfl, ⟨nd, rfl⟩⟩
          refine ⟨_, rfl, ?_⟩
          refine hK.out _ _ ⟨hHeld.1, hHeld.2.1, hHeld.2.2.1, hHeld.2.2.2⟩ (fun hHeld => ?_)
          clear hK K
          refine norm_ (a' := ?_) ?_ ?_
          rotate_left
          ·show Act.put _ (some 84) _ = _
           simp only [Act.put, List.setIfInBounds_toArray, List.set_cons_zero, List.set_cons_succ, i64_w, i32_w]
           rfl
          refine pure_ (i := 10) (N := some 85) (v := ?_) (a' := ?_) (vb 2047 34) rfl rfl (any_of HT_.out (by kernel_rfl)) (fun _ _ _ h => h) (Or.inl ⟨by rfl, ?_⟩) ?_ ?_
          rotate_left
          ·intro w'
           go_simp
           with_reducible rfl
          rotate_left
          ·simp only [Act.put, List.setIfInBounds_toArray, List.set_cons_zero, List.set_cons_succ, i64_w, i32_w]
           rfl
          refine pure_ (i := 11) (N := some 86) (v := undef) (a' := ?_) (vb 4095 34) rfl rfl (any_of HT_.out (by kernel_rfl)) (fun _ _ _ h => h) (Or.inr ⟨by rfl, rfl⟩) ?_ ?_
          rotate_left
          ·simp only [Act.put, List.setIfInBounds_toArray, List.set_cons_zero, List.set_cons_succ, i64_w, i32_w]
           rfl
          refine pure_ (i := 12) (N := some 87) (v := undef) (a' := ?_) (vb 8191 34) rfl rfl (any_of HT_.out (by kernel_rfl)) (fun _ _ _ h => h) (Or.inr ⟨by rfl, rfl⟩) ?_ ?_
          rotate_left
          ·simp only [Act.put, List.setIfInBounds_toArray, List.set_cons_zero, List.set_cons_succ, i64_w, i32_w]
           rfl
          refine pure_ (i := 13) (N := some 88) (v := undef) (a' := ?_) (vb 16383 34) rfl rfl (any_of HT_.out (by kernel_rfl)) (fun _ _ _ h => h) (Or.inr ⟨by rfl, rfl⟩) ?_ ?_
          rotate_left
          ·simp only [Act.put, List.setIfInBounds_toArray, List.set_cons_zero, List.set_cons_succ, i64_w, i32_w]
           rfl
          refine pure_ (i := 14) (N := some 89) (v := undef) (a' := ?_) (vb 32767 34) rfl rfl (any_of HT_.out (by kernel_rfl)) (fun _ _ _ h => h) (Or.inr ⟨by rfl, rfl⟩) ?_ ?_
          rotate_left
          ·simp only [Act.put, List.setIfInBounds_toArray, List.set_cons_zero, List.set_cons_succ, i64_w, i32_w]
           rfl
          refine pure_ (i := 15) (N := some 90) (v := undef) (a' := ?_) (vb 65535 34) rfl rfl (any_of HT_.out (by kernel_rfl)) (fun _ _ _ h => h) (Or.inr ⟨by rfl, rfl⟩) ?_ ?_
          rotate_left
          ·simp only [Act.put, List.setIfInBounds_toArray, List.set_cons_zero, List.set_cons_succ, i64_w, i32_w]
           rfl
          refine pure_ (i := 16) (N := some 91) (v := undef) (a' := ?_) (vb 131071 34) rfl rfl (any_of HT_.out (by kernel_rfl)) (fun _ _ _ h => h) (Or.inr ⟨by rfl, rfl⟩) ?_ ?_
          rotate_left
          ·simp only [Act.put, List.setIfInBounds_toArray, List.set_cons_zero, List.set_cons_succ, i64_w, i32_w]
           rfl
          refine pure_ (i := 17) (N := some 92) (v := ?_) (a' := ?_) (vb 262143 34) rfl rfl (any_of HT_.out (by kernel_rfl)) (fun _ _ _ h => h) (Or.inl ⟨by rfl, ?_⟩) ?_ ?_
          rotate_left
          ·intro w'
           go_simp
           with_reducible rfl
          rotate_left
          ·simp only [Act.put, List.setIfInBounds_toArray, List.set_cons_zero, List.set_cons_succ, i64_w, i32_w]
           rfl
          refine pure_ (i := 18) (N := some 93) (v := ?_) (a' := ?_) (vb 524287 34) rfl rfl (any_of HT_.out (by kernel_rfl)) (fun _ _ _ h => h) (Or.inl ⟨by rfl, ?_⟩) ?_ ?_
          rotate_left
          ·intro w'
           go_simp
           with_reducible rfl
          rotate_left
          ·simp only [Act.put, List.setIfInBounds_toArray, List.set_cons_zero, List.set_cons_succ, i64_w, i32_w]
           rfl
          refine pure_ (i := 19) (N := some 94) (v := undef) (a' := ?_) (vb 1048575 34) rfl rfl (any_of HT_.out (by kernel_rfl)) (fun _ _ _ h => h) (Or.inr ⟨by rfl, rfl⟩) ?_ ?_
          rotate_left
          ·simp only [Act.put, List.setIfInBounds_toArray, List.set_cons_zero, List.set_cons_succ, i64_w, i32_w]
           rfl
          refine pure_ (i := 20) (N := some 95) (v := undef) (a' := ?_) (vb 2097151 34) rfl rfl (any_of HT_.out (by kernel_rfl)) (fun _ _ _ h => h) (Or.inr ⟨by rfl, rfl⟩) ?_ ?_
          rotate_left
          ·simp only [Act.put, List.setIfInBounds_toArray, List.set_cons_zero, List.set_cons_succ, i64_w, i32_w]
           rfl
          refine pure_ (i := 21) (N := some 96) (v := undef) (a' := ?_) (vb 4194303 34) rfl rfl (any_of HT_.out (by kernel_rfl)) (fun _ _ _ h => h) (Or.inr ⟨by rfl, rfl⟩) ?_ ?_
          rotate_left
          ·simp only [Act.put, List.setIfInBounds_toArray, List.set_cons_zero, List.set_cons_succ, i64_w, i32_w]
           rfl
          refine pure_ (i := 22) (N := some 97) (v := undef) (a' := ?_) (vb 8388607 34) rfl rfl (any_of HT_.out (by kernel_rfl)) (fun _ _ _ h => h) (Or.inr ⟨by rfl, rfl⟩) ?_ ?_
          rotate_left
          ·simp only [Act.put, List.setIfInBounds_toArray, List.set_cons_zero, List.set_cons_succ, i64_w, i32_w]
           rfl
          refine pure_ (i := 23) (N := some 98) (v := undef) (a' := ?_) (vb 16777215 34) rfl rfl (any_of HT_.out (by kernel_rfl)) (fun _ _ _ h => h) (Or.inr ⟨by rfl, rfl⟩) ?_ ?_
          rotate_left
          ·simp only [Act.put, List.setIfInBounds_toArray, List.set_cons_zero, List.set_cons_succ, i64_w, i32_w]
           rfl
          refine pure_ (i := 24) (N := some 99) (v := undef) (a' := ?_) (vb 33554431 34) rfl rfl (any_of HT_.out (by kernel_rfl)) (fun _ _ _ h => h) (Or.inr ⟨by rfl, rfl⟩) ?_ ?_
          rotate_left
          ·simp only [Act.put, List.setIfInBounds_toArray, List.set_cons_zero, List.set_cons_succ, i64_w, i32_w]
           rfl
          refine pure_ (i := 25) (N := some 100) (v := undef) (a' := ?_) (vb 67108863 34) rfl rfl (any_of HT_.out (by kernel_rfl)) (fun _ _ _ h => h) (Or.inr ⟨by rfl, rfl⟩) ?_ ?_
          rotate_left
          ·simp only [Act.put, List.setIfInBounds_toArray, List.set_cons_zero, List.set_cons_succ, i64_w, i32_w]
           rfl
          refine pure_ (i := 26) (N := some 101) (v := undef) (a' := ?_) (vb 134217727 34) rfl rfl (any_of HT_.out (by kernel_rfl)) (fun _ _ _ h => h) (Or.inr ⟨by rfl, rfl⟩) ?_ ?_
          rotate_left
          ·simp only [Act.put, List.setIfInBounds_toArray, List.set_cons_zero, List.set_cons_succ, i64_w, i32_w]
           rfl
          refine pure_ (i := 27) (N := some 102) (v := undef) (a' := ?_) (vb 268435455 34) rfl rfl (any_of HT_.out (by kernel_rfl)) (fun _ _ _ h => h) (Or.inr ⟨by rfl, rfl⟩) ?_ ?_
          rotate_left
          ·simp only [Act.put, List.setIfInBounds_toArray, List.set_cons_zero, List.set_cons_succ, i64_w, i32_w]
           rfl
          refine pure_ (i := 28) (N := some 103) (v := undef) (a' := ?_) (vb 536870911 34) rfl rfl (any_of HT_.out (by kernel_rfl)) (fun _ _ _ h => h) (Or.inr ⟨by rfl, rfl⟩) ?_ ?_
          rotate_left
          ·simp only [Act.put, List.setIfInBounds_toArray, List.set_cons_zero, List.set_cons_succ, i64_w, i32_w]
           rfl
          refine pure_ (i := 29) (N := some 104) (v := undef) (a' := ?_) (vb 1073741823 34) rfl rfl (any_of HT_.out (by kernel_rfl)) (fun _ _ _ h => h) (Or.inr ⟨by rfl, rfl⟩) ?_ ?_
          rotate_left
          ·simp only [Act.put, List.setIfInBounds_toArray, List.set_cons_zero, List.set_cons_succ, i64_w, i32_w]
           rfl
          refine pure_ (i := 30) (N := some 105) (v := undef) (a' := ?_) (vb 2147483647 34) rfl rfl (any_of HT_.out (by kernel_rfl)) (fun _ _ _ h => h) (Or.inr ⟨by rfl, rfl⟩) ?_ ?_
          rotate_left
          ·simp only [Act.put, List.setIfInBounds_toArray, List.set_cons_zero, List.set_cons_succ, i64_w, i32_w]
           rfl
          refine pure_ (i := 31) (N := some 106) (v := ?_) (a' := ?_) (vb 4294967295 34) rfl rfl (any_of HT_.out (by kernel_rfl)) (fun _ _ _ h => h) (Or.inl ⟨by rfl, ?_⟩) ?_ ?_
          rotate_left
          ·intro w'
           go_simp
           with_reducible rfl
          rotate_left
          ·simp only [Act.put, List.setIfInBounds_toArray, List.set_cons_zero, List.set_cons_succ, i64_w, i32_w]
           rfl
          refine pure_ (i := 32) (N := some 107) (v := ?_) (a' := ?_) (vb 8589934591 34) rfl rfl (any_of HT_.out (by kernel_rfl)) (fun _ _ _ h => h) (Or.inl ⟨by rfl, ?_⟩) ?_ ?_
          rotate_left
          ·intro w'
           go_simp
           with_reducible rfl
          rotate_left
          ·simp only [Act.put, List.setIfInBounds_toArray, List.set_cons_zero, List.set_cons_succ, i64_w, i32_w]
           rfl
          refine pure_ (i := 33) (N := some 2) (v := ?_) (a' := ?_) (vb 17179869183 34) rfl rfl (any_of HT_.out (by kernel_rfl)) (fun _ _ _ h => h) (Or.inl ⟨by rfl, ?_⟩) ?_ ?_
          rotate_left
          ·intro w'
           go_simp
           with_reducible rfl
          rotate_left
          ·simp only [Act.put, List.setIfInBounds_toArray, List.set_cons_zero, List.set_cons_succ, i64_w, i32_w]
           rfl
          refine done_ (done_of HT_.out (by kernel_rfl)) ?_
          try go_wp2
          go_ret
          exact ⟨by first | rfl | (simp [errW_none, errW_some] <;> rfl) | (simp [*, errW_none, errW_some] <;> rfl), by repeat (first | (with_reducible first | exact HB.out | apply below_alloc | apply pw_below_drewN | apply below_drew1) | exact HB.out)⟩
        ·rw [if_neg c61] at H
         exact absurd H (by simp)
  ·rw [if_neg c4] at H
   exact absurd H (by simp)
 ·replace c3 := Bool.eq_false_iff.mpr c3
  subst c3
  have H1 : (some false) = some r := by rw [if_neg (show ¬ (false = true) by decide)] at H; exact H
  clear H
  have H := H1
  clear H1
  obtain rfl := Option.some.inj H
  go_enter Try.func7, Try.ntmps7
  go_wp2_with (first | ((with_reducible refine gate_callee (f := 12) rfl ?_); refine goesL_ (some 9) rfl rfl Try.func12 (by kernel_rfl) rfl #[] rfl (by (try simp only [List.map_toArray, List.map_cons, List.map_nil]); first | done | rfl | (simp only [List.length_drop, List.length_take]; rfl)) ?_; (with_reducible refine (forebearlaw05_awake.calls k  false _ A2.out).mono ?_); rintro e w75 ⟨rfl, hb⟩; refine ⟨_, rfl, ?_⟩; have n0_ := Aside0.mk (below_step (by repeat (first | (with_reducible first | exact HB.out | apply below_alloc | apply pw_below_drewN | apply below_drew1) | exact HB.out)) hb); clear HB; have HB := n0_; clear n0_; (try clear hb); (try clear hb2); (try clear hk); (try clear hi)))
  go_ret
  exact ⟨by first | rfl | (simp [errW_none, errW_some] <;> rfl) | (simp [*, errW_none, errW_some] <;> rfl), by repeat (first | (with_reducible first | exact HB.out | apply below_alloc | apply pw_below_drewN | apply below_drew1) | exact HB.out)⟩

/-- THE ONE PURE STATEMENT of forebearlaw05_DiffSelf. -/
def forebearlaw05_DiffSelf.Pure : Prop := ∀ (l0 : List ByteArray), (l0.length * 16 ≤ 140737488351232 ∧ l0.length ≤ 9223372036854775807 ∧ ∀ y_l0 ∈ l0, y_l0.size ≤ 140737488351232) → ∃ k, forebearlaw05_DiffSelf.f k l0 = some true
theorem forebearlaw05_DiffSelf.walk (P : forebearlaw05_DiffSelf.Pure) (l0 : List ByteArray) (A0 : Option Addr) (c0 : Nat) (w : World) (g0 : (l0.length * 16 ≤ 140737488351232 ∧ l0.length ≤ 9223372036854775807 ∧ ∀ y_l0 ∈ l0, y_l0.size ≤ 140737488351232)) (hc0 : l0.length ≤ c0) (hr0 : Kd.C Kd.string w A0 l0.length l0) :
  Calls Try.prog 7 #[.slice A0 l0.length c0] w fun e w' => e = .returned (.bool true) ∧ Below w.heap.size w w' := by
 obtain ⟨k, h⟩ := P l0 g0
 refine (forebearlaw05_DiffSelf.calls k _ _ l0 true w hr0 hc0 h).mono ?_
 rintro e w' ⟨rfl, hd⟩
 exact ⟨rfl, hd⟩

end Go.Proofs.Ythigjlahanejjaa.MD

/- Laid by this claim's own program (myprint) out of the translation: functions that the laws of the group A reach, each as a plain function, with the proof that the Go code comes to it. No condition. -/
import Derived.Test.YtgmlhcjcaebfgaaMAx0
import Derived.Test.YtgmlhcjcaebfgaaMAx11
import Derived.Test.YtgmlhcjcaebfgaaMAx12
import Derived.Test.YtgmlhcjcaebfgaaMAx16
import Derived.Test.YtgmlhcjcaebfgaaMAx17
namespace Go.Proofs.Ytgmlhcjcaebfgaa.MA
open Go.Proofs.Ytgmlhcjcaebfgaa.Opening
open Go.RowKit Go.Proofs.YtgmlhcjcaebfgaaW.PrintWords Go.Proofs.YtgmlhcjcaebfgaaW.PrintLast Go.Proofs.YtgmlhcjcaebfgaaW.PrintMore
attribute [local go_sem] max2_int min2_int max_two min_two max_three min_three max_four min_four   -- for this text's walks alone
set_option linter.unusedVariables false
set_option linter.unusedSimpArgs false

/-! ### forebearlaw07_FrameOpens: function 12 -/
mutual
def forebearlaw07_FrameOpens.j0 : Nat → List Int → List Int → Bool → Int → List Int → Option (Bool)
 | 0, _, _, _, _, _ => none
 | k + 1, x0, x3, x60, x328000, x328001 => if x60 = true then (some false) else ((frame_Cut.f k x3).bind fun bt333 => ((forebearref07_Cut.f k (strOfNums x0)).bind fun bt338 => ((forebearlaw07_Same.f k bt333.1 bt338.1).bind fun t343 => (if t343 = true then (if bt333.2.1 = bt338.2.1 then (forebearlaw07_FrameOpens.j1 k x0 x3 bt333.1 bt338.1 (bt333.2.2 != bt338.2.2) x328000 x328001) else (forebearlaw07_FrameOpens.j1 k x0 x3 bt333.1 bt338.1 true x328000 x328001)) else (forebearlaw07_FrameOpens.j1 k x0 x3 bt333.1 bt338.1 true x328000 x328001)))))
def forebearlaw07_FrameOpens.j1 : Nat → List Int → List Int → List (S47) → List (S76) → Bool → Int → List Int → Option (Bool)
 | 0, _, _, _, _, _, _, _ => none
 | k + 1, x0, x3, x10, x13, x87, x328000, x328001 => if x87 = true then (some false) else (forebearlaw07_FrameOpens.l0 k x0 x3 x10 x13 0 x328000 x328001)
def forebearlaw07_FrameOpens.l0 : Nat → List Int → List Int → List (S47) → List (S76) → Int → Int → List Int → Option (Bool)
 | 0, _, _, _, _, _, _, _ => none
 | k + 1, x0, x3, x10, x13, x16, x328000, x328001 => if x16 < (x328001.length : Int) then (if 0 ≤ x16 then (forebearlaw07_FrameOpens.l0 k x0 x3 x10 x13 (wrap64 (x16 + 1)) x328000 (x328001.set (x16 : Int).toNat (((rd x328001 x16) + 1) % 256))) else (none)) else (if (strOfNums x3).toList = (strOfNums x0).toList then ((forebearlaw07_Same.f k x10 x13).bind fun t346 => (some t346)) else (some false))
end
def forebearlaw07_FrameOpens.f (k : Nat) (l0 : List Int) : Option (Bool) := (forebearlaw07_awake.f k).bind fun t314 => (if t314 = true then (if (l0.length : Int) > 100000 then (some true) else ((some (([] : List Int) : List Int)).bind fun y315 => (if y315.length + l0.length < 140737488355328 then ((some (y315 ++ l0 : List Int)).bind fun y318 => ((frame_Open.f y318).bind fun bt321 => ((forebearref07_Open.f k (strOfNums l0)).bind fun bt328 => (if bt321.1 = bt328.1 then (if (strOfNums bt321.2.1).toList = bt328.2.1.toList then (if bt321.2.2.1 = bt328.2.2.1 then (forebearlaw07_FrameOpens.j0 k l0 y318 (bt321.2.2.2 != bt328.2.2.2) bt321.1 bt321.2.1) else (forebearlaw07_FrameOpens.j0 k l0 y318 true bt321.1 bt321.2.1)) else (forebearlaw07_FrameOpens.j0 k l0 y318 true bt321.1 bt321.2.1)) else (forebearlaw07_FrameOpens.j0 k l0 y318 true bt321.1 bt321.2.1))))) else (none)))) else (some false))
theorem forebearlaw07_FrameOpens.mono_l : ∀ k, (∀ y0 y1 y2 y3 y4, LeO (forebearlaw07_FrameOpens.j0 k y0 y1 y2 y3 y4) (forebearlaw07_FrameOpens.j0 (k + 1) y0 y1 y2 y3 y4)) ∧ (∀ y0 y1 y2 y3 y4 y5 y6, LeO (forebearlaw07_FrameOpens.j1 k y0 y1 y2 y3 y4 y5 y6) (forebearlaw07_FrameOpens.j1 (k + 1) y0 y1 y2 y3 y4 y5 y6)) ∧ (∀ y0 y1 y2 y3 y4 y5 y6, LeO (forebearlaw07_FrameOpens.l0 k y0 y1 y2 y3 y4 y5 y6) (forebearlaw07_FrameOpens.l0 (k + 1) y0 y1 y2 y3 y4 y5 y6))
 | 0 => ⟨fun _ _ _ _ _ r h => by simp [forebearlaw07_FrameOpens.j0] at h, fun _ _ _ _ _ _ _ r h => by simp [forebearlaw07_FrameOpens.j1] at h, fun _ _ _ _ _ _ _ r h => by simp [forebearlaw07_FrameOpens.l0] at h⟩
 | k + 1 => by
  obtain ⟨ih0, ih1, ih2⟩ := forebearlaw07_FrameOpens.mono_l k
  refine ⟨?_, ?_, ?_⟩
  ·intro y0 y1 y2 y3 y4
   unfold forebearlaw07_FrameOpens.j0
   repeat' first
   | (with_reducible exact ih0 _ _ _ _ _)
   | (with_reducible exact ih1 _ _ _ _ _ _ _)
   | (with_reducible exact ih2 _ _ _ _ _ _ _)
   | (with_reducible exact forebearlaw07_Same.mono _ _ _)
   | (with_reducible exact forebearlaw07_awake.mono _)
   | (with_reducible exact forebearref07_Cut.mono _ _)
   | (with_reducible exact forebearref07_Open.mono _ _)
   | (with_reducible exact frame_Cut.mono _ _)
   | (with_reducible exact LeO.refl _)
   | (with_reducible exact LeO.none _)
   | (with_reducible refine LeO.ite ?_ ?_)
   | (with_reducible refine LeO.bind ?_ (fun _ => ?_))
   | exact ih0 _ _ _ _ _
   | exact ih1 _ _ _ _ _ _ _
   | exact ih2 _ _ _ _ _ _ _
   | exact forebearlaw07_Same.mono _ _ _
   | exact forebearlaw07_awake.mono _
   | exact forebearref07_Cut.mono _ _
   | exact forebearref07_Open.mono _ _
   | exact frame_Cut.mono _ _
   | exact LeO.none _
   | refine LeO.ite ?_ ?_
   | refine LeO.bind ?_ (fun _ => ?_)
  ·intro y0 y1 y2 y3 y4 y5 y6
   unfold forebearlaw07_FrameOpens.j1
   repeat' first
   | (with_reducible exact ih0 _ _ _ _ _)
   | (with_reducible exact ih1 _ _ _ _ _ _ _)
   | (with_reducible exact ih2 _ _ _ _ _ _ _)
   | (with_reducible exact forebearlaw07_Same.mono _ _ _)
   | (with_reducible exact forebearlaw07_awake.mono _)
   | (with_reducible exact forebearref07_Cut.mono _ _)
   | (with_reducible exact forebearref07_Open.mono _ _)
   | (with_reducible exact frame_Cut.mono _ _)
   | (with_reducible exact LeO.refl _)
   | (with_reducible exact LeO.none _)
   | (with_reducible refine LeO.ite ?_ ?_)
   | (with_reducible refine LeO.bind ?_ (fun _ => ?_))
   | exact ih0 _ _ _ _ _
   | exact ih1 _ _ _ _ _ _ _
   | exact ih2 _ _ _ _ _ _ _
   | exact forebearlaw07_Same.mono _ _ _
   | exact forebearlaw07_awake.mono _
   | exact forebearref07_Cut.mono _ _
   | exact forebearref07_Open.mono _ _
   | exact frame_Cut.mono _ _
   | exact LeO.none _
   | refine LeO.ite ?_ ?_
   | refine LeO.bind ?_ (fun _ => ?_)
  ·intro y0 y1 y2 y3 y4 y5 y6
   unfold forebearlaw07_FrameOpens.l0
   repeat' first
   | (with_reducible exact ih0 _ _ _ _ _)
   | (with_reducible exact ih1 _ _ _ _ _ _ _)
   | (with_reducible exact ih2 _ _ _ _ _ _ _)
   | (with_reducible exact forebearlaw07_Same.mono _ _ _)
   | (with_reducible exact forebearlaw07_awake.mono _)
   | (with_reducible exact forebearref07_Cut.mono _ _)
   | (with_reducible exact forebearref07_Open.mono _ _)
   | (with_reducible exact frame_Cut.mono _ _)
   | (with_reducible exact LeO.refl _)
   | (with_reducible exact LeO.none _)
   | (with_reducible refine LeO.ite ?_ ?_)
   | (with_reducible refine LeO.bind ?_ (fun _ => ?_))
   | exact ih0 _ _ _ _ _
   | exact ih1 _ _ _ _ _ _ _
   | exact ih2 _ _ _ _ _ _ _
   | exact forebearlaw07_Same.mono _ _ _
   | exact forebearlaw07_awake.mono _
   | exact forebearref07_Cut.mono _ _
   | exact forebearref07_Open.mono _ _
   | exact frame_Cut.mono _ _
   | exact LeO.none _
   | refine LeO.ite ?_ ?_
   | refine LeO.bind ?_ (fun _ => ?_)
theorem forebearlaw07_FrameOpens.mono : ∀ a0 k, LeO (forebearlaw07_FrameOpens.f k a0) (forebearlaw07_FrameOpens.f (k + 1) a0) := by
 intro a0 k
 obtain ⟨ih0, ih1, ih2⟩ := forebearlaw07_FrameOpens.mono_l k
 unfold forebearlaw07_FrameOpens.f
 repeat' first
   | (with_reducible exact ih0 _ _ _ _ _)
   | (with_reducible exact ih1 _ _ _ _ _ _ _)
   | (with_reducible exact ih2 _ _ _ _ _ _ _)
   | (with_reducible exact forebearlaw07_Same.mono _ _ _)
   | (with_reducible exact forebearlaw07_awake.mono _)
   | (with_reducible exact forebearref07_Cut.mono _ _)
   | (with_reducible exact forebearref07_Open.mono _ _)
   | (with_reducible exact frame_Cut.mono _ _)
   | (with_reducible exact LeO.refl _)
   | (with_reducible exact LeO.none _)
   | (with_reducible refine LeO.ite ?_ ?_)
   | (with_reducible refine LeO.bind ?_ (fun _ => ?_))
   | exact ih0 _ _ _ _ _
   | exact ih1 _ _ _ _ _ _ _
   | exact ih2 _ _ _ _ _ _ _
   | exact forebearlaw07_Same.mono _ _ _
   | exact forebearlaw07_awake.mono _
   | exact forebearref07_Cut.mono _ _
   | exact forebearref07_Open.mono _ _
   | exact frame_Cut.mono _ _
   | exact LeO.none _
   | refine LeO.ite ?_ ?_
   | refine LeO.bind ?_ (fun _ => ?_)
set_option maxHeartbeats 8000000 in
set_option maxRecDepth 100000 in
theorem forebearlaw07_FrameOpens.calls (k : Nat) (A0 : Option Addr) (c0 : Nat) (l0 : List Int) (r : Bool) (w : World) (hr0 : Kd.C (Kd.int .u8) w A0 l0.length l0) (hc0 : l0.length ≤ c0) (h : forebearlaw07_FrameOpens.f k l0 = some r) :
  Calls Try.prog 12 #[.slice A0 l0.length c0] w fun e w' => e = .returned (.bool r) ∧ Below w.heap.size w w' := by
 have hu47 := Try.underlying47
 have hu76 := Try.underlying76
 have HR0 := Aside0.mk hr0
 have HC0 := Aside0.mk hc0
 clear hr0 hc0
 have HB := Aside0.mk (Below.refl w.heap.size w)
 have H : ((forebearlaw07_awake.f k).bind fun t314 => (if t314 = true then (if (l0.length : Int) > 100000 then (some true) else ((some (([] : List Int) : List Int)).bind fun y315 => (if y315.length + l0.length < 140737488355328 then ((some (y315 ++ l0 : List Int)).bind fun y318 => ((frame_Open.f y318).bind fun bt321 => ((forebearref07_Open.f k (strOfNums l0)).bind fun bt328 => (if bt321.1 = bt328.1 then (if (strOfNums bt321.2.1).toList = bt328.2.1.toList then (if bt321.2.2.1 = bt328.2.2.1 then (forebearlaw07_FrameOpens.j0 k l0 y318 (bt321.2.2.2 != bt328.2.2.2) bt321.1 bt321.2.1) else (forebearlaw07_FrameOpens.j0 k l0 y318 true bt321.1 bt321.2.1)) else (forebearlaw07_FrameOpens.j0 k l0 y318 true bt321.1 bt321.2.1)) else (forebearlaw07_FrameOpens.j0 k l0 y318 true bt321.1 bt321.2.1))))) else (none)))) else (some false))) = some r := h
 clear h
 replace H := Option.bind_eq_some_iff.mp H
 obtain ⟨t314, A20, H⟩ := H
 replace H : (if t314 = true then (if (l0.length : Int) > 100000 then (some true) else ((some (([] : List Int) : List Int)).bind fun y315 => (if y315.length + l0.length < 140737488355328 then ((some (y315 ++ l0 : List Int)).bind fun y318 => ((frame_Open.f y318).bind fun bt321 => ((forebearref07_Open.f k (strOfNums l0)).bind fun bt328 => (if bt321.1 = bt328.1 then (if (strOfNums bt321.2.1).toList = bt328.2.1.toList then (if bt321.2.2.1 = bt328.2.2.1 then (forebearlaw07_FrameOpens.j0 k l0 y318 (bt321.2.2.2 != bt328.2.2.2) bt321.1 bt321.2.1) else (forebearlaw07_FrameOpens.j0 k l0 y318 true bt321.1 bt321.2.1)) else (forebearlaw07_FrameOpens.j0 k l0 y318 true bt321.1 bt321.2.1)) else (forebearlaw07_FrameOpens.j0 k l0 y318 true bt321.1 bt321.2.1))))) else (none)))) else (some false)) = some r := H
 have A2 := Aside0.mk A20
 clear A20
 by_cases c3 : t314 = true
 ·subst c3
  have H1 : (if (l0.length : Int) > 100000 then (some true) else ((some (([] : List Int) : List Int)).bind fun y315 => (if y315.length + l0.length < 140737488355328 then ((some (y315 ++ l0 : List Int)).bind fun y318 => ((frame_Open.f y318).bind fun bt321 => ((forebearref07_Open.f k (strOfNums l0)).bind fun bt328 => (if bt321.1 = bt328.1 then (if (strOfNums bt321.2.1).toList = bt328.2.1.toList then (if bt321.2.2.1 = bt328.2.2.1 then (forebearlaw07_FrameOpens.j0 k l0 y318 (bt321.2.2.2 != bt328.2.2.2) bt321.1 bt321.2.1) else (forebearlaw07_FrameOpens.j0 k l0 y318 true bt321.1 bt321.2.1)) else (forebearlaw07_FrameOpens.j0 k l0 y318 true bt321.1 bt321.2.1)) else (forebearlaw07_FrameOpens.j0 k l0 y318 true bt321.1 bt321.2.1))))) else (none)))) = some r := by rw [if_pos rfl] at H; exact H
  clear H
  have H := H1
  clear H1
  by_cases c4 : (l0.length : Int) > 100000
  ·rw [if_pos c4] at H
   have c4b0 : decide (100000 < (l0.length : Int)) = true := decide_eq_true c4
   have c4b1 : decide (100000 < l0.length) = true := decide_eq_true (by omega)
   clear c4
   obtain rfl := Option.some.inj H
   go_enter Try.func12, Try.ntmps12
   go_wp2_with (first | ((with_reducible refine gate_callee (f := 23) rfl ?_); refine goesL_ (some 17) rfl rfl Try.func23 (by kernel_rfl) rfl #[] rfl (by (try simp only [List.map_toArray, List.map_cons, List.map_nil]); first | done | rfl | (simp only [List.length_drop, List.length_take]; rfl)) ?_; (with_reducible refine (forebearlaw07_awake.calls k  true _ A2.out).mono ?_); rintro e w5 ⟨rfl, hb⟩; refine ⟨_, rfl, ?_⟩; have n0_ := Aside0.mk (below_step (by repeat (first | (with_reducible first | exact HB.out | apply below_alloc | apply pw_below_drewN | apply below_drew1) | exact HB.out)) hb); clear HB; have HB := n0_; clear n0_; (try clear hb); (try clear hb2); (try clear hk); (try clear hi)))
   go_ret
   exact ⟨by first | rfl | (simp [errW_none, errW_some] <;> rfl) | (simp [*, errW_none, errW_some] <;> rfl), by repeat (first | (with_reducible first | exact HB.out | apply below_alloc | apply pw_below_drewN | apply below_drew1) | exact HB.out)⟩
  ·rw [if_neg c4] at H
   have c4b0 : decide (100000 < (l0.length : Int)) = false := decide_eq_false c4
   have c4b1 : decide (100000 < l0.length) = false := decide_eq_false (by omega)
   clear c4
   obtain ⟨y315, hy315⟩ : ∃ y_ : List Int, y_ = (([] : List Int)) := ⟨_, rfl⟩
   replace H : (if y315.length + l0.length < 140737488355328 then ((some (y315 ++ l0 : List Int)).bind fun y318 => ((frame_Open.f y318).bind fun bt321 => ((forebearref07_Open.f k (strOfNums l0)).bind fun bt328 => (if bt321.1 = bt328.1 then (if (strOfNums bt321.2.1).toList = bt328.2.1.toList then (if bt321.2.2.1 = bt328.2.2.1 then (forebearlaw07_FrameOpens.j0 k l0 y318 (bt321.2.2.2 != bt328.2.2.2) bt321.1 bt321.2.1) else (forebearlaw07_FrameOpens.j0 k l0 y318 true bt321.1 bt321.2.1)) else (forebearlaw07_FrameOpens.j0 k l0 y318 true bt321.1 bt321.2.1)) else (forebearlaw07_FrameOpens.j0 k l0 y318 true bt321.1 bt321.2.1))))) else (none)) = some r := by first | (rw [hy315]; with_reducible exact H) | (have H2_ := (Option.bind_some _ _).symm.trans H; rw [hy315]; with_reducible exact H2_) | (have H2_ := (Option.bind_some _ _).symm.trans H; with_reducible exact H2_) | with_reducible exact H | (rw [hy315]; exact H) | exact H
   have Ny315 := Aside0.mk hy315
   clear hy315
   by_cases c6 : y315.length + l0.length < 140737488355328
   ·rw [if_pos c6] at H
    have LMc6 := Aside0.mk c6
    clear c6
    obtain ⟨y318, hy318⟩ : ∃ y_ : List Int, y_ = (y315 ++ l0) := ⟨_, rfl⟩
    replace H : ((frame_Open.f y318).bind fun bt321 => ((forebearref07_Open.f k (strOfNums l0)).bind fun bt328 => (if bt321.1 = bt328.1 then (if (strOfNums bt321.2.1).toList = bt328.2.1.toList then (if bt321.2.2.1 = bt328.2.2.1 then (forebearlaw07_FrameOpens.j0 k l0 y318 (bt321.2.2.2 != bt328.2.2.2) bt321.1 bt321.2.1) else (forebearlaw07_FrameOpens.j0 k l0 y318 true bt321.1 bt321.2.1)) else (forebearlaw07_FrameOpens.j0 k l0 y318 true bt321.1 bt321.2.1)) else (forebearlaw07_FrameOpens.j0 k l0 y318 true bt321.1 bt321.2.1)))) = some r := by first | (rw [hy318]; with_reducible exact H) | (have H2_ := (Option.bind_some _ _).symm.trans H; rw [hy318]; with_reducible exact H2_) | (have H2_ := (Option.bind_some _ _).symm.trans H; with_reducible exact H2_) | with_reducible exact H | (rw [hy318]; exact H) | exact H
    have Ny318 := Aside0.mk hy318
    clear hy318
    replace H := Option.bind_eq_some_iff.mp H
    obtain ⟨⟨t321, t322, t325, t326⟩, A70, H⟩ := H
    replace H : ((forebearref07_Open.f k (strOfNums l0)).bind fun bt328 => (if t321 = bt328.1 then (if (strOfNums t322).toList = bt328.2.1.toList then (if t325 = bt328.2.2.1 then (forebearlaw07_FrameOpens.j0 k l0 y318 (t326 != bt328.2.2.2) t321 t322) else (forebearlaw07_FrameOpens.j0 k l0 y318 true t321 t322)) else (forebearlaw07_FrameOpens.j0 k l0 y318 true t321 t322)) else (forebearlaw07_FrameOpens.j0 k l0 y318 true t321 t322))) = some r := H
    have A7 := Aside0.mk A70
    clear A70
    replace H := Option.bind_eq_some_iff.mp H
    obtain ⟨⟨t328, t329, t330, t331⟩, A80, H⟩ := H
    replace H : (if t321 = t328 then (if (strOfNums t322).toList = t329.toList then (if t325 = t330 then (forebearlaw07_FrameOpens.j0 k l0 y318 (t326 != t331) t321 t322) else (forebearlaw07_FrameOpens.j0 k l0 y318 true t321 t322)) else (forebearlaw07_FrameOpens.j0 k l0 y318 true t321 t322)) else (forebearlaw07_FrameOpens.j0 k l0 y318 true t321 t322)) = some r := H
    have A8 := Aside0.mk A80
    clear A80
    have HC9 := Aside0.mk H
    clear H
    go_enter Try.func12, Try.ntmps12
    go_upto_region 8 with (first | ((with_reducible refine gate_callee (f := 23) rfl ?_); refine goesL_ (some 17) rfl rfl Try.func23 (by kernel_rfl) rfl #[] rfl (by (try simp only [List.map_toArray, List.map_cons, List.map_nil]); first | done | rfl | (simp only [List.length_drop, List.length_take]; rfl)) ?_; (with_reducible refine (forebearlaw07_awake.calls k  true _ A2.out).mono ?_); rintro e w10 ⟨rfl, hb⟩; refine ⟨_, rfl, ?_⟩; have n0_ := Aside0.mk (below_step (by repeat (first | (with_reducible first | exact HB.out | apply below_alloc | apply pw_below_drewN | apply below_drew1) | exact HB.out)) hb); clear HB; have HB := n0_; clear n0_; (try clear hb); (try clear hb2); (try clear hk); (try clear hi)) | ((with_reducible refine gate_dst (N := 22) rfl ?_); refine Kd.R_lit (Kd.int .u8) _ 5 ?hg (N := 22) ?hd (xs := ([] : List Int)) (inner := []) (ok := fun _ => True) (okp := fun _ => True) ?hr ?hp (fun _ hk => hk) trivial (Below.refl _ _) (Nat.le_refl _) (by simp) ?_; (case hd => rfl); (case hg => rfl); (case hr => first | (go_simp; done) | (go_simp; rfl)); (case hp => exact (Reps.none _ _)); intro v316 w11 ho12 hb hg_ hnew_; clear hg_ hnew_; (first | rw [← Ny315.out] at ho12 | (simp only [Int.reduceToNat] at ho12; rw [← Ny315.out] at ho12)); have n0_ := Aside0.mk (Kd.R_lower ho12 (below_size (by repeat (first | (with_reducible first | exact HB.out | apply below_alloc | apply pw_below_drewN | apply below_drew1) | exact HB.out)))); have n1_ := Aside0.mk (below_step (by repeat (first | (with_reducible first | exact HB.out | apply below_alloc | apply pw_below_drewN | apply below_drew1) | exact HB.out)) hb); clear HB; have HO317 := n0_; have HB := n1_; clear n0_ n1_; clear hb ho12) | ((with_reducible refine gate_builtin (b := .append) (xs := #[.tmp 22, .tmp 23]) rfl ?_); at_builtin; refine Kd.R_append_rows (Kd.int .u8) (w0 := w) w.heap.size rfl (.tmp 22) (.tmp 23) 45 5 (.int .u8 0) 1 rfl Try.underlying45 info5 rfl (by decide) (by omega) v316 y315 l0 _ _ _ (fun _ => True) (fun _ => False) rfl rfl ?aO ?aR (fun _ _ h => h) (fun _ h => h.elim) ?aF ?aB ?aS ?aL ?_; (case aR => repeat (first | exact (Kd.C_below HR0.out HB.out) | (with_reducible refine Kd.C_alloc ?_ _) | (with_reducible refine Kd.C_drewN ?_ _) | (with_reducible refine Kd.C_drew ?_))); (case aB => exact (by repeat (first | (with_reducible first | exact HB.out | apply below_alloc | apply pw_below_drewN | apply below_drew1) | exact HB.out))); (case aF => exact (fun _ _ => trivial)); (case aO => exact (by (with_reducible repeat (first | apply Kd.R_alloc | apply Kd.R_drewN | apply Kd.R_drew)); exact HO317.out)); (case aS => exact (below_size (by repeat (first | (with_reducible first | exact HB.out | apply below_alloc | apply pw_below_drewN | apply below_drew1) | exact HB.out)))); (case aL => have := LMc6.out; omega); intro v319 w13 ho hb hg hat; rw [← Ny318.out] at ho; have n0_ := Aside0.mk (hb); have n1_ := Aside0.mk (ho); clear HB; clear HO317; have HB := n0_; have HO320 := n1_; clear n0_ n1_; clear ho hb hg hat; obtain ⟨Ao14, co14, eo14⟩ := Kd.R_slice HO320.out; subst eo14) | ((with_reducible refine gate_callee (f := 25) rfl ?_); refine goesL_ (some 27) rfl rfl Try.func25 (by kernel_rfl) rfl #[.slice Ao14 y318.length co14] rfl (by (try simp only [List.map_toArray, List.map_cons, List.map_nil]); first | done | rfl | (simp only [List.length_drop, List.length_take]; rfl)) ?_; (with_reducible refine (frame_Open.calls (fun k_ => some k_ = (.slice Ao14 y318.length co14 : Value).ownBlock) _ _ y318 t321 t322 t325 t326 _ ?side1 A7.out).mono ?_); (case side1 => exact Kd.R_V (Kd.R_tight rfl (HO320.out))); rintro e w15 ⟨v323, rfl, ho0, hb⟩; refine ⟨_, rfl, ?_⟩; have n0_ := Aside0.mk (Kd.R_elder' (by (with_reducible repeat (first | apply Kd.R_alloc | apply Kd.R_drewN | apply Kd.R_drew)); exact HO320.out) (Kd.R_base ho0) hb); have n1_ := Aside0.mk (Kd.R_lower (Kd.R_new' (Kd.R_mono (ok' := fun k_ => True) ho0 (fun _ hk_ => trivial)) (Kd.R_lt (by (with_reducible repeat (first | apply Kd.R_alloc | apply Kd.R_drewN | apply Kd.R_drew)); exact HO320.out))) (below_size (by repeat (first | (with_reducible first | exact HB.out | apply below_alloc | apply pw_below_drewN | apply below_drew1) | exact HB.out)))); have n2_ := Aside0.mk (below_step (by repeat (first | (with_reducible first | exact HB.out | apply below_alloc | apply pw_below_drewN | apply below_drew1) | exact HB.out)) hb); clear HO320; clear HB; have HO320 := n0_; have HO324 := n1_; have HB := n2_; clear n0_ n1_ n2_; (try clear hb); (try clear hb2); (try clear hk); (try clear hi); (try clear ho0)) | ((with_reducible refine gate_dst (N := 4) rfl ?_); refine box_event ?hg (N := 4) ?hd (cs := #[.int .i64 0, .slice none 0 0]) (t := 47) ?hr ?_; (case hd => rfl); (case hg => rfl); (case hr => first | (go_simp; done) | (go_simp; rfl)); intro gb327 hg w16 hbox hb; have n0_ := Aside0.mk (Kd.R_below (by (with_reducible repeat (first | apply Kd.R_alloc | apply Kd.R_drewN | apply Kd.R_drew)); exact HO320.out) hb); have n1_ := Aside0.mk (Kd.R_below (by (with_reducible repeat (first | apply Kd.R_alloc | apply Kd.R_drewN | apply Kd.R_drew)); exact HO324.out) hb); have n2_ := Aside0.mk (below_step (by repeat (first | (with_reducible first | exact HB.out | apply below_alloc | apply pw_below_drewN | apply below_drew1) | exact HB.out)) hb); have n3_ := Aside0.mk (hbox); have n4_ := Aside0.mk ((by rw [hg]; exact (below_size (by repeat (first | (with_reducible first | exact HB.out | apply below_alloc | apply pw_below_drewN | apply below_drew1) | exact HB.out))) : w.heap.size ≤ gb327)); have n5_ := Aside0.mk ((by rw [hg]; exact (below_size (by repeat (first | (with_reducible first | exact HB.out | apply below_alloc | apply pw_below_drewN | apply below_drew1) | exact HB.out))) : w.heap.size ≤ gb327)); clear HO320; clear HO324; clear HB; have HO320 := n0_; have HO324 := n1_; have HB := n2_; have BK327 := n3_; have GW327 := n4_; have GE327 := n5_; clear n0_ n1_ n2_ n3_ n4_ n5_; clear hb hbox hg; have hcz17_0 : w16.cell? ⟨gb327, 0, none⟩ = some (.int .i64 0) := (blk_cell BK327.out 0).trans rfl; have hcz17_1 : w16.cell? ⟨gb327, 1, none⟩ = some (.slice none 0 0) := (blk_cell BK327.out 1).trans rfl; have hfz17_0 := blk_frozen BK327.out 0; have hfz17_1 := blk_frozen BK327.out 1; obtain ⟨Ao18, co18, eo18⟩ := Kd.R_slice HO324.out; subst eo18; have hcv19 : (convert 45 9 (.slice A0 l0.length c0)).run Try.prog ((w16.setCell ⟨gb327, 0, none⟩ (.int .i64 t321)).setCell ⟨gb327, 1, none⟩ (.slice Ao18 t322.length co18)) = .ok (.string (strOfNums l0)) ((w16.setCell ⟨gb327, 0, none⟩ (.int .i64 t321)).setCell ⟨gb327, 1, none⟩ (.slice Ao18 t322.length co18)) := Kd.C_string (P := Try.prog) (A := A0) (c := c0) Try.underlying45 Try.underlying5 Try.underlying9 (Kd.C_below HR0.out (by repeat (first | (with_reducible first | exact HB.out | apply below_alloc | apply pw_below_drewN | apply below_drew1 | refine below_set ?_ GE327.out) | exact HB.out)))) | ((with_reducible refine gate_callee (f := 39) rfl ?_); refine goesL_ (some 34) rfl rfl Try.func39 (by kernel_rfl) rfl #[.string (strOfNums l0)] rfl (by (try simp only [List.map_toArray, List.map_cons, List.map_nil]); first | done | rfl | (simp only [List.length_drop, List.length_take]; rfl)) ?_; (with_reducible refine (forebearref07_Open.calls k (strOfNums l0) t328 t329 t330 t331 _ A8.out).mono ?_); rintro e w20 ⟨rfl, hb⟩; refine ⟨_, rfl, ?_⟩; have n0_ := Aside0.mk (Kd.R_below (by (with_reducible repeat (first | apply Kd.R_alloc | apply Kd.R_drewN | apply Kd.R_drew)); exact (Kd.R_mono (Kd.R_far (p := ⟨gb327, 1, none⟩) (Kd.R_far (p := ⟨gb327, 0, none⟩) (Kd.R_types HO320.out BK327.out (by decide)) (fun _ hk => hk.2) (.int .i64 t321)) (fun _ hk => hk.2) (.slice Ao18 t322.length co18)) (fun _ h_ => h_.1))) hb); have n1_ := Aside0.mk (Kd.R_below (by (with_reducible repeat (first | apply Kd.R_alloc | apply Kd.R_drewN | apply Kd.R_drew)); exact (Kd.R_mono (Kd.R_far (p := ⟨gb327, 1, none⟩) (Kd.R_far (p := ⟨gb327, 0, none⟩) (Kd.R_types HO324.out BK327.out (by decide)) (fun _ hk => hk.2) (.int .i64 t321)) (fun _ hk => hk.2) (.slice Ao18 t322.length co18)) (fun _ h_ => h_.1))) hb); have n2_ := Aside0.mk (blk_below (g := gb327) (o := .cells #[.int .i64 t321, .slice Ao18 t322.length co18] 47 (0, 0)) (by (with_reducible repeat (first | refine blk_drewN ?_ _ | refine blk_drew ?_ | refine blk_alloc ?_ _)); refine blk_put (cs := #[.int .i64 t321, .slice none 0 0]) ?_ 1 _ rfl; (with_reducible repeat (first | refine blk_drewN ?_ _ | refine blk_drew ?_ | refine blk_alloc ?_ _)); refine blk_put (cs := #[.int .i64 0, .slice none 0 0]) ?_ 0 _ rfl; (with_reducible repeat (first | refine blk_drewN ?_ _ | refine blk_drew ?_ | refine blk_alloc ?_ _)); exact BK327.out) hb); have n3_ := Aside0.mk (below_step (by repeat (first | (with_reducible first | exact HB.out | apply below_alloc | apply pw_below_drewN | apply below_drew1 | refine below_set ?_ GE327.out) | exact HB.out)) hb); clear HO320; clear HO324; clear BK327; clear HB; have HO320 := n0_; have HO324 := n1_; have BK327 := n2_; have HB := n3_; clear n0_ n1_ n2_ n3_; (try clear hb); (try clear hb2); (try clear hk); (try clear hi)) | ((with_reducible refine gate_dst (N := 7) rfl ?_); refine box_event ?hg (N := 7) ?hd (cs := #[.int .i64 0, .string (⟨#[]⟩ : ByteArray)]) (t := 76) ?hr ?_; (case hd => rfl); (case hg => rfl); (case hr => first | (go_simp; done) | (go_simp; rfl)); intro gb332 hg w21 hbox hb; have n0_ := Aside0.mk (Kd.R_below (by (with_reducible repeat (first | apply Kd.R_alloc | apply Kd.R_drewN | apply Kd.R_drew)); exact HO320.out) hb); have n1_ := Aside0.mk (Kd.R_below (by (with_reducible repeat (first | apply Kd.R_alloc | apply Kd.R_drewN | apply Kd.R_drew)); exact HO324.out) hb); have n2_ := Aside0.mk (blk_below (g := gb327) (o := .cells #[.int .i64 t321, .slice Ao18 t322.length co18] 47 (0, 0)) (by (with_reducible repeat (first | refine blk_drewN ?_ _ | refine blk_drew ?_ | refine blk_alloc ?_ _)); exact BK327.out) hb); have n3_ := Aside0.mk (below_step (by repeat (first | (with_reducible first | exact HB.out | apply below_alloc | apply pw_below_drewN | apply below_drew1 | refine below_set ?_ GE327.out) | exact HB.out)) hb); have n4_ := Aside0.mk (hbox); have n5_ := Aside0.mk ((by rw [hg]; exact (below_size (by repeat (first | (with_reducible first | exact HB.out | apply below_alloc | apply pw_below_drewN | apply below_drew1 | refine below_set ?_ GE327.out) | exact HB.out))) : w.heap.size ≤ gb332)); have n6_ := Aside0.mk ((by rw [hg]; exact (below_size (by repeat (first | (with_reducible first | exact HB.out | apply below_alloc | apply pw_below_drewN | apply below_drew1 | refine below_set ?_ GE327.out) | exact HB.out))) : w.heap.size ≤ gb332)); have n7_ := Aside0.mk ((by rw [hg]; exact Nat.ne_of_lt (blk_lt (g := gb327) (o := .cells #[.int .i64 t321, .slice Ao18 t322.length co18] 47 (0, 0)) (by (with_reducible repeat (first | refine blk_drewN ?_ _ | refine blk_drew ?_ | refine blk_alloc ?_ _)); exact BK327.out)) : gb327 ≠ gb332)); have n8_ := Aside0.mk ((by rw [hg]; exact Nat.ne_of_gt (blk_lt (g := gb327) (o := .cells #[.int .i64 t321, .slice Ao18 t322.length co18] 47 (0, 0)) (by (with_reducible repeat (first | refine blk_drewN ?_ _ | refine blk_drew ?_ | refine blk_alloc ?_ _)); exact BK327.out)) : gb332 ≠ gb327)); clear HO320; clear HO324; clear BK327; clear HB; have HO320 := n0_; have HO324 := n1_; have BK327 := n2_; have HB := n3_; have BK332 := n4_; have GW332 := n5_; have GE332 := n6_; have NB327_332 := n7_; have NB332_327 := n8_; clear n0_ n1_ n2_ n3_ n4_ n5_ n6_ n7_ n8_; clear hb hbox hg; have hnb22 := NB332_327.out; have hnc22 := NB327_332.out; have hcz23_0 : w21.cell? ⟨gb332, 0, none⟩ = some (.int .i64 0) := (blk_cell BK332.out 0).trans rfl; have hcz23_1 : w21.cell? ⟨gb332, 1, none⟩ = some (.string (⟨#[]⟩ : ByteArray)) := (blk_cell BK332.out 1).trans rfl; have hfz23_0 := blk_frozen BK332.out 0; have hfz23_1 := blk_frozen BK332.out 1))
    (try simp only [Act.put, List.setIfInBounds_toArray, List.set_cons_zero, List.set_cons_succ])
    go_cut [60] (fun v60 wc => ∃ (kq : Nat) (x60_8 : Bool), v60 = .bool x60_8 ∧ Aside0 (forebearlaw07_FrameOpens.j0 kq l0 y318 x60_8 t321 t322 = some r) ∧ Aside0 (kq ≤ k) ∧ Aside0 (Kd.R (Kd.int .u8) 5 wc w.heap.size (fun k_ => some k_ ≠ ((.slice Ao18 t322.length co18) : Value).ownBlock) (.slice Ao14 y318.length co14) y318) ∧ Aside0 (Kd.R (Kd.int .u8) 5 wc w.heap.size (fun k_ => some k_ ≠ ((.slice Ao14 y318.length co14) : Value).ownBlock) (.slice Ao18 t322.length co18) t322) ∧ Aside0 (wc.heap[gb327]? = some (.cells #[.int .i64 t321, (.slice Ao18 t322.length co18)] 47 (0, 0))) ∧ Aside0 (wc.heap[gb332]? = some (.cells #[.int .i64 t328, .string t329] 76 (0, 0))) ∧ Aside0 (Below w.heap.size w wc))
    case first =>
     have H := HC9.out
     clear HC9
     by_cases c24 : t321 = t328
     ·rw [if_pos c24] at H
      have c24b0 : (t321 == t328) = true := beq_iff_eq.mpr c24
      have c24b1 : (t321 != t328) = false := bne_eq_false_iff_eq.mpr c24
      clear c24
      (first | rw [c24b0] | (simp only [i64_w, i32_w]; rw [c24b0]) | skip)
      by_cases c25 : (strOfNums t322).toList = t329.toList
      ·rw [if_pos c25] at H
       have c25b0 : ((strOfNums t322).toList == t329.toList) = true := beq_iff_eq.mpr c25
       have c25b1 : ((strOfNums t322).toList != t329.toList) = false := bne_eq_false_iff_eq.mpr c25
       clear c25
       by_cases c26 : t325 = t330
       ·rw [if_pos c26] at H
        have c26b0 : (t325 == t330) = true := beq_iff_eq.mpr c26
        have c26b1 : (t325 != t330) = false := bne_eq_false_iff_eq.mpr c26
        clear c26
        have H' := Aside0.mk H
        clear H
        have hnb27 := NB327_332.out
        have hnc27 := NB332_327.out
        have hcz28_0 : w21.cell? ⟨gb327, 0, none⟩ = some (.int .i64 t321) := (blk_cell BK327.out 0).trans rfl
        have hcz28_1 : w21.cell? ⟨gb327, 1, none⟩ = some (.slice Ao18 t322.length co18) := (blk_cell BK327.out 1).trans rfl
        have hfz28_0 := blk_frozen BK327.out 0
        have hfz28_1 := blk_frozen BK327.out 1
        have hcz29_0 : w21.cell? ⟨gb332, 0, none⟩ = some (.int .i64 0) := (blk_cell BK332.out 0).trans rfl
        have hcz29_1 : w21.cell? ⟨gb332, 1, none⟩ = some (.string (⟨#[]⟩ : ByteArray)) := (blk_cell BK332.out 1).trans rfl
        have hfz29_0 := blk_frozen BK332.out 0
        have hfz29_1 := blk_frozen BK332.out 1
        have hcv30 : (convert 45 9 (.slice Ao18 t322.length co18)).run Try.prog ((w21.setCell ⟨gb332, 0, none⟩ (.int .i64 t328)).setCell ⟨gb332, 1, none⟩ (.string t329)) = .ok (.string (strOfNums t322)) ((w21.setCell ⟨gb332, 0, none⟩ (.int .i64 t328)).setCell ⟨gb332, 1, none⟩ (.string t329)) := own_string (P := Try.prog) Try.underlying45 Try.underlying5 Try.underlying9 (Kd.own_of_R (by (with_reducible repeat (first | apply Kd.R_alloc | apply Kd.R_drewN | apply Kd.R_drew)); exact (Kd.R_mono (Kd.R_far (p := ⟨gb332, 1, none⟩) (Kd.R_far (p := ⟨gb332, 0, none⟩) (Kd.R_types HO324.out BK332.out (by decide)) (fun _ hk => hk.2) (.int .i64 t328)) (fun _ hk => hk.2) (.string t329)) (fun _ h_ => h_.1))))
        go_wp2
        go_meet
        case rel => exact ⟨_, ((t326 != t331)), (by first | rfl | (simp; done) | (simp [*]; done)), H', ⟨by first | omega | exact Nat.le_refl _⟩, ⟨by (with_reducible repeat (first | apply Kd.R_alloc | apply Kd.R_drewN | apply Kd.R_drew)); exact Kd.R_mono (Kd.R_far (p := ⟨gb332, 1, none⟩) (Kd.R_far (p := ⟨gb332, 0, none⟩) (Kd.R_types HO320.out BK332.out (by decide)) (fun _ hk => hk.2) (.int .i64 t328)) (fun _ hk => hk.2) (.string t329)) (fun _ hk => hk.1.2)⟩, ⟨by (with_reducible repeat (first | apply Kd.R_alloc | apply Kd.R_drewN | apply Kd.R_drew)); exact Kd.R_mono (Kd.R_far (p := ⟨gb332, 1, none⟩) (Kd.R_far (p := ⟨gb332, 0, none⟩) (Kd.R_types HO324.out BK332.out (by decide)) (fun _ hk => hk.2) (.int .i64 t328)) (fun _ hk => hk.2) (.string t329)) (fun _ hk => hk.1.2)⟩, ⟨by (with_reducible repeat (first | refine blk_drewN ?_ _ | refine blk_drew ?_ | refine blk_alloc ?_ _)); refine blk_far ?_ NB327_332.out _; (with_reducible repeat (first | refine blk_drewN ?_ _ | refine blk_drew ?_ | refine blk_alloc ?_ _)); refine blk_far ?_ NB327_332.out _; (with_reducible repeat (first | refine blk_drewN ?_ _ | refine blk_drew ?_ | refine blk_alloc ?_ _)); exact BK327.out⟩, ⟨by (with_reducible repeat (first | refine blk_drewN ?_ _ | refine blk_drew ?_ | refine blk_alloc ?_ _)); refine blk_put (cs := #[.int .i64 t328, .string (⟨#[]⟩ : ByteArray)]) ?_ 1 _ rfl; (with_reducible repeat (first | refine blk_drewN ?_ _ | refine blk_drew ?_ | refine blk_alloc ?_ _)); refine blk_put (cs := #[.int .i64 0, .string (⟨#[]⟩ : ByteArray)]) ?_ 0 _ rfl; (with_reducible repeat (first | refine blk_drewN ?_ _ | refine blk_drew ?_ | refine blk_alloc ?_ _)); exact BK332.out⟩, ⟨by repeat (first | (with_reducible first | exact HB.out | apply below_alloc | apply pw_below_drewN | apply below_drew1 | refine below_set ?_ GE327.out | refine below_set ?_ GE332.out) | exact HB.out)⟩⟩
       ·rw [if_neg c26] at H
        have c26b0 : (t325 == t330) = false := beq_eq_false_iff_ne.mpr c26
        have c26b1 : (t325 != t330) = true := bne_iff_ne.mpr c26
        have H' := Aside0.mk H
        clear H
        have hnb31 := NB327_332.out
        have hnc31 := NB332_327.out
        have hcz32_0 : w21.cell? ⟨gb327, 0, none⟩ = some (.int .i64 t321) := (blk_cell BK327.out 0).trans rfl
        have hcz32_1 : w21.cell? ⟨gb327, 1, none⟩ = some (.slice Ao18 t322.length co18) := (blk_cell BK327.out 1).trans rfl
        have hfz32_0 := blk_frozen BK327.out 0
        have hfz32_1 := blk_frozen BK327.out 1
        have hcz33_0 : w21.cell? ⟨gb332, 0, none⟩ = some (.int .i64 0) := (blk_cell BK332.out 0).trans rfl
        have hcz33_1 : w21.cell? ⟨gb332, 1, none⟩ = some (.string (⟨#[]⟩ : ByteArray)) := (blk_cell BK332.out 1).trans rfl
        have hfz33_0 := blk_frozen BK332.out 0
        have hfz33_1 := blk_frozen BK332.out 1
        have hcv34 : (convert 45 9 (.slice Ao18 t322.length co18)).run Try.prog ((w21.setCell ⟨gb332, 0, none⟩ (.int .i64 t328)).setCell ⟨gb332, 1, none⟩ (.string t329)) = .ok (.string (strOfNums t322)) ((w21.setCell ⟨gb332, 0, none⟩ (.int .i64 t328)).setCell ⟨gb332, 1, none⟩ (.string t329)) := own_string (P := Try.prog) Try.underlying45 Try.underlying5 Try.underlying9 (Kd.own_of_R (by (with_reducible repeat (first | apply Kd.R_alloc | apply Kd.R_drewN | apply Kd.R_drew)); exact (Kd.R_mono (Kd.R_far (p := ⟨gb332, 1, none⟩) (Kd.R_far (p := ⟨gb332, 0, none⟩) (Kd.R_types HO324.out BK332.out (by decide)) (fun _ hk => hk.2) (.int .i64 t328)) (fun _ hk => hk.2) (.string t329)) (fun _ h_ => h_.1))))
        go_wp2
        go_meet
        case rel => exact ⟨_, (true), (by first | rfl | (simp; done) | (simp [*]; done)), H', ⟨by first | omega | exact Nat.le_refl _⟩, ⟨by (with_reducible repeat (first | apply Kd.R_alloc | apply Kd.R_drewN | apply Kd.R_drew)); exact Kd.R_mono (Kd.R_far (p := ⟨gb332, 1, none⟩) (Kd.R_far (p := ⟨gb332, 0, none⟩) (Kd.R_types HO320.out BK332.out (by decide)) (fun _ hk => hk.2) (.int .i64 t328)) (fun _ hk => hk.2) (.string t329)) (fun _ hk => hk.1.2)⟩, ⟨by (with_reducible repeat (first | apply Kd.R_alloc | apply Kd.R_drewN | apply Kd.R_drew)); exact Kd.R_mono (Kd.R_far (p := ⟨gb332, 1, none⟩) (Kd.R_far (p := ⟨gb332, 0, none⟩) (Kd.R_types HO324.out BK332.out (by decide)) (fun _ hk => hk.2) (.int .i64 t328)) (fun _ hk => hk.2) (.string t329)) (fun _ hk => hk.1.2)⟩, ⟨by (with_reducible repeat (first | refine blk_drewN ?_ _ | refine blk_drew ?_ | refine blk_alloc ?_ _)); refine blk_far ?_ NB327_332.out _; (with_reducible repeat (first | refine blk_drewN ?_ _ | refine blk_drew ?_ | refine blk_alloc ?_ _)); refine blk_far ?_ NB327_332.out _; (with_reducible repeat (first | refine blk_drewN ?_ _ | refine blk_drew ?_ | refine blk_alloc ?_ _)); exact BK327.out⟩, ⟨by (with_reducible repeat (first | refine blk_drewN ?_ _ | refine blk_drew ?_ | refine blk_alloc ?_ _)); refine blk_put (cs := #[.int .i64 t328, .string (⟨#[]⟩ : ByteArray)]) ?_ 1 _ rfl; (with_reducible repeat (first | refine blk_drewN ?_ _ | refine blk_drew ?_ | refine blk_alloc ?_ _)); refine blk_put (cs := #[.int .i64 0, .string (⟨#[]⟩ : ByteArray)]) ?_ 0 _ rfl; (with_reducible repeat (first | refine blk_drewN ?_ _ | refine blk_drew ?_ | refine blk_alloc ?_ _)); exact BK332.out⟩, ⟨by repeat (first | (with_reducible first | exact HB.out | apply below_alloc | apply pw_below_drewN | apply below_drew1 | refine below_set ?_ GE327.out | refine below_set ?_ GE332.out) | exact HB.out)⟩⟩
      ·rw [if_neg c25] at H
       have c25b0 : ((strOfNums t322).toList == t329.toList) = false := beq_eq_false_iff_ne.mpr c25
       have c25b1 : ((strOfNums t322).toList != t329.toList) = true := bne_iff_ne.mpr c25
       have H' := Aside0.mk H
       clear H
       have hnb35 := NB327_332.out
       have hnc35 := NB332_327.out
       have hcz36_0 : w21.cell? ⟨gb327, 0, none⟩ = some (.int .i64 t321) := (blk_cell BK327.out 0).trans rfl
       have hcz36_1 : w21.cell? ⟨gb327, 1, none⟩ = some (.slice Ao18 t322.length co18) := (blk_cell BK327.out 1).trans rfl
       have hfz36_0 := blk_frozen BK327.out 0
       have hfz36_1 := blk_frozen BK327.out 1
       have hcz37_0 : w21.cell? ⟨gb332, 0, none⟩ = some (.int .i64 0) := (blk_cell BK332.out 0).trans rfl
       have hcz37_1 : w21.cell? ⟨gb332, 1, none⟩ = some (.string (⟨#[]⟩ : ByteArray)) := (blk_cell BK332.out 1).trans rfl
       have hfz37_0 := blk_frozen BK332.out 0
       have hfz37_1 := blk_frozen BK332.out 1
       have hcv38 : (convert 45 9 (.slice Ao18 t322.length co18)).run Try.prog ((w21.setCell ⟨gb332, 0, none⟩ (.int .i64 t328)).setCell ⟨gb332, 1, none⟩ (.string t329)) = .ok (.string (strOfNums t322)) ((w21.setCell ⟨gb332, 0, none⟩ (.int .i64 t328)).setCell ⟨gb332, 1, none⟩ (.string t329)) := own_string (P := Try.prog) Try.underlying45 Try.underlying5 Try.underlying9 (Kd.own_of_R (by (with_reducible repeat (first | apply Kd.R_alloc | apply Kd.R_drewN | apply Kd.R_drew)); exact (Kd.R_mono (Kd.R_far (p := ⟨gb332, 1, none⟩) (Kd.R_far (p := ⟨gb332, 0, none⟩) (Kd.R_types HO324.out BK332.out (by decide)) (fun _ hk => hk.2) (.int .i64 t328)) (fun _ hk => hk.2) (.string t329)) (fun _ h_ => h_.1))))
       go_wp2
       go_meet
       case rel => exact ⟨_, (true), (by first | rfl | (simp; done) | (simp [*]; done)), H', ⟨by first | omega | exact Nat.le_refl _⟩, ⟨by (with_reducible repeat (first | apply Kd.R_alloc | apply Kd.R_drewN | apply Kd.R_drew)); exact Kd.R_mono (Kd.R_far (p := ⟨gb332, 1, none⟩) (Kd.R_far (p := ⟨gb332, 0, none⟩) (Kd.R_types HO320.out BK332.out (by decide)) (fun _ hk => hk.2) (.int .i64 t328)) (fun _ hk => hk.2) (.string t329)) (fun _ hk => hk.1.2)⟩, ⟨by (with_reducible repeat (first | apply Kd.R_alloc | apply Kd.R_drewN | apply Kd.R_drew)); exact Kd.R_mono (Kd.R_far (p := ⟨gb332, 1, none⟩) (Kd.R_far (p := ⟨gb332, 0, none⟩) (Kd.R_types HO324.out BK332.out (by decide)) (fun _ hk => hk.2) (.int .i64 t328)) (fun _ hk => hk.2) (.string t329)) (fun _ hk => hk.1.2)⟩, ⟨by (with_reducible repeat (first | refine blk_drewN ?_ _ | refine blk_drew ?_ | refine blk_alloc ?_ _)); refine blk_far ?_ NB327_332.out _; (with_reducible repeat (first | refine blk_drewN ?_ _ | refine blk_drew ?_ | refine blk_alloc ?_ _)); refine blk_far ?_ NB327_332.out _; (with_reducible repeat (first | refine blk_drewN ?_ _ | refine blk_drew ?_ | refine blk_alloc ?_ _)); exact BK327.out⟩, ⟨by (with_reducible repeat (first | refine blk_drewN ?_ _ | refine blk_drew ?_ | refine blk_alloc ?_ _)); refine blk_put (cs := #[.int .i64 t328, .string (⟨#[]⟩ : ByteArray)]) ?_ 1 _ rfl; (with_reducible repeat (first | refine blk_drewN ?_ _ | refine blk_drew ?_ | refine blk_alloc ?_ _)); refine blk_put (cs := #[.int .i64 0, .string (⟨#[]⟩ : ByteArray)]) ?_ 0 _ rfl; (with_reducible repeat (first | refine blk_drewN ?_ _ | refine blk_drew ?_ | refine blk_alloc ?_ _)); exact BK332.out⟩, ⟨by repeat (first | (with_reducible first | exact HB.out | apply below_alloc | apply pw_below_drewN | apply below_drew1 | refine below_set ?_ GE327.out | refine below_set ?_ GE332.out) | exact HB.out)⟩⟩
     ·rw [if_neg c24] at H
      have c24b0 : (t321 == t328) = false := beq_eq_false_iff_ne.mpr c24
      have c24b1 : (t321 != t328) = true := bne_iff_ne.mpr c24
      (first | rw [c24b0] | (simp only [i64_w, i32_w]; rw [c24b0]) | skip)
      have H' := Aside0.mk H
      clear H
      have hnb39 := NB327_332.out
      have hnc39 := NB332_327.out
      have hcz40_0 : w21.cell? ⟨gb327, 0, none⟩ = some (.int .i64 t321) := (blk_cell BK327.out 0).trans rfl
      have hcz40_1 : w21.cell? ⟨gb327, 1, none⟩ = some (.slice Ao18 t322.length co18) := (blk_cell BK327.out 1).trans rfl
      have hfz40_0 := blk_frozen BK327.out 0
      have hfz40_1 := blk_frozen BK327.out 1
      have hcz41_0 : w21.cell? ⟨gb332, 0, none⟩ = some (.int .i64 0) := (blk_cell BK332.out 0).trans rfl
      have hcz41_1 : w21.cell? ⟨gb332, 1, none⟩ = some (.string (⟨#[]⟩ : ByteArray)) := (blk_cell BK332.out 1).trans rfl
      have hfz41_0 := blk_frozen BK332.out 0
      have hfz41_1 := blk_frozen BK332.out 1
      go_wp2
      go_meet
      case rel => exact ⟨_, (true), (by first | rfl | (simp; done) | (simp [*]; done)), H', ⟨by first | omega | exact Nat.le_refl _⟩, ⟨by (with_reducible repeat (first | apply Kd.R_alloc | apply Kd.R_drewN | apply Kd.R_drew)); exact Kd.R_mono (Kd.R_far (p := ⟨gb332, 1, none⟩) (Kd.R_far (p := ⟨gb332, 0, none⟩) (Kd.R_types HO320.out BK332.out (by decide)) (fun _ hk => hk.2) (.int .i64 t328)) (fun _ hk => hk.2) (.string t329)) (fun _ hk => hk.1.2)⟩, ⟨by (with_reducible repeat (first | apply Kd.R_alloc | apply Kd.R_drewN | apply Kd.R_drew)); exact Kd.R_mono (Kd.R_far (p := ⟨gb332, 1, none⟩) (Kd.R_far (p := ⟨gb332, 0, none⟩) (Kd.R_types HO324.out BK332.out (by decide)) (fun _ hk => hk.2) (.int .i64 t328)) (fun _ hk => hk.2) (.string t329)) (fun _ hk => hk.1.2)⟩, ⟨by (with_reducible repeat (first | refine blk_drewN ?_ _ | refine blk_drew ?_ | refine blk_alloc ?_ _)); refine blk_far ?_ NB327_332.out _; (with_reducible repeat (first | refine blk_drewN ?_ _ | refine blk_drew ?_ | refine blk_alloc ?_ _)); refine blk_far ?_ NB327_332.out _; (with_reducible repeat (first | refine blk_drewN ?_ _ | refine blk_drew ?_ | refine blk_alloc ?_ _)); exact BK327.out⟩, ⟨by (with_reducible repeat (first | refine blk_drewN ?_ _ | refine blk_drew ?_ | refine blk_alloc ?_ _)); refine blk_put (cs := #[.int .i64 t328, .string (⟨#[]⟩ : ByteArray)]) ?_ 1 _ rfl; (with_reducible repeat (first | refine blk_drewN ?_ _ | refine blk_drew ?_ | refine blk_alloc ?_ _)); refine blk_put (cs := #[.int .i64 0, .string (⟨#[]⟩ : ByteArray)]) ?_ 0 _ rfl; (with_reducible repeat (first | refine blk_drewN ?_ _ | refine blk_drew ?_ | refine blk_alloc ?_ _)); exact BK332.out⟩, ⟨by repeat (first | (with_reducible first | exact HB.out | apply below_alloc | apply pw_below_drewN | apply below_drew1 | refine below_set ?_ GE327.out | refine below_set ?_ GE332.out) | exact HB.out)⟩⟩
    case rest =>
     clear HC9
     try clear c1
     try clear hcv1
     try clear c2
     try clear p2
     try clear c3
     try clear hcv3
     try clear c4
     try clear c4b0
     try clear c4b1
     try clear c6
     try clear c12
     try clear hcv19
     try clear c22
     try clear c23
     try clear c24
     try clear c24b0
     try clear c24b1
     try clear c25
     try clear c25b0
     try clear c25b1
     try clear c26
     try clear c26b0
     try clear c26b1
     try clear c27
     try clear hcv30
     try clear c31
     try clear hcv34
     try clear c35
     try clear hcv38
     try clear c39
     try clear hcz17_0
     try clear hcz17_1
     try clear hcz23_0
     try clear hcz23_1
     try clear hcz28_0
     try clear hcz28_1
     try clear hcz29_0
     try clear hcz29_1
     try clear hcz32_0
     try clear hcz32_1
     try clear hcz33_0
     try clear hcz33_1
     try clear hcz36_0
     try clear hcz36_1
     try clear hcz37_0
     try clear hcz37_1
     try clear hcz40_0
     try clear hcz40_1
     try clear hcz41_0
     try clear hcz41_1
     try clear hfz17_0
     try clear hfz17_1
     try clear hfz23_0
     try clear hfz23_1
     try clear hfz28_0
     try clear hfz28_1
     try clear hfz29_0
     try clear hfz29_1
     try clear hfz32_0
     try clear hfz32_1
     try clear hfz33_0
     try clear hfz33_1
     try clear hfz36_0
     try clear hfz36_1
     try clear hfz37_0
     try clear hfz37_1
     try clear hfz40_0
     try clear hfz40_1
     try clear hfz41_0
     try clear hfz41_1
     obtain ⟨kq, x60_8, rfl, HA, HJ8, HO_3, HO_328001, BK327, BK332, HB⟩ := hcut
     cases kq with
     | zero => exact absurd HA.out (by simp [forebearlaw07_FrameOpens.j0])
     | succ kj8 =>
      have H := HA.out
      clear HA
      simp only [forebearlaw07_FrameOpens.j0] at H
      by_cases c42 : x60_8 = true
      ·subst c42
       have H1 : (some false) = some r := by rw [if_pos rfl] at H; exact H
       clear H
       have H := H1
       clear H1
       obtain rfl := Option.some.inj H
       go_wp2
       go_ret
       exact ⟨by first | rfl | (simp [errW_none, errW_some] <;> rfl) | (simp [*, errW_none, errW_some] <;> rfl), by repeat (first | (with_reducible first | exact HB.out | apply below_alloc | apply pw_below_drewN | apply below_drew1 | refine below_set ?_ GE327.out | refine below_set ?_ GE332.out) | exact HB.out)⟩
      ·replace c42 := Bool.eq_false_iff.mpr c42
       subst c42
       have H1 : ((frame_Cut.f kj8 y318).bind fun bt333 => ((forebearref07_Cut.f kj8 (strOfNums l0)).bind fun bt338 => ((forebearlaw07_Same.f kj8 bt333.1 bt338.1).bind fun t343 => (if t343 = true then (if bt333.2.1 = bt338.2.1 then (forebearlaw07_FrameOpens.j1 kj8 l0 y318 bt333.1 bt338.1 (bt333.2.2 != bt338.2.2) t321 t322) else (forebearlaw07_FrameOpens.j1 kj8 l0 y318 bt333.1 bt338.1 true t321 t322)) else (forebearlaw07_FrameOpens.j1 kj8 l0 y318 bt333.1 bt338.1 true t321 t322))))) = some r := by rw [if_neg (show ¬ (false = true) by decide)] at H; exact H
       clear H
       have H := H1
       clear H1
       replace H := Option.bind_eq_some_iff.mp H
       obtain ⟨⟨t333, t334, t335⟩, A430, H⟩ := H
       replace H : ((forebearref07_Cut.f kj8 (strOfNums l0)).bind fun bt338 => ((forebearlaw07_Same.f kj8 t333 bt338.1).bind fun t343 => (if t343 = true then (if t334 = bt338.2.1 then (forebearlaw07_FrameOpens.j1 kj8 l0 y318 t333 bt338.1 (t335 != bt338.2.2) t321 t322) else (forebearlaw07_FrameOpens.j1 kj8 l0 y318 t333 bt338.1 true t321 t322)) else (forebearlaw07_FrameOpens.j1 kj8 l0 y318 t333 bt338.1 true t321 t322)))) = some r := H
       have A43 := Aside0.mk A430
       clear A430
       replace H := Option.bind_eq_some_iff.mp H
       obtain ⟨⟨t338, t339, t340⟩, A440, H⟩ := H
       replace H : ((forebearlaw07_Same.f kj8 t333 t338).bind fun t343 => (if t343 = true then (if t334 = t339 then (forebearlaw07_FrameOpens.j1 kj8 l0 y318 t333 t338 (t335 != t340) t321 t322) else (forebearlaw07_FrameOpens.j1 kj8 l0 y318 t333 t338 true t321 t322)) else (forebearlaw07_FrameOpens.j1 kj8 l0 y318 t333 t338 true t321 t322))) = some r := H
       have A44 := Aside0.mk A440
       clear A440
       have HC45 := Aside0.mk H
       clear H
       go_upto_region 12 with (first | ((with_reducible refine gate_callee (f := 40) rfl ?_); refine goesL_ (some 63) rfl rfl Try.func40 (by kernel_rfl) rfl #[.slice Ao14 y318.length co14] rfl (by (try simp only [List.map_toArray, List.map_cons, List.map_nil]); first | done | rfl | (simp only [List.length_drop, List.length_take]; rfl)) ?_; (with_reducible refine (frame_Cut.calls kj8 _ _ y318 t333 t334 t335 _ ?side1 ?side2 A43.out).mono ?_); (case side1 => repeat (first | exact (Kd.R_reads' HO_3.out).2.2 | (with_reducible refine Kd.C_alloc ?_ _) | (with_reducible refine Kd.C_drewN ?_ _) | (with_reducible refine Kd.C_drew ?_))); (case side2 => exact (Kd.R_reads' HO_3.out).2.1); rintro e w46 ⟨v336, rfl, ho0, hb⟩; refine ⟨_, rfl, ?_⟩; have n0_ := Aside0.mk (Kd.R_below (by (with_reducible repeat (first | apply Kd.R_alloc | apply Kd.R_drewN | apply Kd.R_drew)); exact HO_3.out) hb); have n1_ := Aside0.mk (Kd.R_below (by (with_reducible repeat (first | apply Kd.R_alloc | apply Kd.R_drewN | apply Kd.R_drew)); exact HO_328001.out) hb); have n2_ := Aside0.mk (Kd.S_lower (Kd.S_newB (Kd.S_new' (Kd.S_new' ho0 (Kd.R_lt (by (with_reducible repeat (first | apply Kd.R_alloc | apply Kd.R_drewN | apply Kd.R_drew)); exact HO_3.out))) (Kd.R_lt (by (with_reducible repeat (first | apply Kd.R_alloc | apply Kd.R_drewN | apply Kd.R_drew)); exact HO_328001.out))) (g := gb327) (o := .cells #[.int .i64 t321, .slice Ao18 t322.length co18] 47 (0, 0)) (by (with_reducible repeat (first | refine blk_drewN ?_ _ | refine blk_drew ?_ | refine blk_alloc ?_ _)); exact BK327.out)) (below_size (by repeat (first | (with_reducible first | exact HB.out | apply below_alloc | apply pw_below_drewN | apply below_drew1 | refine below_set ?_ GE327.out | refine below_set ?_ GE332.out) | exact HB.out)))); have n3_ := Aside0.mk (blk_below (g := gb327) (o := .cells #[.int .i64 t321, .slice Ao18 t322.length co18] 47 (0, 0)) (by (with_reducible repeat (first | refine blk_drewN ?_ _ | refine blk_drew ?_ | refine blk_alloc ?_ _)); exact BK327.out) hb); have n4_ := Aside0.mk (blk_below (g := gb332) (o := .cells #[.int .i64 t328, .string t329] 76 (0, 0)) (by (with_reducible repeat (first | refine blk_drewN ?_ _ | refine blk_drew ?_ | refine blk_alloc ?_ _)); exact BK332.out) hb); have n5_ := Aside0.mk (below_step (by repeat (first | (with_reducible first | exact HB.out | apply below_alloc | apply pw_below_drewN | apply below_drew1 | refine below_set ?_ GE327.out | refine below_set ?_ GE332.out) | exact HB.out)) hb); clear HO_3; clear HO_328001; clear BK327; clear BK332; clear HB; have HO_3 := n0_; have HO_328001 := n1_; have HO337 := n2_; have BK327 := n3_; have BK332 := n4_; have HB := n5_; clear n0_ n1_ n2_ n3_ n4_ n5_; (try clear hb); (try clear hb2); (try clear hk); (try clear hi); (try clear ho0); have hcv47 := Kd.C_string (P := Try.prog) (A := A0) (c := c0) Try.underlying45 Try.underlying5 Try.underlying9 (Kd.C_below HR0.out HB.out); have hcw48 := fun n_ : Nat => Kd.C_string (P := Try.prog) (A := A0) (c := c0) Try.underlying45 Try.underlying5 Try.underlying9 (Kd.C_drewN ((Kd.C_below HR0.out HB.out)) n_)) | ((with_reducible refine gate_callee (f := 41) rfl ?_); refine goesL_ (some 70) rfl rfl Try.func41 (by kernel_rfl) rfl #[.string (strOfNums l0)] rfl (by (try simp only [List.map_toArray, List.map_cons, List.map_nil]); first | done | rfl | (simp only [List.length_drop, List.length_take]; rfl)) ?_; (with_reducible refine (forebearref07_Cut.calls kj8 (strOfNums l0) t338 t339 t340 _ A44.out).mono ?_); rintro e w49 ⟨v341, rfl, ho0, hb⟩; refine ⟨_, rfl, ?_⟩; have n0_ := Aside0.mk (Kd.R_below (by (with_reducible repeat (first | apply Kd.R_alloc | apply Kd.R_drewN | apply Kd.R_drew)); exact HO_3.out) hb); have n1_ := Aside0.mk (Kd.R_below (by (with_reducible repeat (first | apply Kd.R_alloc | apply Kd.R_drewN | apply Kd.R_drew)); exact HO_328001.out) hb); have n2_ := Aside0.mk (Kd.S_below (by (with_reducible repeat (first | apply Kd.S_alloc | apply Kd.S_drewN | apply Kd.S_drew)); exact HO337.out) hb); have n3_ := Aside0.mk (Kd.R_lower (Kd.R_newB ho0 (g := gb332) (o := .cells #[.int .i64 t328, .string t329] 76 (0, 0)) (by (with_reducible repeat (first | refine blk_drewN ?_ _ | refine blk_drew ?_ | refine blk_alloc ?_ _)); exact BK332.out)) (below_size (by repeat (first | (with_reducible first | exact HB.out | apply below_alloc | apply pw_below_drewN | apply below_drew1 | refine below_set ?_ GE327.out | refine below_set ?_ GE332.out) | exact HB.out)))); have n4_ := Aside0.mk (blk_below (g := gb327) (o := .cells #[.int .i64 t321, .slice Ao18 t322.length co18] 47 (0, 0)) (by (with_reducible repeat (first | refine blk_drewN ?_ _ | refine blk_drew ?_ | refine blk_alloc ?_ _)); exact BK327.out) hb); have n5_ := Aside0.mk (blk_below (g := gb332) (o := .cells #[.int .i64 t328, .string t329] 76 (0, 0)) (by (with_reducible repeat (first | refine blk_drewN ?_ _ | refine blk_drew ?_ | refine blk_alloc ?_ _)); exact BK332.out) hb); have n6_ := Aside0.mk (below_step (by repeat (first | (with_reducible first | exact HB.out | apply below_alloc | apply pw_below_drewN | apply below_drew1 | refine below_set ?_ GE327.out | refine below_set ?_ GE332.out) | exact HB.out)) hb); clear HO_3; clear HO_328001; clear HO337; clear BK327; clear BK332; clear HB; have HO_3 := n0_; have HO_328001 := n1_; have HO337 := n2_; have HO342 := n3_; have BK327 := n4_; have BK332 := n5_; have HB := n6_; clear n0_ n1_ n2_ n3_ n4_ n5_ n6_; (try clear hb); (try clear hb2); (try clear hk); (try clear hi); (try clear ho0)))
       (try simp only [Act.put, List.setIfInBounds_toArray, List.set_cons_zero, List.set_cons_succ])
       go_cut [87] (fun v87 wc => ∃ (kq : Nat) (x87_44 : Bool), v87 = .bool x87_44 ∧ Aside0 (forebearlaw07_FrameOpens.j1 kq l0 y318 t333 t338 x87_44 t321 t322 = some r) ∧ Aside0 (kq ≤ kj8) ∧ Aside0 (Kd.R (Kd.int .u8) 5 wc w.heap.size (fun k_ => some k_ ≠ ((.slice Ao18 t322.length co18) : Value).ownBlock) (.slice Ao14 y318.length co14) y318) ∧ Aside0 (Kd.S k47 47 wc w.heap.size (fun k_ => some k_ ≠ ((.slice Ao14 y318.length co14) : Value).ownBlock ∧ some k_ ≠ ((.slice Ao18 t322.length co18) : Value).ownBlock ∧ k_ ≠ gb327) v336 t333) ∧ Aside0 (Kd.R k76 76 wc w.heap.size (fun k_ => k_ ≠ gb332) v341 t338) ∧ Aside0 (Kd.R (Kd.int .u8) 5 wc w.heap.size (fun k_ => some k_ ≠ ((.slice Ao14 y318.length co14) : Value).ownBlock) (.slice Ao18 t322.length co18) t322) ∧ Aside0 (wc.heap[gb327]? = some (.cells #[.int .i64 t321, (.slice Ao18 t322.length co18)] 47 (0, 0))) ∧ Aside0 (wc.heap[gb332]? = some (.cells #[.int .i64 t328, .string t329] 76 (0, 0))) ∧ Aside0 (Below w.heap.size w wc))
       case first =>
        have H := HC45.out
        clear HC45
        replace H := Option.bind_eq_some_iff.mp H
        obtain ⟨t343, A500, H⟩ := H
        replace H : (if t343 = true then (if t334 = t339 then (forebearlaw07_FrameOpens.j1 kj8 l0 y318 t333 t338 (t335 != t340) t321 t322) else (forebearlaw07_FrameOpens.j1 kj8 l0 y318 t333 t338 true t321 t322)) else (forebearlaw07_FrameOpens.j1 kj8 l0 y318 t333 t338 true t321 t322)) = some r := H
        have A50 := Aside0.mk A500
        clear A500
        by_cases c51 : t343 = true
        ·subst c51
         have H1 : (if t334 = t339 then (forebearlaw07_FrameOpens.j1 kj8 l0 y318 t333 t338 (t335 != t340) t321 t322) else (forebearlaw07_FrameOpens.j1 kj8 l0 y318 t333 t338 true t321 t322)) = some r := by rw [if_pos rfl] at H; exact H
         clear H
         have H := H1
         clear H1
         by_cases c52 : t334 = t339
         ·rw [if_pos c52] at H
          have c52b0 : (t334 == t339) = true := beq_iff_eq.mpr c52
          have c52b1 : (t334 != t339) = false := bne_eq_false_iff_eq.mpr c52
          clear c52
          (first | rw [c52b0] | (simp only [i64_w, i32_w]; rw [c52b0]) | skip)
          have H' := Aside0.mk H
          clear H
          obtain ⟨Ao53, co53, eo53⟩ := Kd.S_slice HO337.out
          subst eo53
          obtain ⟨Ao54, co54, eo54⟩ := Kd.R_slice HO342.out
          subst eo54
          go_wp2_with (first | ((with_reducible refine gate_callee (f := 42) rfl ?_); refine goesL_ (some 76) rfl rfl Try.func42 (by kernel_rfl) rfl #[.slice Ao53 t333.length co53, .slice Ao54 t338.length co54] rfl (by (try simp only [List.map_toArray, List.map_cons, List.map_nil]); first | done | rfl | (simp only [List.length_drop, List.length_take]; rfl)) ?_; (with_reducible refine (forebearlaw07_Same.calls kj8 _ _ t333 _ _ t338 true _ ?side1 ?side2 ?side3 ?side4 A50.out).mono ?_); (case side1 => repeat (first | exact (Kd.S_reads' HO337.out).2.2 | (with_reducible refine Kd.C_alloc ?_ _) | (with_reducible refine Kd.C_drewN ?_ _) | (with_reducible refine Kd.C_drew ?_))); (case side2 => exact (Kd.S_reads' HO337.out).2.1); (case side3 => repeat (first | exact (Kd.R_reads' HO342.out).2.2 | (with_reducible refine Kd.C_alloc ?_ _) | (with_reducible refine Kd.C_drewN ?_ _) | (with_reducible refine Kd.C_drew ?_))); (case side4 => exact (Kd.R_reads' HO342.out).2.1); rintro e w' ⟨rfl, ⟨nd, rfl⟩⟩; refine ⟨_, rfl, ?_⟩))
          go_meet
          case rel => exact ⟨_, ((t335 != t340)), (by first | rfl | (simp; done) | (simp [*]; done)), H', ⟨by have := HJ8.out; first | omega | exact Nat.le_refl _⟩, ⟨by (with_reducible repeat (first | apply Kd.R_alloc | apply Kd.R_drewN | apply Kd.R_drew)); exact HO_3.out⟩, ⟨by (with_reducible repeat (first | apply Kd.S_alloc | apply Kd.S_drewN | apply Kd.S_drew)); exact Kd.S_mono HO337.out (fun _ hk => ⟨hk.1.1.2, ⟨hk.1.2, hk.2⟩⟩)⟩, ⟨by (with_reducible repeat (first | apply Kd.R_alloc | apply Kd.R_drewN | apply Kd.R_drew)); exact Kd.R_mono HO342.out (fun _ hk => hk.2)⟩, ⟨by (with_reducible repeat (first | apply Kd.R_alloc | apply Kd.R_drewN | apply Kd.R_drew)); exact HO_328001.out⟩, ⟨by (with_reducible repeat (first | refine blk_drewN ?_ _ | refine blk_drew ?_ | refine blk_alloc ?_ _)); exact BK327.out⟩, ⟨by (with_reducible repeat (first | refine blk_drewN ?_ _ | refine blk_drew ?_ | refine blk_alloc ?_ _)); exact BK332.out⟩, ⟨by repeat (first | (with_reducible first | exact HB.out | apply below_alloc | apply pw_below_drewN | apply below_drew1 | refine below_set ?_ GE327.out | refine below_set ?_ GE332.out) | exact HB.out)⟩⟩
         ·rw [if_neg c52] at H
          have c52b0 : (t334 == t339) = false := beq_eq_false_iff_ne.mpr c52
          have c52b1 : (t334 != t339) = true := bne_iff_ne.mpr c52
          (first | rw [c52b0] | (simp only [i64_w, i32_w]; rw [c52b0]) | skip)
          have H' := Aside0.mk H
          clear H
          obtain ⟨Ao55, co55, eo55⟩ := Kd.S_slice HO337.out
          subst eo55
          obtain ⟨Ao56, co56, eo56⟩ := Kd.R_slice HO342.out
          subst eo56
          go_wp2_with (first | ((with_reducible refine gate_callee (f := 42) rfl ?_); refine goesL_ (some 76) rfl rfl Try.func42 (by kernel_rfl) rfl #[.slice Ao55 t333.length co55, .slice Ao56 t338.length co56] rfl (by (try simp only [List.map_toArray, List.map_cons, List.map_nil]); first | done | rfl | (simp only [List.length_drop, List.length_take]; rfl)) ?_; (with_reducible refine (forebearlaw07_Same.calls kj8 _ _ t333 _ _ t338 true _ ?side1 ?side2 ?side3 ?side4 A50.out).mono ?_); (case side1 => repeat (first | exact (Kd.S_reads' HO337.out).2.2 | (with_reducible refine Kd.C_alloc ?_ _) | (with_reducible refine Kd.C_drewN ?_ _) | (with_reducible refine Kd.C_drew ?_))); (case side2 => exact (Kd.S_reads' HO337.out).2.1); (case side3 => repeat (first | exact (Kd.R_reads' HO342.out).2.2 | (with_reducible refine Kd.C_alloc ?_ _) | (with_reducible refine Kd.C_drewN ?_ _) | (with_reducible refine Kd.C_drew ?_))); (case side4 => exact (Kd.R_reads' HO342.out).2.1); rintro e w' ⟨rfl, ⟨nd, rfl⟩⟩; refine ⟨_, rfl, ?_⟩))
          go_meet
          case rel => exact ⟨_, (true), (by first | rfl | (simp; done) | (simp [*]; done)), H', ⟨by have := HJ8.out; first | omega | exact Nat.le_refl _⟩, ⟨by (with_reducible repeat (first | apply Kd.R_alloc | apply Kd.R_drewN | apply Kd.R_drew)); exact HO_3.out⟩, ⟨by (with_reducible repeat (first | apply Kd.S_alloc | apply Kd.S_drewN | apply Kd.S_drew)); exact Kd.S_mono HO337.out (fun _ hk => ⟨hk.1.1.2, ⟨hk.1.2, hk.2⟩⟩)⟩, ⟨by (with_reducible repeat (first | apply Kd.R_alloc | apply Kd.R_drewN | apply Kd.R_drew)); exact Kd.R_mono HO342.out (fun _ hk => hk.2)⟩, ⟨by (with_reducible repeat (first | apply Kd.R_alloc | apply Kd.R_drewN | apply Kd.R_drew)); exact HO_328001.out⟩, ⟨by (with_reducible repeat (first | refine blk_drewN ?_ _ | refine blk_drew ?_ | refine blk_alloc ?_ _)); exact BK327.out⟩, ⟨by (with_reducible repeat (first | refine blk_drewN ?_ _ | refine blk_drew ?_ | refine blk_alloc ?_ _)); exact BK332.out⟩, ⟨by repeat (first | (with_reducible first | exact HB.out | apply below_alloc | apply pw_below_drewN | apply below_drew1 | refine below_set ?_ GE327.out | refine below_set ?_ GE332.out) | exact HB.out)⟩⟩
        ·replace c51 := Bool.eq_false_iff.mpr c51
         subst c51
         have H1 : (forebearlaw07_FrameOpens.j1 kj8 l0 y318 t333 t338 true t321 t322) = some r := by rw [if_neg (show ¬ (false = true) by decide)] at H; exact H
         clear H
         have H := H1
         clear H1
         have H' := Aside0.mk H
         clear H
         obtain ⟨Ao57, co57, eo57⟩ := Kd.S_slice HO337.out
         subst eo57
         obtain ⟨Ao58, co58, eo58⟩ := Kd.R_slice HO342.out
         subst eo58
         go_wp2_with (first | ((with_reducible refine gate_callee (f := 42) rfl ?_); refine goesL_ (some 76) rfl rfl Try.func42 (by kernel_rfl) rfl #[.slice Ao57 t333.length co57, .slice Ao58 t338.length co58] rfl (by (try simp only [List.map_toArray, List.map_cons, List.map_nil]); first | done | rfl | (simp only [List.length_drop, List.length_take]; rfl)) ?_; (with_reducible refine (forebearlaw07_Same.calls kj8 _ _ t333 _ _ t338 false _ ?side1 ?side2 ?side3 ?side4 A50.out).mono ?_); (case side1 => repeat (first | exact (Kd.S_reads' HO337.out).2.2 | (with_reducible refine Kd.C_alloc ?_ _) | (with_reducible refine Kd.C_drewN ?_ _) | (with_reducible refine Kd.C_drew ?_))); (case side2 => exact (Kd.S_reads' HO337.out).2.1); (case side3 => repeat (first | exact (Kd.R_reads' HO342.out).2.2 | (with_reducible refine Kd.C_alloc ?_ _) | (with_reducible refine Kd.C_drewN ?_ _) | (with_reducible refine Kd.C_drew ?_))); (case side4 => exact (Kd.R_reads' HO342.out).2.1); rintro e w' ⟨rfl, ⟨nd, rfl⟩⟩; refine ⟨_, rfl, ?_⟩))
         go_meet
         case rel => exact ⟨_, (true), (by first | rfl | (simp; done) | (simp [*]; done)), H', ⟨by have := HJ8.out; first | omega | exact Nat.le_refl _⟩, ⟨by (with_reducible repeat (first | apply Kd.R_alloc | apply Kd.R_drewN | apply Kd.R_drew)); exact HO_3.out⟩, ⟨by (with_reducible repeat (first | apply Kd.S_alloc | apply Kd.S_drewN | apply Kd.S_drew)); exact Kd.S_mono HO337.out (fun _ hk => ⟨hk.1.1.2, ⟨hk.1.2, hk.2⟩⟩)⟩, ⟨by (with_reducible repeat (first | apply Kd.R_alloc | apply Kd.R_drewN | apply Kd.R_drew)); exact Kd.R_mono HO342.out (fun _ hk => hk.2)⟩, ⟨by (with_reducible repeat (first | apply Kd.R_alloc | apply Kd.R_drewN | apply Kd.R_drew)); exact HO_328001.out⟩, ⟨by (with_reducible repeat (first | refine blk_drewN ?_ _ | refine blk_drew ?_ | refine blk_alloc ?_ _)); exact BK327.out⟩, ⟨by (with_reducible repeat (first | refine blk_drewN ?_ _ | refine blk_drew ?_ | refine blk_alloc ?_ _)); exact BK332.out⟩, ⟨by repeat (first | (with_reducible first | exact HB.out | apply below_alloc | apply pw_below_drewN | apply below_drew1 | refine below_set ?_ GE327.out | refine below_set ?_ GE332.out) | exact HB.out)⟩⟩
       case rest =>
        clear HC45
        try clear c1
        try clear hcv1
        try clear c2
        try clear p2
        try clear c3
        try clear hcv3
        try clear c4
        try clear c4b0
        try clear c4b1
        try clear hcv4
        try clear c5
        try clear c6
        try clear c12
        try clear hcv19
        try clear c22
        try clear c23
        try clear c24
        try clear c24b0
        try clear c24b1
        try clear c25
        try clear c25b0
        try clear c25b1
        try clear c26
        try clear c26b0
        try clear c26b1
        try clear c27
        try clear hcv30
        try clear c31
        try clear hcv34
        try clear c35
        try clear hcv38
        try clear c39
        try clear c40
        try clear c41
        try clear c42
        try clear hcv47
        try clear c51
        try clear c52
        try clear c52b0
        try clear c52b1
        try clear hcz17_0
        try clear hcz17_1
        try clear hcz23_0
        try clear hcz23_1
        try clear hcz28_0
        try clear hcz28_1
        try clear hcz29_0
        try clear hcz29_1
        try clear hcz32_0
        try clear hcz32_1
        try clear hcz33_0
        try clear hcz33_1
        try clear hcz36_0
        try clear hcz36_1
        try clear hcz37_0
        try clear hcz37_1
        try clear hcz40_0
        try clear hcz40_1
        try clear hcz41_0
        try clear hcz41_1
        try clear hfz17_0
        try clear hfz17_1
        try clear hfz23_0
        try clear hfz23_1
        try clear hfz28_0
        try clear hfz28_1
        try clear hfz29_0
        try clear hfz29_1
        try clear hfz32_0
        try clear hfz32_1
        try clear hfz33_0
        try clear hfz33_1
        try clear hfz36_0
        try clear hfz36_1
        try clear hfz37_0
        try clear hfz37_1
        try clear hfz40_0
        try clear hfz40_1
        try clear hfz41_0
        try clear hfz41_1
        try clear p2
        obtain ⟨kq, x87_44, rfl, HA, HJ44, HO_3, HO_10, HO_13, HO_328001, BK327, BK332, HB⟩ := hcut
        cases kq with
        | zero => exact absurd HA.out (by simp [forebearlaw07_FrameOpens.j1])
        | succ kj44 =>
         have H := HA.out
         clear HA
         simp only [forebearlaw07_FrameOpens.j1] at H
         by_cases c59 : x87_44 = true
         ·subst c59
          have H1 : (some false) = some r := by rw [if_pos rfl] at H; exact H
          clear H
          have H := H1
          clear H1
          obtain rfl := Option.some.inj H
          go_wp2
          go_ret
          exact ⟨by first | rfl | (simp [errW_none, errW_some] <;> rfl) | (simp [*, errW_none, errW_some] <;> rfl), by repeat (first | (with_reducible first | exact HB.out | apply below_alloc | apply pw_below_drewN | apply below_drew1 | refine below_set ?_ GE327.out | refine below_set ?_ GE332.out) | exact HB.out)⟩
         ·replace c59 := Bool.eq_false_iff.mpr c59
          subst c59
          have H1 : (forebearlaw07_FrameOpens.l0 kj44 l0 y318 t333 t338 0 t321 t322) = some r := by rw [if_neg (show ¬ (false = true) by decide)] at H; exact H
          clear H
          have H := H1
          clear H1
          have H' := Aside0.mk H
          clear H
          go_wp2
          go_loopg [16] kj44 (fun kq v16 w' => ∃ (x3_3 : List Int) (x16_3 : Int) (x328001_3 : List Int) (u328001 : Value), v16 = .int .i64 x16_3 ∧ Aside0 (forebearlaw07_FrameOpens.l0 kq l0 x3_3 t333 t338 x16_3 t321 x328001_3 = some r) ∧ Aside0 (kq ≤ kj44) ∧ Aside0 (Kd.R (Kd.int .u8) 5 w' w.heap.size (fun k_ => some k_ ≠ (u328001 : Value).ownBlock) (.slice Ao14 y318.length co14) x3_3) ∧ Aside0 (Kd.S k47 47 w' w.heap.size (fun k_ => some k_ ≠ ((.slice Ao14 y318.length co14) : Value).ownBlock ∧ some k_ ≠ (u328001 : Value).ownBlock ∧ k_ ≠ gb327) v336 t333) ∧ Aside0 (Kd.R k76 76 w' w.heap.size (fun k_ => k_ ≠ gb332) v341 t338) ∧ Aside0 (Kd.R (Kd.int .u8) 5 w' w.heap.size (fun k_ => some k_ ≠ ((.slice Ao14 y318.length co14) : Value).ownBlock) u328001 x328001_3) ∧ Aside0 (w'.heap[gb327]? = some (.cells #[.int .i64 t321, u328001] 47 (0, 0))) ∧ Aside0 (w'.heap[gb332]? = some (.cells #[.int .i64 t328, .string t329] 76 (0, 0))) ∧ Aside0 (Below w.heap.size w w'))
          case atStart => exact ⟨(y318), (0), (t322), (.slice Ao18 t322.length co18), (by first | rfl | (simp; done) | (simp [*]; done)), H', ⟨Nat.le_refl _⟩, ⟨by (with_reducible repeat (first | apply Kd.R_alloc | apply Kd.R_drewN | apply Kd.R_drew)); exact HO_3.out⟩, ⟨by (with_reducible repeat (first | apply Kd.S_alloc | apply Kd.S_drewN | apply Kd.S_drew)); exact HO_10.out⟩, ⟨by (with_reducible repeat (first | apply Kd.R_alloc | apply Kd.R_drewN | apply Kd.R_drew)); exact HO_13.out⟩, ⟨by (with_reducible repeat (first | apply Kd.R_alloc | apply Kd.R_drewN | apply Kd.R_drew)); exact HO_328001.out⟩, ⟨by (with_reducible repeat (first | refine blk_drewN ?_ _ | refine blk_drew ?_ | refine blk_alloc ?_ _)); exact BK327.out⟩, ⟨by (with_reducible repeat (first | refine blk_drewN ?_ _ | refine blk_drew ?_ | refine blk_alloc ?_ _)); exact BK332.out⟩, ⟨by repeat (first | (with_reducible first | exact HB.out | apply below_alloc | apply pw_below_drewN | apply below_drew1 | refine below_set ?_ GE327.out | refine below_set ?_ GE332.out) | exact HB.out)⟩⟩
          case round =>
           clear H'
           try clear c1
           try clear hcv1
           try clear c2
           try clear p2
           try clear c3
           try clear hcv3
           try clear c4
           try clear c4b0
           try clear c4b1
           try clear hcv4
           try clear c5
           try clear c6
           try clear c12
           try clear hcv19
           try clear c22
           try clear c23
           try clear c24
           try clear c24b0
           try clear c24b1
           try clear c25
           try clear c25b0
           try clear c25b1
           try clear c26
           try clear c26b0
           try clear c26b1
           try clear c27
           try clear hcv30
           try clear c31
           try clear hcv34
           try clear c35
           try clear hcv38
           try clear c39
           try clear c40
           try clear c41
           try clear c42
           try clear hcv47
           try clear c51
           try clear c52
           try clear c52b0
           try clear c52b1
           try clear c59
           try clear hcz17_0
           try clear hcz17_1
           try clear hcz23_0
           try clear hcz23_1
           try clear hcz28_0
           try clear hcz28_1
           try clear hcz29_0
           try clear hcz29_1
           try clear hcz32_0
           try clear hcz32_1
           try clear hcz33_0
           try clear hcz33_1
           try clear hcz36_0
           try clear hcz36_1
           try clear hcz37_0
           try clear hcz37_1
           try clear hcz40_0
           try clear hcz40_1
           try clear hcz41_0
           try clear hcz41_1
           try clear hfz17_0
           try clear hfz17_1
           try clear hfz23_0
           try clear hfz23_1
           try clear hfz28_0
           try clear hfz28_1
           try clear hfz29_0
           try clear hfz29_1
           try clear hfz32_0
           try clear hfz32_1
           try clear hfz33_0
           try clear hfz33_1
           try clear hfz36_0
           try clear hfz36_1
           try clear hfz37_0
           try clear hfz37_1
           try clear hfz40_0
           try clear hfz40_1
           try clear hfz41_0
           try clear hfz41_1
           try clear p2
           obtain ⟨x3_3, x16_3, x328001_3, u328001, rfl, HA, HK3, HO_3, HO_10, HO_13, HO_328001, BK327, BK332, HB⟩ := hrel
           have hl3_3 := (Kd.R_reads' HO_3.out).1
           rw [hl3_3] at HO_3
           (try simp only [hl3_3])
           (try simp only [hl3_3] at BK327)
           (try simp only [hl3_3] at BK332)
           (try simp only [hl3_3] at HO_10)
           (try simp only [hl3_3] at HO_13)
           (try simp only [hl3_3] at HO_328001)
           cases gk with
           | zero => exact absurd HA.out (by simp [forebearlaw07_FrameOpens.l0])
           | succ k3 =>
            have H := HA.out
            clear HA
            simp only [forebearlaw07_FrameOpens.l0] at H
            by_cases c60 : x16_3 < (x328001_3.length : Int)
            ·rw [if_pos c60] at H
             have c60b0 : decide (x16_3 < (x328001_3.length : Int)) = true := decide_eq_true c60
             clear c60
             by_cases c61 : 0 ≤ x16_3
             ·rw [if_pos c61] at H
              have c61b0 : decide (0 ≤ x16_3) = true := decide_eq_true c61
              clear c61
              obtain ⟨y345, hy345⟩ : ∃ y_ : List Int, y_ = (x328001_3.set (x16_3 : Int).toNat (((rd x328001_3 x16_3) + 1) % 256)) := ⟨_, rfl⟩
              replace H : (forebearlaw07_FrameOpens.l0 k3 l0 x3_3 t333 t338 (wrap64 (x16_3 + 1)) t321 y345) = some r := by first | (rw [hy345]; with_reducible exact H) | (have H2_ := (Option.bind_some _ _).symm.trans H; rw [hy345]; with_reducible exact H2_) | (have H2_ := (Option.bind_some _ _).symm.trans H; with_reducible exact H2_) | with_reducible exact H | (rw [hy345]; exact H) | exact H
              have Ny345 := Aside0.mk hy345
              clear hy345
              have H' := Aside0.mk H
              clear H
              have hnb63 := NB327_332.out
              have hnc63 := NB332_327.out
              have hcz64_0 : wr.cell? ⟨gb327, 0, none⟩ = some (.int .i64 t321) := (blk_cell BK327.out 0).trans rfl
              have hcz64_1 : wr.cell? ⟨gb327, 1, none⟩ = some (u328001) := (blk_cell BK327.out 1).trans rfl
              have hfz64_0 := blk_frozen BK327.out 0
              have hfz64_1 := blk_frozen BK327.out 1
              obtain ⟨Ao65, co65, eo65⟩ := Kd.R_slice HO_328001.out
              subst eo65
              have p344 : 0 ≤ (x16_3 : Int) := of_decide_eq_true (by first | (with_reducible assumption) | assumption)
              have q344 : x16_3 < (x328001_3.length : Int) := of_decide_eq_true (by first | (with_reducible assumption) | assumption)
              obtain ⟨ad344, e344, hx344_0⟩ := Kd.at_int (Kd.R_reads' HO_328001.out).2.2 x16_3 p344 q344
              cases e344
              replace p344 := eq_true p344
              replace q344 := eq_true q344
              have p62 : 0 ≤ (x16_3 : Int) := of_decide_eq_true (by first | (with_reducible assumption) | assumption)
              have q62 : (x16_3 : Int) < ((x328001_3.length : Int) : Int) := of_decide_eq_true (by first | (with_reducible assumption) | assumption)
              obtain ⟨go62, co62, eo62, gb62, gl62, cl62, HG62⟩ := Kd.R_form HO_328001.out (by omega)
              (first | cases eo62 | (injection eo62 with ea_ en_ ec_; (first | subst ea_ | (injection ea_ with ea_; subst ea_)); subst ec_; clear en_))
              have GB62 := Aside0.mk gb62
              have GG62 := Aside0.mk HG62
              clear gb62 gl62 HG62
              (first | simp only [add_plain] at hx344_0 | skip)
              obtain ⟨hx62_0, hf62_0⟩ := Kd.R_celln 0 HO_328001.out (x16_3 : Int) p62 q62
              replace p62 := eq_true p62
              replace q62 := eq_true q62
              have HP66 := Kd.R_putg HO_328001.out (x16_3 : Int) (((rd x328001_3 x16_3) + 1) % 256)
              go_wp2_with (first | ((with_reducible refine gate_store (t := 5) (p := 101) rfl ?_); refine store_event (t := 5) (p := 101) (v := ?vo_w67) (w1 := (wr.setCell ⟨go62, (x16_3 : Int).toNat, none⟩ (.int .u8 (((rd x328001_3 x16_3) + 1) % 256)))) ?hg ?ho ?hn ?hr ?_; (case ho => rfl); (case hg => rfl); (case hn => rfl); (case hr => first | (go_simp; done) | (go_simp; rfl)); intro w67 hw; have hg : wr.grownBy w67 (some go62) := (by rw [hw]; exact HP66.2); have hp_ : Kd.R (Kd.int .u8) 5 w67 w.heap.size (fun k_ => some k_ ≠ (.slice Ao14 x3_3.length co14 : Value).ownBlock) (.slice (some ⟨go62, 0, none⟩) x328001_3.length co65) y345 := (by rw [hw, Ny345.out]; exact HP66.1); clear HP66; have n0_ := Aside0.mk (Kd.R_after (v := (.slice (some ⟨go62, 0, none⟩) x328001_3.length co65)) (v1 := (.slice (some ⟨go62, 0, none⟩) x328001_3.length co65)) (ok := (fun _ => True)) (by (with_reducible repeat (first | apply Kd.R_alloc | apply Kd.R_drewN | apply Kd.R_drew)); exact Kd.R_mono HO_3.out (fun _ hk => ⟨trivial, hk⟩)) hg (.inl rfl)); have n1_ := Aside0.mk (Kd.S_after (v := (.slice (some ⟨go62, 0, none⟩) x328001_3.length co65)) (v1 := (.slice (some ⟨go62, 0, none⟩) x328001_3.length co65)) (ok := (fun k_ => some k_ ≠ (.slice Ao14 x3_3.length co14 : Value).ownBlock ∧ k_ ≠ gb327)) (by (with_reducible repeat (first | apply Kd.S_alloc | apply Kd.S_drewN | apply Kd.S_drew)); exact Kd.S_mono HO_10.out (fun _ hk => ⟨⟨hk.1, hk.2.2⟩, hk.2.1⟩)) hg (.inl rfl)); have n2_ := Aside0.mk (Kd.R_over' (v := (.slice (some ⟨go62, 0, none⟩) x328001_3.length co65)) (by (with_reducible repeat (first | apply Kd.R_alloc | apply Kd.R_drewN | apply Kd.R_drew)); exact HO_13.out) (Kd.R_typed HO_328001.out) (by decide) hg); have n3_ := Aside0.mk (hp_); have n4_ := Aside0.mk (blk_grown (g := gb327) (o := .cells #[.int .i64 t321, .slice (some ⟨go62, 0, none⟩) x328001_3.length co65] 47 (0, 0)) (by (with_reducible repeat (first | refine blk_drewN ?_ _ | refine blk_drew ?_ | refine blk_alloc ?_ _)); exact BK327.out) hg (Kd.R_ne HO_328001.out BK327.out (by decide))); have n5_ := Aside0.mk (blk_grown (g := gb332) (o := .cells #[.int .i64 t328, .string t329] 76 (0, 0)) (by (with_reducible repeat (first | refine blk_drewN ?_ _ | refine blk_drew ?_ | refine blk_alloc ?_ _)); exact BK332.out) hg (Kd.R_ne HO_328001.out BK332.out (by decide))); have n6_ := Aside0.mk ((by rw [hw]; exact below_set (HB.out) GB62.out : Below w.heap.size w w67)); clear HO_3; clear HO_10; clear HO_13; clear HO_328001; clear BK327; clear BK332; clear HB; have HO_3 := n0_; have HO_10 := n1_; have HO_13 := n2_; have HO_328001 := n3_; have BK327 := n4_; have BK332 := n5_; have HB := n6_; clear n0_ n1_ n2_ n3_ n4_ n5_ n6_; clear hg hw hp_))
              (try simp only [← hl3_3])
              go_roundg k3
              case measure => have := HJ8.out; have := HJ44.out; have := HK3.out; omega
              case rel => exact ⟨(x3_3), (wrap64 (x16_3 + 1)), (y345), (.slice (some ⟨go62, 0, none⟩) x328001_3.length co65), (by first | rfl | (simp; done) | (simp [*]; done)), H', ⟨by have := HJ8.out; have := HJ44.out; have := HK3.out; omega⟩, ⟨by (try simp only [hl3_3]); (with_reducible repeat (first | apply Kd.R_alloc | apply Kd.R_drewN | apply Kd.R_drew)); exact Kd.R_mono HO_3.out (fun _ hk => hk.2)⟩, ⟨by (try simp only [hl3_3]); (with_reducible repeat (first | apply Kd.S_alloc | apply Kd.S_drewN | apply Kd.S_drew)); exact Kd.S_mono HO_10.out (fun _ hk => ⟨hk.1.1, ⟨hk.2, hk.1.2⟩⟩)⟩, ⟨by (try simp only [hl3_3]); (with_reducible repeat (first | apply Kd.R_alloc | apply Kd.R_drewN | apply Kd.R_drew)); exact HO_13.out⟩, ⟨by (try simp only [hl3_3]); (with_reducible repeat (first | apply Kd.R_alloc | apply Kd.R_drewN | apply Kd.R_drew)); exact HO_328001.out⟩, ⟨by (try simp only [hl3_3]); (with_reducible repeat (first | refine blk_drewN ?_ _ | refine blk_drew ?_ | refine blk_alloc ?_ _)); exact BK327.out⟩, ⟨by (try simp only [hl3_3]); (with_reducible repeat (first | refine blk_drewN ?_ _ | refine blk_drew ?_ | refine blk_alloc ?_ _)); exact BK332.out⟩, ⟨by repeat (first | (with_reducible first | exact HB.out | apply below_alloc | apply pw_below_drewN | apply below_drew1 | refine below_set ?_ GE327.out | refine below_set ?_ GE332.out) | exact HB.out)⟩⟩
             ·rw [if_neg c61] at H
              exact absurd H (by simp)
            ·rw [if_neg c60] at H
             have c60b0 : decide (x16_3 < (x328001_3.length : Int)) = false := decide_eq_false c60
             clear c60
             by_cases c68 : (strOfNums x3_3).toList = (strOfNums l0).toList
             ·rw [if_pos c68] at H
              have c68b0 : ((strOfNums x3_3).toList == (strOfNums l0).toList) = true := beq_iff_eq.mpr c68
              have c68b1 : ((strOfNums x3_3).toList != (strOfNums l0).toList) = false := bne_eq_false_iff_eq.mpr c68
              clear c68
              replace H := Option.bind_eq_some_iff.mp H
              obtain ⟨t346, A690, H⟩ := H
              replace H : (some t346) = some r := H
              have A69 := Aside0.mk A690
              clear A690
              obtain rfl := Option.some.inj H
              have hnb70 := NB327_332.out
              have hnc70 := NB332_327.out
              have hcz71_0 : wr.cell? ⟨gb327, 0, none⟩ = some (.int .i64 t321) := (blk_cell BK327.out 0).trans rfl
              have hcz71_1 : wr.cell? ⟨gb327, 1, none⟩ = some (u328001) := (blk_cell BK327.out 1).trans rfl
              have hfz71_0 := blk_frozen BK327.out 0
              have hfz71_1 := blk_frozen BK327.out 1
              obtain ⟨Ao72, co72, eo72⟩ := Kd.R_slice HO_328001.out
              subst eo72
              have hcw73 := fun n_ : Nat => own_string (P := Try.prog) Try.underlying45 Try.underlying5 Try.underlying9 (Kd.own_of_R (Kd.R_drewN HO_3.out n_))
              have hcv74 := own_string (P := Try.prog) Try.underlying45 Try.underlying5 Try.underlying9 (Kd.own_of_R HO_3.out)
              have hcv75 := Kd.C_string (P := Try.prog) (A := A0) (c := c0) Try.underlying45 Try.underlying5 Try.underlying9 (Kd.C_below HR0.out HB.out)
              have hcw76 := fun n_ : Nat => Kd.C_string (P := Try.prog) (A := A0) (c := c0) Try.underlying45 Try.underlying5 Try.underlying9 (Kd.C_drewN ((Kd.C_below HR0.out HB.out)) n_)
              obtain ⟨Ao77, co77, eo77⟩ := Kd.S_slice HO_10.out
              subst eo77
              obtain ⟨Ao78, co78, eo78⟩ := Kd.R_slice HO_13.out
              subst eo78
              go_wp2_with (first | (go_at_call 42; (with_reducible refine (forebearlaw07_Same.calls k3 _ _ t333 _ _ t338 t346 _ ?side1 ?side2 ?side3 ?side4 A69.out).mono ?_); (case side1 => repeat (first | exact (Kd.S_reads' HO_10.out).2.2 | (with_reducible refine Kd.C_alloc ?_ _) | (with_reducible refine Kd.C_drewN ?_ _) | (with_reducible refine Kd.C_drew ?_))); (case side2 => exact (Kd.S_reads' HO_10.out).2.1); (case side3 => repeat (first | exact (Kd.R_reads' HO_13.out).2.2 | (with_reducible refine Kd.C_alloc ?_ _) | (with_reducible refine Kd.C_drewN ?_ _) | (with_reducible refine Kd.C_drew ?_))); (case side4 => exact (Kd.R_reads' HO_13.out).2.1); rintro e w' ⟨rfl, ⟨nd, rfl⟩⟩))
              go_ret
              exact ⟨by first | rfl | (simp [errW_none, errW_some] <;> rfl) | (simp [*, errW_none, errW_some] <;> rfl), by repeat (first | (with_reducible first | exact HB.out | apply below_alloc | apply pw_below_drewN | apply below_drew1 | refine below_set ?_ GE327.out | refine below_set ?_ GE332.out) | exact HB.out)⟩
             ·rw [if_neg c68] at H
              have c68b0 : ((strOfNums x3_3).toList == (strOfNums l0).toList) = false := beq_eq_false_iff_ne.mpr c68
              have c68b1 : ((strOfNums x3_3).toList != (strOfNums l0).toList) = true := bne_iff_ne.mpr c68
              obtain rfl := Option.some.inj H
              have hnb79 := NB327_332.out
              have hnc79 := NB332_327.out
              have hcz80_0 : wr.cell? ⟨gb327, 0, none⟩ = some (.int .i64 t321) := (blk_cell BK327.out 0).trans rfl
              have hcz80_1 : wr.cell? ⟨gb327, 1, none⟩ = some (u328001) := (blk_cell BK327.out 1).trans rfl
              have hfz80_0 := blk_frozen BK327.out 0
              have hfz80_1 := blk_frozen BK327.out 1
              obtain ⟨Ao81, co81, eo81⟩ := Kd.R_slice HO_328001.out
              subst eo81
              have hcw82 := fun n_ : Nat => own_string (P := Try.prog) Try.underlying45 Try.underlying5 Try.underlying9 (Kd.own_of_R (Kd.R_drewN HO_3.out n_))
              have hcv83 := own_string (P := Try.prog) Try.underlying45 Try.underlying5 Try.underlying9 (Kd.own_of_R HO_3.out)
              have hcv84 := Kd.C_string (P := Try.prog) (A := A0) (c := c0) Try.underlying45 Try.underlying5 Try.underlying9 (Kd.C_below HR0.out HB.out)
              have hcw85 := fun n_ : Nat => Kd.C_string (P := Try.prog) (A := A0) (c := c0) Try.underlying45 Try.underlying5 Try.underlying9 (Kd.C_drewN ((Kd.C_below HR0.out HB.out)) n_)
              go_wp2
              go_ret
              exact ⟨by first | rfl | (simp [errW_none, errW_some] <;> rfl) | (simp [*, errW_none, errW_some] <;> rfl), by repeat (first | (with_reducible first | exact HB.out | apply below_alloc | apply pw_below_drewN | apply below_drew1 | refine below_set ?_ GE327.out | refine below_set ?_ GE332.out) | exact HB.out)⟩
   ·rw [if_neg c6] at H
    exact absurd H (by simp)
 ·replace c3 := Bool.eq_false_iff.mpr c3
  subst c3
  have H1 : (some false) = some r := by rw [if_neg (show ¬ (false = true) by decide)] at H; exact H
  clear H
  have H := H1
  clear H1
  obtain rfl := Option.some.inj H
  go_enter Try.func12, Try.ntmps12
  go_wp2_with (first | ((with_reducible refine gate_callee (f := 23) rfl ?_); refine goesL_ (some 17) rfl rfl Try.func23 (by kernel_rfl) rfl #[] rfl (by (try simp only [List.map_toArray, List.map_cons, List.map_nil]); first | done | rfl | (simp only [List.length_drop, List.length_take]; rfl)) ?_; (with_reducible refine (forebearlaw07_awake.calls k  false _ A2.out).mono ?_); rintro e w86 ⟨rfl, hb⟩; refine ⟨_, rfl, ?_⟩; have n0_ := Aside0.mk (below_step (by repeat (first | (with_reducible first | exact HB.out | apply below_alloc | apply pw_below_drewN | apply below_drew1) | exact HB.out)) hb); clear HB; have HB := n0_; clear n0_; (try clear hb); (try clear hb2); (try clear hk); (try clear hi)))
  go_ret
  exact ⟨by first | rfl | (simp [errW_none, errW_some] <;> rfl) | (simp [*, errW_none, errW_some] <;> rfl), by repeat (first | (with_reducible first | exact HB.out | apply below_alloc | apply pw_below_drewN | apply below_drew1) | exact HB.out)⟩

/-- THE ONE PURE STATEMENT of forebearlaw07_FrameOpens. -/
def forebearlaw07_FrameOpens.Pure : Prop := ∀ (l0 : List Int), (l0.length * 1 ≤ 140737488351232 ∧ l0.length ≤ 9223372036854775807 ∧ ∀ y_l0 ∈ l0, (Lit.int .u8 y_l0).wf = true) → ∃ k, forebearlaw07_FrameOpens.f k l0 = some true
theorem forebearlaw07_FrameOpens.walk (P : forebearlaw07_FrameOpens.Pure) (l0 : List Int) (A0 : Option Addr) (c0 : Nat) (w : World) (g0 : (l0.length * 1 ≤ 140737488351232 ∧ l0.length ≤ 9223372036854775807 ∧ ∀ y_l0 ∈ l0, (Lit.int .u8 y_l0).wf = true)) (hc0 : l0.length ≤ c0) (hr0 : Kd.C (Kd.int .u8) w A0 l0.length l0) :
  Calls Try.prog 12 #[.slice A0 l0.length c0] w fun e w' => e = .returned (.bool true) ∧ Below w.heap.size w w' := by
 obtain ⟨k, h⟩ := P l0 g0
 refine (forebearlaw07_FrameOpens.calls k _ _ l0 true w hr0 hc0 h).mono ?_
 rintro e w' ⟨rfl, hd⟩
 exact ⟨rfl, hd⟩

end Go.Proofs.Ytgmlhcjcaebfgaa.MA

/- Laid by this claim's own program (myprint) out of the translation: functions that the laws of the group A reach, each as a plain function, with the proof that the Go code comes to it. No condition. -/
import Derived.Test.YtgmlhcjcaebfgaaMAx0
import Derived.Test.YtgmlhcjcaebfgaaMAx12
import Derived.Test.YtgmlhcjcaebfgaaMAx13
import Derived.Test.YtgmlhcjcaebfgaaMAx14
import Derived.Test.YtgmlhcjcaebfgaaMAx17
namespace Go.Proofs.Ytgmlhcjcaebfgaa.MA
open Go.Proofs.Ytgmlhcjcaebfgaa.Opening
open Go.RowKit Go.Proofs.YtgmlhcjcaebfgaaW.PrintWords Go.Proofs.YtgmlhcjcaebfgaaW.PrintLast Go.Proofs.YtgmlhcjcaebfgaaW.PrintMore
attribute [local go_sem] max2_int min2_int max_two min_two max_three min_three max_four min_four   -- for this text's walks alone
set_option linter.unusedVariables false
set_option linter.unusedSimpArgs false

/-! ### forebearlaw07_FrameTorn: function 13 -/
mutual
def forebearlaw07_FrameTorn.j0 : Nat → List (S47) → Int → List Int → Bool → Option (Bool)
 | 0, _, _, _, _ => none
 | k + 1, x0, x1, x5, x26 => if x26 = true then (if (x5.length : Int) = 0 then (some true) else (some (decide ((x0.length : Int) > 300)))) else (if 0 ≤ (mn (mx x1 0) (x5.length : Int)) then (if (mn (mx x1 0) (x5.length : Int)) ≤ (x5.length : Int) then ((frame_Cut.f k (x5.take ((mn (mx x1 0) (x5.length : Int)) : Int).toNat)).bind fun bt356 => (forebearlaw07_FrameTorn.l0 k x0 (mn (mx x1 0) (x5.length : Int)) bt356.1 bt356.2.1 bt356.2.2 0 0)) else (none)) else (none))
def forebearlaw07_FrameTorn.l0 : Nat → List (S47) → Int → List (S47) → Int → Int → Int → Int → Option (Bool)
 | 0, _, _, _, _, _, _, _ => none
 | k + 1, x0, x1, x7, x8, x9, x10, x11 => if x11 < (x0.length : Int) then (if 0 ≤ x11 then (if (wrap64 ((((rd_T47 x0 x11).f1).length : Int) + 9)) > (wrap64 (x1 - x10)) then (if (x7.length : Int) = x11 then (if x8 = x10 then (if ((x9 == 0) == (x8 == x1)) = true then (if x9 = 0 then (some true) else (some (x9 == 10))) else (some false)) else (some false)) else (some false)) else (if x11 ≥ (x7.length : Int) then (some false) else (if x11 < (x7.length : Int) then (if ((rd_T47 x7 x11).f0) = ((rd_T47 x0 x11).f0) then (if (strOfNums ((rd_T47 x7 x11).f1)).toList = (strOfNums ((rd_T47 x0 x11).f1)).toList then (forebearlaw07_FrameTorn.l0 k x0 x1 x7 x8 x9 (wrap64 (x10 + (wrap64 ((((rd_T47 x0 x11).f1).length : Int) + 9)))) (wrap64 (x11 + 1))) else (some false)) else (some false)) else (none)))) else (none)) else (if (x7.length : Int) = (x0.length : Int) then (if x8 = x1 then (some (x9 == 0)) else (some false)) else (some false))
end
def forebearlaw07_FrameTorn.f (k : Nat) (l0 : List (S47)) (a1 : Int) : Option (Bool) := (forebearlaw07_awake.f k).bind fun t347 => (if t347 = true then ((frame_Row.f k l0).bind fun bt348 => (if bt348.2 = 0 then (forebearlaw07_FrameTorn.j0 k l0 a1 bt348.1 (decide ((l0.length : Int) > 300))) else (forebearlaw07_FrameTorn.j0 k l0 a1 bt348.1 true))) else (some false))
theorem forebearlaw07_FrameTorn.mono_l : ∀ k, (∀ y0 y1 y2 y3, LeO (forebearlaw07_FrameTorn.j0 k y0 y1 y2 y3) (forebearlaw07_FrameTorn.j0 (k + 1) y0 y1 y2 y3)) ∧ (∀ y0 y1 y2 y3 y4 y5 y6, LeO (forebearlaw07_FrameTorn.l0 k y0 y1 y2 y3 y4 y5 y6) (forebearlaw07_FrameTorn.l0 (k + 1) y0 y1 y2 y3 y4 y5 y6))
 | 0 => ⟨fun _ _ _ _ r h => by simp [forebearlaw07_FrameTorn.j0] at h, fun _ _ _ _ _ _ _ r h => by simp [forebearlaw07_FrameTorn.l0] at h⟩
 | k + 1 => by
  obtain ⟨ih0, ih1⟩ := forebearlaw07_FrameTorn.mono_l k
  refine ⟨?_, ?_⟩
  ·intro y0 y1 y2 y3
   unfold forebearlaw07_FrameTorn.j0
   repeat' first
   | (with_reducible exact ih0 _ _ _ _)
   | (with_reducible exact ih1 _ _ _ _ _ _ _)
   | (with_reducible exact forebearlaw07_awake.mono _)
   | (with_reducible exact frame_Cut.mono _ _)
   | (with_reducible exact frame_Row.mono _ _)
   | (with_reducible exact LeO.refl _)
   | (with_reducible exact LeO.none _)
   | (with_reducible refine LeO.ite ?_ ?_)
   | (with_reducible refine LeO.bind ?_ (fun _ => ?_))
   | exact ih0 _ _ _ _
   | exact ih1 _ _ _ _ _ _ _
   | exact forebearlaw07_awake.mono _
   | exact frame_Cut.mono _ _
   | exact frame_Row.mono _ _
   | exact LeO.none _
   | refine LeO.ite ?_ ?_
   | refine LeO.bind ?_ (fun _ => ?_)
  ·intro y0 y1 y2 y3 y4 y5 y6
   unfold forebearlaw07_FrameTorn.l0
   repeat' first
   | (with_reducible exact ih0 _ _ _ _)
   | (with_reducible exact ih1 _ _ _ _ _ _ _)
   | (with_reducible exact forebearlaw07_awake.mono _)
   | (with_reducible exact frame_Cut.mono _ _)
   | (with_reducible exact frame_Row.mono _ _)
   | (with_reducible exact LeO.refl _)
   | (with_reducible exact LeO.none _)
   | (with_reducible refine LeO.ite ?_ ?_)
   | (with_reducible refine LeO.bind ?_ (fun _ => ?_))
   | exact ih0 _ _ _ _
   | exact ih1 _ _ _ _ _ _ _
   | exact forebearlaw07_awake.mono _
   | exact frame_Cut.mono _ _
   | exact frame_Row.mono _ _
   | exact LeO.none _
   | refine LeO.ite ?_ ?_
   | refine LeO.bind ?_ (fun _ => ?_)
theorem forebearlaw07_FrameTorn.mono : ∀ a0 a1 k, LeO (forebearlaw07_FrameTorn.f k a0 a1) (forebearlaw07_FrameTorn.f (k + 1) a0 a1) := by
 intro a0 a1 k
 obtain ⟨ih0, ih1⟩ := forebearlaw07_FrameTorn.mono_l k
 unfold forebearlaw07_FrameTorn.f
 repeat' first
   | (with_reducible exact ih0 _ _ _ _)
   | (with_reducible exact ih1 _ _ _ _ _ _ _)
   | (with_reducible exact forebearlaw07_awake.mono _)
   | (with_reducible exact frame_Cut.mono _ _)
   | (with_reducible exact frame_Row.mono _ _)
   | (with_reducible exact LeO.refl _)
   | (with_reducible exact LeO.none _)
   | (with_reducible refine LeO.ite ?_ ?_)
   | (with_reducible refine LeO.bind ?_ (fun _ => ?_))
   | exact ih0 _ _ _ _
   | exact ih1 _ _ _ _ _ _ _
   | exact forebearlaw07_awake.mono _
   | exact frame_Cut.mono _ _
   | exact frame_Row.mono _ _
   | exact LeO.none _
   | refine LeO.ite ?_ ?_
   | refine LeO.bind ?_ (fun _ => ?_)
set_option maxHeartbeats 8000000 in
set_option maxRecDepth 100000 in
theorem forebearlaw07_FrameTorn.calls (k : Nat) (A0 : Option Addr) (c0 : Nat) (l0 : List (S47)) (a1 : Int) (r : Bool) (w : World) (hr0 : Kd.C k47 w A0 l0.length l0) (hc0 : l0.length ≤ c0) (h : forebearlaw07_FrameTorn.f k l0 a1 = some r) :
  Calls Try.prog 13 #[.slice A0 l0.length c0, .int .i64 a1] w fun e w' => e = .returned (.bool r) ∧ Below w.heap.size w w' := by
 have HR0 := Aside0.mk hr0
 have HC0 := Aside0.mk hc0
 clear hr0 hc0
 have HB := Aside0.mk (Below.refl w.heap.size w)
 have H : ((forebearlaw07_awake.f k).bind fun t347 => (if t347 = true then ((frame_Row.f k l0).bind fun bt348 => (if bt348.2 = 0 then (forebearlaw07_FrameTorn.j0 k l0 a1 bt348.1 (decide ((l0.length : Int) > 300))) else (forebearlaw07_FrameTorn.j0 k l0 a1 bt348.1 true))) else (some false))) = some r := h
 clear h
 replace H := Option.bind_eq_some_iff.mp H
 obtain ⟨t347, A30, H⟩ := H
 replace H : (if t347 = true then ((frame_Row.f k l0).bind fun bt348 => (if bt348.2 = 0 then (forebearlaw07_FrameTorn.j0 k l0 a1 bt348.1 (decide ((l0.length : Int) > 300))) else (forebearlaw07_FrameTorn.j0 k l0 a1 bt348.1 true))) else (some false)) = some r := H
 have A3 := Aside0.mk A30
 clear A30
 by_cases c4 : t347 = true
 ·subst c4
  have H1 : ((frame_Row.f k l0).bind fun bt348 => (if bt348.2 = 0 then (forebearlaw07_FrameTorn.j0 k l0 a1 bt348.1 (decide ((l0.length : Int) > 300))) else (forebearlaw07_FrameTorn.j0 k l0 a1 bt348.1 true))) = some r := by rw [if_pos rfl] at H; exact H
  clear H
  have H := H1
  clear H1
  replace H := Option.bind_eq_some_iff.mp H
  obtain ⟨⟨t348, t349⟩, A50, H⟩ := H
  replace H : (if t349 = 0 then (forebearlaw07_FrameTorn.j0 k l0 a1 t348 (decide ((l0.length : Int) > 300))) else (forebearlaw07_FrameTorn.j0 k l0 a1 t348 true)) = some r := H
  have A5 := Aside0.mk A50
  clear A50
  have HC6 := Aside0.mk H
  clear H
  go_enter Try.func13, Try.ntmps13
  go_upto_region 4 with (first | (go_at_call 23; (with_reducible refine (forebearlaw07_awake.calls k  true _ A3.out).mono ?_); rintro e w7 ⟨rfl, hb⟩; have n0_ := Aside0.mk (below_step (by repeat (first | (with_reducible first | exact HB.out | apply below_alloc | apply pw_below_drewN | apply below_drew1) | exact HB.out)) hb); clear HB; have HB := n0_; clear n0_; (try clear hb); (try clear hb2); (try clear hk); (try clear hi)) | (go_at_call 38; (with_reducible refine (frame_Row.calls k _ _ l0 t348 t349 _ ?side1 ?side2 A5.out).mono ?_); (case side1 => repeat (first | exact (Kd.C_below HR0.out HB.out) | (with_reducible refine Kd.C_alloc ?_ _) | (with_reducible refine Kd.C_drewN ?_ _) | (with_reducible refine Kd.C_drew ?_))); (case side2 => exact HC0.out); rintro e w8 ⟨v350, rfl, ho0, hb⟩; have n0_ := Aside0.mk (Kd.R_lower ho0 (below_size (by repeat (first | (with_reducible first | exact HB.out | apply below_alloc | apply pw_below_drewN | apply below_drew1) | exact HB.out)))); have n1_ := Aside0.mk (below_step (by repeat (first | (with_reducible first | exact HB.out | apply below_alloc | apply pw_below_drewN | apply below_drew1) | exact HB.out)) hb); clear HB; have HO351 := n0_; have HB := n1_; clear n0_ n1_; (try clear hb); (try clear hb2); (try clear hk); (try clear hi); (try clear ho0)))
  repeat (go_quiet (first | (go_at_call 23; (with_reducible refine (forebearlaw07_awake.calls k  true _ A3.out).mono ?_); rintro e w7 ⟨rfl, hb⟩; have n0_ := Aside0.mk (below_step (by repeat (first | (with_reducible first | exact HB.out | apply below_alloc | apply pw_below_drewN | apply below_drew1) | exact HB.out)) hb); clear HB; have HB := n0_; clear n0_; (try clear hb); (try clear hb2); (try clear hk); (try clear hi)) | (go_at_call 38; (with_reducible refine (frame_Row.calls k _ _ l0 t348 t349 _ ?side1 ?side2 A5.out).mono ?_); (case side1 => repeat (first | exact (Kd.C_below HR0.out HB.out) | (with_reducible refine Kd.C_alloc ?_ _) | (with_reducible refine Kd.C_drewN ?_ _) | (with_reducible refine Kd.C_drew ?_))); (case side2 => exact HC0.out); rintro e w8 ⟨v350, rfl, ho0, hb⟩; have n0_ := Aside0.mk (Kd.R_lower ho0 (below_size (by repeat (first | (with_reducible first | exact HB.out | apply below_alloc | apply pw_below_drewN | apply below_drew1) | exact HB.out)))); have n1_ := Aside0.mk (below_step (by repeat (first | (with_reducible first | exact HB.out | apply below_alloc | apply pw_below_drewN | apply below_drew1) | exact HB.out)) hb); clear HB; have HO351 := n0_; have HB := n1_; clear n0_ n1_; (try clear hb); (try clear hb2); (try clear hk); (try clear hi); (try clear ho0))); go_upto_region 4 with (first | (go_at_call 23; (with_reducible refine (forebearlaw07_awake.calls k  true _ A3.out).mono ?_); rintro e w7 ⟨rfl, hb⟩; have n0_ := Aside0.mk (below_step (by repeat (first | (with_reducible first | exact HB.out | apply below_alloc | apply pw_below_drewN | apply below_drew1) | exact HB.out)) hb); clear HB; have HB := n0_; clear n0_; (try clear hb); (try clear hb2); (try clear hk); (try clear hi)) | (go_at_call 38; (with_reducible refine (frame_Row.calls k _ _ l0 t348 t349 _ ?side1 ?side2 A5.out).mono ?_); (case side1 => repeat (first | exact (Kd.C_below HR0.out HB.out) | (with_reducible refine Kd.C_alloc ?_ _) | (with_reducible refine Kd.C_drewN ?_ _) | (with_reducible refine Kd.C_drew ?_))); (case side2 => exact HC0.out); rintro e w8 ⟨v350, rfl, ho0, hb⟩; have n0_ := Aside0.mk (Kd.R_lower ho0 (below_size (by repeat (first | (with_reducible first | exact HB.out | apply below_alloc | apply pw_below_drewN | apply below_drew1) | exact HB.out)))); have n1_ := Aside0.mk (below_step (by repeat (first | (with_reducible first | exact HB.out | apply below_alloc | apply pw_below_drewN | apply below_drew1) | exact HB.out)) hb); clear HB; have HO351 := n0_; have HB := n1_; clear n0_ n1_; (try clear hb); (try clear hb2); (try clear hk); (try clear hi); (try clear ho0))))
  (try simp only [Act.put, List.setIfInBounds_toArray, List.set_cons_zero, List.set_cons_succ])
  go_cut [26] (fun v26 wc => ∃ (kq : Nat) (x26_5 : Bool), v26 = .bool x26_5 ∧ Aside0 (forebearlaw07_FrameTorn.j0 kq l0 a1 t348 x26_5 = some r) ∧ Aside0 (kq ≤ k) ∧ Aside0 (Kd.R (Kd.int .u8) 5 wc w.heap.size (fun _ => True) v350 t348) ∧ Aside0 (Below w.heap.size w wc))
  case first =>
   have H := HC6.out
   clear HC6
   by_cases c9 : t349 = 0
   ·rw [if_pos c9] at H
    have c9b0 : (t349 == 0) = true := beq_iff_eq.mpr c9
    have c9b1 : (t349 != 0) = false := bne_eq_false_iff_eq.mpr c9
    clear c9
    (first | rw [c9b0] | (simp only [i64_w, i32_w]; rw [c9b0]) | skip)
    have H' := Aside0.mk H
    clear H
    go_wp2
    repeat (go_quiet (fail); try go_wp2)
    go_meet
    case rel => exact ⟨_, (decide ((l0.length : Int) > 300)), (by first | rfl | (simp; done) | (simp [*]; done)), H', ⟨by first | omega | exact Nat.le_refl _⟩, ⟨by (with_reducible repeat (first | apply Kd.R_alloc | apply Kd.R_drewN | apply Kd.R_drew)); exact HO351.out⟩, ⟨by repeat (first | (with_reducible first | exact HB.out | apply below_alloc | apply pw_below_drewN | apply below_drew1) | exact HB.out)⟩⟩
   ·rw [if_neg c9] at H
    have c9b0 : (t349 == 0) = false := beq_eq_false_iff_ne.mpr c9
    have c9b1 : (t349 != 0) = true := bne_iff_ne.mpr c9
    (first | rw [c9b0] | (simp only [i64_w, i32_w]; rw [c9b0]) | skip)
    have H' := Aside0.mk H
    clear H
    go_wp2
    repeat (go_quiet (fail); try go_wp2)
    go_meet
    case rel => exact ⟨_, (true), (by first | rfl | (simp; done) | (simp [*]; done)), H', ⟨by first | omega | exact Nat.le_refl _⟩, ⟨by (with_reducible repeat (first | apply Kd.R_alloc | apply Kd.R_drewN | apply Kd.R_drew)); exact HO351.out⟩, ⟨by repeat (first | (with_reducible first | exact HB.out | apply below_alloc | apply pw_below_drewN | apply below_drew1) | exact HB.out)⟩⟩
  case rest =>
   clear HC6
   try clear c1
   try clear p2
   try clear c4
   try clear c9
   try clear c9b0
   try clear c9b1
   obtain ⟨kq, x26_5, rfl, HA, HJ5, HO_5, HB⟩ := hcut
   cases kq with
   | zero => exact absurd HA.out (by simp [forebearlaw07_FrameTorn.j0])
   | succ kj5 =>
    have H := HA.out
    clear HA
    simp only [forebearlaw07_FrameTorn.j0] at H
    by_cases c10 : x26_5 = true
    ·subst c10
     have H1 : (if (t348.length : Int) = 0 then (some true) else (some (decide ((l0.length : Int) > 300)))) = some r := by rw [if_pos rfl] at H; exact H
     clear H
     have H := H1
     clear H1
     by_cases c11 : (t348.length : Int) = 0
     ·rw [if_pos c11] at H
      have c11b0 : ((t348.length : Int) == 0) = true := beq_iff_eq.mpr c11
      have c11b1 : ((t348.length : Int) != 0) = false := bne_eq_false_iff_eq.mpr c11
      clear c11
      obtain rfl := Option.some.inj H
      obtain ⟨Ao12, co12, eo12⟩ := Kd.R_slice HO_5.out
      subst eo12
      go_wp2
      repeat (go_quiet (fail); try go_wp2)
      go_ret
      exact ⟨by first | rfl | (simp [errW_none, errW_some] <;> rfl) | (simp [*, errW_none, errW_some] <;> rfl), by repeat (first | (with_reducible first | exact HB.out | apply below_alloc | apply pw_below_drewN | apply below_drew1) | exact HB.out)⟩
     ·rw [if_neg c11] at H
      have c11b0 : ((t348.length : Int) == 0) = false := beq_eq_false_iff_ne.mpr c11
      have c11b1 : ((t348.length : Int) != 0) = true := bne_iff_ne.mpr c11
      have c11b2 : ¬ (t348 = []) := fun h_ => c11 (by rw [h_]; rfl)
      obtain rfl := Option.some.inj H
      obtain ⟨Ao13, co13, eo13⟩ := Kd.R_slice HO_5.out
      subst eo13
      go_wp2
      repeat (go_quiet (fail); try go_wp2)
      go_ret
      exact ⟨by first | rfl | (simp [errW_none, errW_some] <;> rfl) | (simp [*, errW_none, errW_some] <;> rfl), by repeat (first | (with_reducible first | exact HB.out | apply below_alloc | apply pw_below_drewN | apply below_drew1) | exact HB.out)⟩
    ·replace c10 := Bool.eq_false_iff.mpr c10
     subst c10
     have H1 : (if 0 ≤ (mn (mx a1 0) (t348.length : Int)) then (if (mn (mx a1 0) (t348.length : Int)) ≤ (t348.length : Int) then ((frame_Cut.f kj5 (t348.take ((mn (mx a1 0) (t348.length : Int)) : Int).toNat)).bind fun bt356 => (forebearlaw07_FrameTorn.l0 kj5 l0 (mn (mx a1 0) (t348.length : Int)) bt356.1 bt356.2.1 bt356.2.2 0 0)) else (none)) else (none)) = some r := by rw [if_neg (show ¬ (false = true) by decide)] at H; exact H
     clear H
     have H := H1
     clear H1
     obtain ⟨ji14, hji14⟩ : ∃ j_ : Int, (mx a1 0) = j_ := ⟨_, rfl⟩
     replace H : (if 0 ≤ (mn (ji14) (t348.length : Int)) then (if (mn (ji14) (t348.length : Int)) ≤ (t348.length : Int) then ((frame_Cut.f kj5 (t348.take ((mn (ji14) (t348.length : Int)) : Int).toNat)).bind fun bt356 => (forebearlaw07_FrameTorn.l0 kj5 l0 (mn (ji14) (t348.length : Int)) bt356.1 bt356.2.1 bt356.2.2 0 0)) else (none)) else (none)) = some r := by first | (rw [hji14] at H; exact H) | (simp only [hji14] at H ⊢; exact H)
     have hji14_ : (if a1 < 0 then 0 else a1) = ji14 := hji14
     obtain ⟨ji15, hji15⟩ : ∃ j_ : Int, (mn (ji14) (t348.length : Int)) = j_ := ⟨_, rfl⟩
     replace H : (if 0 ≤ (ji15) then (if (ji15) ≤ (t348.length : Int) then ((frame_Cut.f kj5 (t348.take ((ji15) : Int).toNat)).bind fun bt356 => (forebearlaw07_FrameTorn.l0 kj5 l0 ji15 bt356.1 bt356.2.1 bt356.2.2 0 0)) else (none)) else (none)) = some r := by first | (rw [hji15] at H; exact H) | (simp only [hji15] at H ⊢; exact H)
     have hji15_ : (if (t348.length : Int) < (ji14) then (t348.length : Int) else (ji14)) = ji15 := hji15
     by_cases c16 : 0 ≤ (ji15)
     ·rw [if_pos c16] at H
      have c16b0 := eq_true c16
      have c16b1 : decide (0 ≤ (ji15)) = true := decide_eq_true c16
      clear c16
      by_cases c17 : (ji15) ≤ (t348.length : Int)
      ·rw [if_pos c17] at H
       have c17b0 := eq_true c17
       have c17b1 : decide ((ji15) ≤ (t348.length : Int)) = true := decide_eq_true c17
       clear c17
       obtain ⟨y352, hy352⟩ : ∃ y_ : List Int, y_ = (t348.take ((ji15) : Int).toNat) := ⟨_, rfl⟩
       replace H : ((frame_Cut.f kj5 y352).bind fun bt356 => (forebearlaw07_FrameTorn.l0 kj5 l0 ji15 bt356.1 bt356.2.1 bt356.2.2 0 0)) = some r := by first | (rw [hy352]; with_reducible exact H) | (have H2_ := (Option.bind_some _ _).symm.trans H; rw [hy352]; with_reducible exact H2_) | (have H2_ := (Option.bind_some _ _).symm.trans H; with_reducible exact H2_) | with_reducible exact H | (rw [hy352]; exact H) | exact H
       have Ny352 := Aside0.mk hy352
       clear hy352
       replace H := Option.bind_eq_some_iff.mp H
       obtain ⟨⟨t356, t357, t358⟩, A180, H⟩ := H
       replace H : (forebearlaw07_FrameTorn.l0 kj5 l0 ji15 t356 t357 t358 0 0) = some r := H
       have A18 := Aside0.mk A180
       clear A180
       have H' := Aside0.mk H
       clear H
       obtain ⟨Ao19, co19, eo19⟩ := Kd.R_slice HO_5.out
       subst eo19
       have q20 : ((ji15) : Int) ≤ ((t348.length : Int) : Int) := of_decide_eq_true (by first | (with_reducible assumption) | assumption)
       obtain ⟨i020, hi020, _, hsz20, _⟩ := info_parts info5
       have hroom20 : t348.length ≤ co19 := (Kd.R_reads' HO_5.out).2.1
       have hC20 : Kd.C (Kd.int .u8) _ Ao19 t348.length t348 := (Kd.R_reads' HO_5.out).2.2
       have hcut20 := cut_to (P := Try.prog) 45 5 .i64 Try.underlying45 hi020 Ao19 t348.length co19 (ji15) (of_decide_eq_true (by first | (with_reducible assumption) | assumption)) q20 hroom20
       have hr20 := Kd.C_take (m := ((ji15) : Int).toNat) hC20 (by omega)
       have hy20 : y352.length = ((ji15) : Int).toNat := (by rw [Ny352.out, List.length_take]; omega)
       rw [← Ny352.out] at hr20
       rw [← hy20] at hcut20
       have HR355 := Aside0.mk hr20
       have HC355 := Aside0.mk (show y352.length ≤ co19 from by omega)
       clear hr20 hC20 hroom20 hi020 hsz20
       have KY20 := Aside0.mk hy20
       clear hy20
       have KL20 := Aside0.mk (show ((ji15) : Int).toNat ≤ t348.length from by omega)
       replace q20 := eq_true q20
       go_wp2_with (first | (go_at_call 40; (with_reducible refine (frame_Cut.calls kj5 _ _ y352 t356 t357 t358 _ ?side1 ?side2 A18.out).mono ?_); (case side1 => repeat (first | exact (by repeat (first | (with_reducible exact HR355.out) | (with_reducible refine Kd.C_alloc ?_ _) | (with_reducible refine Kd.C_drewN ?_ _) | (with_reducible refine Kd.C_drew ?_) | exact HR355.out)) | (with_reducible refine Kd.C_alloc ?_ _) | (with_reducible refine Kd.C_drewN ?_ _) | (with_reducible refine Kd.C_drew ?_))); (case side2 => exact HC355.out); rintro e w21 ⟨v359, rfl, ho0, hb⟩; have n0_ := Aside0.mk (Kd.R_below (by (with_reducible repeat (first | apply Kd.R_alloc | apply Kd.R_drewN | apply Kd.R_drew)); exact HO_5.out) hb); have n1_ := Aside0.mk (Kd.S_lower (Kd.S_new' ho0 (Kd.R_lt (by (with_reducible repeat (first | apply Kd.R_alloc | apply Kd.R_drewN | apply Kd.R_drew)); exact HO_5.out))) (below_size (by repeat (first | (with_reducible first | exact HB.out | apply below_alloc | apply pw_below_drewN | apply below_drew1) | exact HB.out)))); have n2_ := Aside0.mk (Kd.C_below (by repeat (first | (with_reducible exact HR355.out) | (with_reducible refine Kd.C_alloc ?_ _) | (with_reducible refine Kd.C_drewN ?_ _) | (with_reducible refine Kd.C_drew ?_) | exact HR355.out)) hb); have n3_ := Aside0.mk (below_step (by repeat (first | (with_reducible first | exact HB.out | apply below_alloc | apply pw_below_drewN | apply below_drew1) | exact HB.out)) hb); clear HO_5; clear HR355; clear HB; have HO_5 := n0_; have HO360 := n1_; have HR355 := n2_; have HB := n3_; clear n0_ n1_ n2_ n3_; (try clear hb); (try clear hb2); (try clear hk); (try clear hi); (try clear ho0)))
       repeat (go_quiet (first | (go_at_call 40; (with_reducible refine (frame_Cut.calls kj5 _ _ y352 t356 t357 t358 _ ?side1 ?side2 A18.out).mono ?_); (case side1 => repeat (first | exact (by repeat (first | (with_reducible exact HR355.out) | (with_reducible refine Kd.C_alloc ?_ _) | (with_reducible refine Kd.C_drewN ?_ _) | (with_reducible refine Kd.C_drew ?_) | exact HR355.out)) | (with_reducible refine Kd.C_alloc ?_ _) | (with_reducible refine Kd.C_drewN ?_ _) | (with_reducible refine Kd.C_drew ?_))); (case side2 => exact HC355.out); rintro e w21 ⟨v359, rfl, ho0, hb⟩; have n0_ := Aside0.mk (Kd.R_below (by (with_reducible repeat (first | apply Kd.R_alloc | apply Kd.R_drewN | apply Kd.R_drew)); exact HO_5.out) hb); have n1_ := Aside0.mk (Kd.S_lower (Kd.S_new' ho0 (Kd.R_lt (by (with_reducible repeat (first | apply Kd.R_alloc | apply Kd.R_drewN | apply Kd.R_drew)); exact HO_5.out))) (below_size (by repeat (first | (with_reducible first | exact HB.out | apply below_alloc | apply pw_below_drewN | apply below_drew1) | exact HB.out)))); have n2_ := Aside0.mk (Kd.C_below (by repeat (first | (with_reducible exact HR355.out) | (with_reducible refine Kd.C_alloc ?_ _) | (with_reducible refine Kd.C_drewN ?_ _) | (with_reducible refine Kd.C_drew ?_) | exact HR355.out)) hb); have n3_ := Aside0.mk (below_step (by repeat (first | (with_reducible first | exact HB.out | apply below_alloc | apply pw_below_drewN | apply below_drew1) | exact HB.out)) hb); clear HO_5; clear HR355; clear HB; have HO_5 := n0_; have HO360 := n1_; have HR355 := n2_; have HB := n3_; clear n0_ n1_ n2_ n3_; (try clear hb); (try clear hb2); (try clear hk); (try clear hi); (try clear ho0))); try go_wp2_with (first | (go_at_call 40; (with_reducible refine (frame_Cut.calls kj5 _ _ y352 t356 t357 t358 _ ?side1 ?side2 A18.out).mono ?_); (case side1 => repeat (first | exact (by repeat (first | (with_reducible exact HR355.out) | (with_reducible refine Kd.C_alloc ?_ _) | (with_reducible refine Kd.C_drewN ?_ _) | (with_reducible refine Kd.C_drew ?_) | exact HR355.out)) | (with_reducible refine Kd.C_alloc ?_ _) | (with_reducible refine Kd.C_drewN ?_ _) | (with_reducible refine Kd.C_drew ?_))); (case side2 => exact HC355.out); rintro e w21 ⟨v359, rfl, ho0, hb⟩; have n0_ := Aside0.mk (Kd.R_below (by (with_reducible repeat (first | apply Kd.R_alloc | apply Kd.R_drewN | apply Kd.R_drew)); exact HO_5.out) hb); have n1_ := Aside0.mk (Kd.S_lower (Kd.S_new' ho0 (Kd.R_lt (by (with_reducible repeat (first | apply Kd.R_alloc | apply Kd.R_drewN | apply Kd.R_drew)); exact HO_5.out))) (below_size (by repeat (first | (with_reducible first | exact HB.out | apply below_alloc | apply pw_below_drewN | apply below_drew1) | exact HB.out)))); have n2_ := Aside0.mk (Kd.C_below (by repeat (first | (with_reducible exact HR355.out) | (with_reducible refine Kd.C_alloc ?_ _) | (with_reducible refine Kd.C_drewN ?_ _) | (with_reducible refine Kd.C_drew ?_) | exact HR355.out)) hb); have n3_ := Aside0.mk (below_step (by repeat (first | (with_reducible first | exact HB.out | apply below_alloc | apply pw_below_drewN | apply below_drew1) | exact HB.out)) hb); clear HO_5; clear HR355; clear HB; have HO_5 := n0_; have HO360 := n1_; have HR355 := n2_; have HB := n3_; clear n0_ n1_ n2_ n3_; (try clear hb); (try clear hb2); (try clear hk); (try clear hi); (try clear ho0))))
       go_loopg [10, 11] kj5 (fun kq v10 v11 w' => ∃ (x10_2 : Int) (x11_2 : Int), v10 = .int .i64 x10_2 ∧ v11 = .int .i64 x11_2 ∧ Aside0 (forebearlaw07_FrameTorn.l0 kq l0 ji15 t356 t357 t358 x10_2 x11_2 = some r) ∧ Aside0 (kq ≤ kj5) ∧ Aside0 (Kd.S k47 47 w' w.heap.size (fun _ => True) v359 t356) ∧ Aside0 (Kd.C (Kd.int .u8) w' Ao19 y352.length y352) ∧ Aside0 (Below w.heap.size w w'))
       case atStart => exact ⟨(0), (0), (by first | rfl | (simp; done) | (simp [*]; done)), (by first | rfl | (simp; done) | (simp [*]; done)), H', ⟨Nat.le_refl _⟩, ⟨by (with_reducible repeat (first | apply Kd.S_alloc | apply Kd.S_drewN | apply Kd.S_drew)); exact Kd.S_mono HO360.out (fun _ hk => trivial)⟩, ⟨by repeat (first | (with_reducible exact HR355.out) | (with_reducible refine Kd.C_alloc ?_ _) | (with_reducible refine Kd.C_drewN ?_ _) | (with_reducible refine Kd.C_drew ?_) | exact HR355.out)⟩, ⟨by repeat (first | (with_reducible first | exact HB.out | apply below_alloc | apply pw_below_drewN | apply below_drew1) | exact HB.out)⟩⟩
       case round =>
        clear H'
        try clear c1
        try clear p2
        try clear q2
        try clear c4
        try clear c9
        try clear c9b0
        try clear c9b1
        try clear c10
        try clear c11
        try clear c11b0
        try clear c11b1
        try clear c11b2
        try clear c13
        try clear c16
        try clear c16b0
        try clear c16b1
        try clear c17
        try clear c17b0
        try clear c17b1
        try clear q20
        try clear p2
        try clear q20
        obtain ⟨x10_2, x11_2, rfl, rfl, HA, HK2, HO_7, HR355, HB⟩ := hrel
        cases gk with
        | zero => exact absurd HA.out (by simp [forebearlaw07_FrameTorn.l0])
        | succ k2 =>
         have H := HA.out
         clear HA
         simp only [forebearlaw07_FrameTorn.l0] at H
         by_cases c22 : x11_2 < (l0.length : Int)
         ·rw [if_pos c22] at H
          have c22b0 : decide (x11_2 < (l0.length : Int)) = true := decide_eq_true c22
          clear c22
          by_cases c23 : 0 ≤ x11_2
          ·rw [if_pos c23] at H
           have c23b0 : decide (0 ≤ x11_2) = true := decide_eq_true c23
           clear c23
           by_cases c24 : (wrap64 ((((rd_T47 l0 x11_2).f1).length : Int) + 9)) > (wrap64 (ji15 - x10_2))
           ·rw [if_pos c24] at H
            have c24b0 : decide ((wrap64 (ji15 - x10_2)) < (wrap64 ((((rd_T47 l0 x11_2).f1).length : Int) + 9))) = true := decide_eq_true c24
            clear c24
            by_cases c25 : (t356.length : Int) = x11_2
            ·rw [if_pos c25] at H
             have c25b0 : ((t356.length : Int) == x11_2) = true := beq_iff_eq.mpr c25
             have c25b1 : ((t356.length : Int) != x11_2) = false := bne_eq_false_iff_eq.mpr c25
             clear c25
             by_cases c26 : t357 = x10_2
             ·rw [if_pos c26] at H
              have c26b0 : (t357 == x10_2) = true := beq_iff_eq.mpr c26
              have c26b1 : (t357 != x10_2) = false := bne_eq_false_iff_eq.mpr c26
              clear c26
              by_cases c27 : ((t358 == 0) == (t357 == ji15)) = true
              ·rw [if_pos c27] at H
               have c27b0 : ((t358 == 0) == (t357 == ji15)) = true := c27
               (try (have c27b1 : decide ((t358 == 0) = (t357 == ji15)) = true := by simpa using c27))
               (try (have c27b2 : ((t358 == 0) == (t357 == ji15)) = true := by simpa using c27))
               (try (have c27b3 : (t357 == ji15) = (t358 == 0) := (eq_of_beq (by simpa using c27)).symm))
               clear c27
               by_cases c28 : t358 = 0
               ·rw [if_pos c28] at H
                have c28b0 : (t358 == 0) = true := beq_iff_eq.mpr c28
                have c28b1 : (t358 != 0) = false := bne_eq_false_iff_eq.mpr c28
                clear c28
                obtain rfl := Option.some.inj H
                have p361 : 0 ≤ (x11_2 : Int) := of_decide_eq_true (by first | (with_reducible assumption) | assumption)
                have q361 : x11_2 < (l0.length : Int) := of_decide_eq_true (by first | (with_reducible assumption) | assumption)
                obtain ⟨ad361, A361_1, c361_1, e361, hx361_0, hx361_1, hl361_1, hi361_1⟩ := at_T47 HR0.out x11_2 p361 q361
                cases e361
                try replace hx361_0 := (HB.out.cell (World.block_lt_of_cell? w _ hx361_0)).trans hx361_0
                try replace hx361_1 := (HB.out.cell (World.block_lt_of_cell? w _ hx361_1)).trans hx361_1
                have HR361_1 := Aside0.mk hi361_1
                have HC361_1 := Aside0.mk hl361_1
                clear hi361_1 hl361_1
                replace p361 := eq_true p361
                replace q361 := eq_true q361
                obtain ⟨Ao29, co29, eo29⟩ := Kd.S_slice HO_7.out
                subst eo29
                go_wp2
                repeat (go_quiet (fail); try go_wp2)
                go_ret
                exact ⟨by first | rfl | (simp [errW_none, errW_some] <;> rfl) | (simp only [← hji14, ← hji15]; first | rfl | (simp [errW_none, errW_some] <;> rfl)) | (simp [*, errW_none, errW_some] <;> rfl), by repeat (first | (with_reducible first | exact HB.out | apply below_alloc | apply pw_below_drewN | apply below_drew1) | exact HB.out)⟩
               ·rw [if_neg c28] at H
                have c28b0 : (t358 == 0) = false := beq_eq_false_iff_ne.mpr c28
                have c28b1 : (t358 != 0) = true := bne_iff_ne.mpr c28
                obtain rfl := Option.some.inj H
                have p361 : 0 ≤ (x11_2 : Int) := of_decide_eq_true (by first | (with_reducible assumption) | assumption)
                have q361 : x11_2 < (l0.length : Int) := of_decide_eq_true (by first | (with_reducible assumption) | assumption)
                obtain ⟨ad361, A361_1, c361_1, e361, hx361_0, hx361_1, hl361_1, hi361_1⟩ := at_T47 HR0.out x11_2 p361 q361
                cases e361
                try replace hx361_0 := (HB.out.cell (World.block_lt_of_cell? w _ hx361_0)).trans hx361_0
                try replace hx361_1 := (HB.out.cell (World.block_lt_of_cell? w _ hx361_1)).trans hx361_1
                have HR361_1 := Aside0.mk hi361_1
                have HC361_1 := Aside0.mk hl361_1
                clear hi361_1 hl361_1
                replace p361 := eq_true p361
                replace q361 := eq_true q361
                obtain ⟨Ao30, co30, eo30⟩ := Kd.S_slice HO_7.out
                subst eo30
                go_wp2
                repeat (go_quiet (fail); try go_wp2)
                go_ret
                exact ⟨by first | rfl | (simp [errW_none, errW_some] <;> rfl) | (simp only [← hji14, ← hji15]; first | rfl | (simp [errW_none, errW_some] <;> rfl)) | (simp [*, errW_none, errW_some] <;> rfl), by repeat (first | (with_reducible first | exact HB.out | apply below_alloc | apply pw_below_drewN | apply below_drew1) | exact HB.out)⟩
              ·rw [if_neg c27] at H
               have c27b0 : ((t358 == 0) == (t357 == ji15)) = false := by simpa using c27
               (try (have c27b1 : decide ((t358 == 0) = (t357 == ji15)) = false := by simpa using c27))
               (try (have c27b2 : ((t358 == 0) == (t357 == ji15)) = false := by simpa using c27))
               (try (have c27b3 : ¬ ((t358 == 0) = (t357 == ji15)) := by simpa using c27))
               clear c27
               obtain rfl := Option.some.inj H
               have p361 : 0 ≤ (x11_2 : Int) := of_decide_eq_true (by first | (with_reducible assumption) | assumption)
               have q361 : x11_2 < (l0.length : Int) := of_decide_eq_true (by first | (with_reducible assumption) | assumption)
               obtain ⟨ad361, A361_1, c361_1, e361, hx361_0, hx361_1, hl361_1, hi361_1⟩ := at_T47 HR0.out x11_2 p361 q361
               cases e361
               try replace hx361_0 := (HB.out.cell (World.block_lt_of_cell? w _ hx361_0)).trans hx361_0
               try replace hx361_1 := (HB.out.cell (World.block_lt_of_cell? w _ hx361_1)).trans hx361_1
               have HR361_1 := Aside0.mk hi361_1
               have HC361_1 := Aside0.mk hl361_1
               clear hi361_1 hl361_1
               replace p361 := eq_true p361
               replace q361 := eq_true q361
               obtain ⟨Ao31, co31, eo31⟩ := Kd.S_slice HO_7.out
               subst eo31
               go_wp2
               repeat (go_quiet (fail); try go_wp2)
               go_ret
               exact ⟨by first | rfl | (simp [errW_none, errW_some] <;> rfl) | (simp only [← hji14, ← hji15]; first | rfl | (simp [errW_none, errW_some] <;> rfl)) | (simp [*, errW_none, errW_some] <;> rfl), by repeat (first | (with_reducible first | exact HB.out | apply below_alloc | apply pw_below_drewN | apply below_drew1) | exact HB.out)⟩
             ·rw [if_neg c26] at H
              have c26b0 : (t357 == x10_2) = false := beq_eq_false_iff_ne.mpr c26
              have c26b1 : (t357 != x10_2) = true := bne_iff_ne.mpr c26
              obtain rfl := Option.some.inj H
              have p361 : 0 ≤ (x11_2 : Int) := of_decide_eq_true (by first | (with_reducible assumption) | assumption)
              have q361 : x11_2 < (l0.length : Int) := of_decide_eq_true (by first | (with_reducible assumption) | assumption)
              obtain ⟨ad361, A361_1, c361_1, e361, hx361_0, hx361_1, hl361_1, hi361_1⟩ := at_T47 HR0.out x11_2 p361 q361
              cases e361
              try replace hx361_0 := (HB.out.cell (World.block_lt_of_cell? w _ hx361_0)).trans hx361_0
              try replace hx361_1 := (HB.out.cell (World.block_lt_of_cell? w _ hx361_1)).trans hx361_1
              have HR361_1 := Aside0.mk hi361_1
              have HC361_1 := Aside0.mk hl361_1
              clear hi361_1 hl361_1
              replace p361 := eq_true p361
              replace q361 := eq_true q361
              obtain ⟨Ao32, co32, eo32⟩ := Kd.S_slice HO_7.out
              subst eo32
              go_wp2
              repeat (go_quiet (fail); try go_wp2)
              go_ret
              exact ⟨by first | rfl | (simp [errW_none, errW_some] <;> rfl) | (simp only [← hji14, ← hji15]; first | rfl | (simp [errW_none, errW_some] <;> rfl)) | (simp [*, errW_none, errW_some] <;> rfl), by repeat (first | (with_reducible first | exact HB.out | apply below_alloc | apply pw_below_drewN | apply below_drew1) | exact HB.out)⟩
            ·rw [if_neg c25] at H
             have c25b0 : ((t356.length : Int) == x11_2) = false := beq_eq_false_iff_ne.mpr c25
             have c25b1 : ((t356.length : Int) != x11_2) = true := bne_iff_ne.mpr c25
             obtain rfl := Option.some.inj H
             have p361 : 0 ≤ (x11_2 : Int) := of_decide_eq_true (by first | (with_reducible assumption) | assumption)
             have q361 : x11_2 < (l0.length : Int) := of_decide_eq_true (by first | (with_reducible assumption) | assumption)
             obtain ⟨ad361, A361_1, c361_1, e361, hx361_0, hx361_1, hl361_1, hi361_1⟩ := at_T47 HR0.out x11_2 p361 q361
             cases e361
             try replace hx361_0 := (HB.out.cell (World.block_lt_of_cell? w _ hx361_0)).trans hx361_0
             try replace hx361_1 := (HB.out.cell (World.block_lt_of_cell? w _ hx361_1)).trans hx361_1
             have HR361_1 := Aside0.mk hi361_1
             have HC361_1 := Aside0.mk hl361_1
             clear hi361_1 hl361_1
             replace p361 := eq_true p361
             replace q361 := eq_true q361
             obtain ⟨Ao33, co33, eo33⟩ := Kd.S_slice HO_7.out
             subst eo33
             go_wp2
             repeat (go_quiet (fail); try go_wp2)
             go_ret
             exact ⟨by first | rfl | (simp [errW_none, errW_some] <;> rfl) | (simp only [← hji14, ← hji15]; first | rfl | (simp [errW_none, errW_some] <;> rfl)) | (simp [*, errW_none, errW_some] <;> rfl), by repeat (first | (with_reducible first | exact HB.out | apply below_alloc | apply pw_below_drewN | apply below_drew1) | exact HB.out)⟩
           ·rw [if_neg c24] at H
            have c24b0 : decide ((wrap64 (ji15 - x10_2)) < (wrap64 ((((rd_T47 l0 x11_2).f1).length : Int) + 9))) = false := decide_eq_false c24
            clear c24
            by_cases c34 : x11_2 ≥ (t356.length : Int)
            ·rw [if_pos c34] at H
             have c34b0 : decide ((t356.length : Int) ≤ x11_2) = true := decide_eq_true c34
             clear c34
             obtain rfl := Option.some.inj H
             have p361 : 0 ≤ (x11_2 : Int) := of_decide_eq_true (by first | (with_reducible assumption) | assumption)
             have q361 : x11_2 < (l0.length : Int) := of_decide_eq_true (by first | (with_reducible assumption) | assumption)
             obtain ⟨ad361, A361_1, c361_1, e361, hx361_0, hx361_1, hl361_1, hi361_1⟩ := at_T47 HR0.out x11_2 p361 q361
             cases e361
             try replace hx361_0 := (HB.out.cell (World.block_lt_of_cell? w _ hx361_0)).trans hx361_0
             try replace hx361_1 := (HB.out.cell (World.block_lt_of_cell? w _ hx361_1)).trans hx361_1
             have HR361_1 := Aside0.mk hi361_1
             have HC361_1 := Aside0.mk hl361_1
             clear hi361_1 hl361_1
             replace p361 := eq_true p361
             replace q361 := eq_true q361
             obtain ⟨Ao35, co35, eo35⟩ := Kd.S_slice HO_7.out
             subst eo35
             go_wp2
             repeat (go_quiet (fail); try go_wp2)
             go_ret
             exact ⟨by first | rfl | (simp [errW_none, errW_some] <;> rfl) | (simp only [← hji14, ← hji15]; first | rfl | (simp [errW_none, errW_some] <;> rfl)) | (simp [*, errW_none, errW_some] <;> rfl), by repeat (first | (with_reducible first | exact HB.out | apply below_alloc | apply pw_below_drewN | apply below_drew1) | exact HB.out)⟩
            ·rw [if_neg c34] at H
             have c34b0 : decide ((t356.length : Int) ≤ x11_2) = false := decide_eq_false c34
             clear c34
             by_cases c36 : x11_2 < (t356.length : Int)
             ·rw [if_pos c36] at H
              have c36b0 : decide (x11_2 < (t356.length : Int)) = true := decide_eq_true c36
              clear c36
              by_cases c37 : ((rd_T47 t356 x11_2).f0) = ((rd_T47 l0 x11_2).f0)
              ·rw [if_pos c37] at H
               have c37b0 : (((rd_T47 t356 x11_2).f0) == ((rd_T47 l0 x11_2).f0)) = true := beq_iff_eq.mpr c37
               have c37b1 : (((rd_T47 t356 x11_2).f0) != ((rd_T47 l0 x11_2).f0)) = false := bne_eq_false_iff_eq.mpr c37
               clear c37
               by_cases c38 : (strOfNums ((rd_T47 t356 x11_2).f1)).toList = (strOfNums ((rd_T47 l0 x11_2).f1)).toList
               ·rw [if_pos c38] at H
                have c38b0 : ((strOfNums ((rd_T47 t356 x11_2).f1)).toList == (strOfNums ((rd_T47 l0 x11_2).f1)).toList) = true := beq_iff_eq.mpr c38
                have c38b1 : ((strOfNums ((rd_T47 t356 x11_2).f1)).toList != (strOfNums ((rd_T47 l0 x11_2).f1)).toList) = false := bne_eq_false_iff_eq.mpr c38
                clear c38
                have H' := Aside0.mk H
                clear H
                have p361 : 0 ≤ (x11_2 : Int) := of_decide_eq_true (by first | (with_reducible assumption) | assumption)
                have q361 : x11_2 < (l0.length : Int) := of_decide_eq_true (by first | (with_reducible assumption) | assumption)
                obtain ⟨ad361, A361_1, c361_1, e361, hx361_0, hx361_1, hl361_1, hi361_1⟩ := at_T47 HR0.out x11_2 p361 q361
                cases e361
                try replace hx361_0 := (HB.out.cell (World.block_lt_of_cell? w _ hx361_0)).trans hx361_0
                try replace hx361_1 := (HB.out.cell (World.block_lt_of_cell? w _ hx361_1)).trans hx361_1
                have HR361_1 := Aside0.mk hi361_1
                have HC361_1 := Aside0.mk hl361_1
                clear hi361_1 hl361_1
                replace p361 := eq_true p361
                replace q361 := eq_true q361
                obtain ⟨Ao39, co39, eo39⟩ := Kd.S_slice HO_7.out
                subst eo39
                have p362 : 0 ≤ (x11_2 : Int) := of_decide_eq_true (by first | (with_reducible assumption) | assumption)
                have q362 : x11_2 < (t356.length : Int) := of_decide_eq_true (by first | (with_reducible assumption) | assumption)
                obtain ⟨ad362, A362_1, c362_1, e362, hx362_0, hx362_1, hl362_1, hi362_1⟩ := at_T47 (Kd.S_reads' HO_7.out).2.2 x11_2 p362 q362
                cases e362
                obtain ⟨ce362, hce362, hMe362, hcc362⟩ := Kd.S_get HO_7.out z47 x11_2 p362 (by first | exact q362 | exact of_decide_eq_true (by first | (with_reducible assumption) | assumption) | (have e_ := (Kd.S_reads' HO_7.out).1; omega))
                obtain ⟨ve362_1, rfl, ge362_1⟩ := k47_openM hMe362
                have hv362_1 := hcc362 1 _ rfl
                rw [add_field _ _ 1 (by omega)] at hv362_1
                replace hv362_1 := Option.some.inj (hv362_1.symm.trans hx362_1)
                rw [hv362_1] at ge362_1
                have HL362_1 := Aside0.mk (show Kd.R (Kd.int .u8) 5 _ _ _ _ ((rd_T47 t356 x11_2).f1) from ge362_1)
                clear hv362_1 ge362_1
                clear hcc362 hce362
                have HR362_1 := Aside0.mk hi362_1
                have HC362_1 := Aside0.mk hl362_1
                clear hi362_1 hl362_1
                replace p362 := eq_true p362
                replace q362 := eq_true q362
                have p363 : 0 ≤ (x11_2 : Int) := of_decide_eq_true (by first | (with_reducible assumption) | assumption)
                have q363 : x11_2 < (l0.length : Int) := of_decide_eq_true (by first | (with_reducible assumption) | assumption)
                obtain ⟨ad363, A363_1, c363_1, e363, hx363_0, hx363_1, hl363_1, hi363_1⟩ := at_T47 HR0.out x11_2 p363 q363
                obtain rfl : ad361 = ad363 := (by injection e363)
                try replace hx363_0 := (HB.out.cell (World.block_lt_of_cell? w _ hx363_0)).trans hx363_0
                try replace hx363_1 := (HB.out.cell (World.block_lt_of_cell? w _ hx363_1)).trans hx363_1
                have HR363_1 := Aside0.mk hi363_1
                have HC363_1 := Aside0.mk hl363_1
                clear hi363_1 hl363_1
                replace p363 := eq_true p363
                replace q363 := eq_true q363
                have ea_ := Option.some.inj (hx361_1.symm.trans hx363_1)
                injection ea_ with ea_ en_ ec_
                subst ea_
                subst ec_
                clear en_
                have p364 : 0 ≤ (x11_2 : Int) := of_decide_eq_true (by first | (with_reducible assumption) | assumption)
                have q364 : x11_2 < (t356.length : Int) := of_decide_eq_true (by first | (with_reducible assumption) | assumption)
                obtain ⟨ad364, A364_1, c364_1, e364, hx364_0, hx364_1, hl364_1, hi364_1⟩ := at_T47 (Kd.S_reads' HO_7.out).2.2 x11_2 p364 q364
                obtain rfl : ad362 = ad364 := (by injection e364)
                obtain ⟨ce364, hce364, hMe364, hcc364⟩ := Kd.S_get HO_7.out z47 x11_2 p364 (by first | exact q364 | exact of_decide_eq_true (by first | (with_reducible assumption) | assumption) | (have e_ := (Kd.S_reads' HO_7.out).1; omega))
                obtain ⟨ve364_1, rfl, ge364_1⟩ := k47_openM hMe364
                have hv364_1 := hcc364 1 _ rfl
                rw [add_field _ _ 1 (by omega)] at hv364_1
                replace hv364_1 := Option.some.inj (hv364_1.symm.trans hx364_1)
                rw [hv364_1] at ge364_1
                have HL364_1 := Aside0.mk (show Kd.R (Kd.int .u8) 5 _ _ _ _ ((rd_T47 t356 x11_2).f1) from ge364_1)
                clear hv364_1 ge364_1
                clear hcc364 hce364
                have HR364_1 := Aside0.mk hi364_1
                have HC364_1 := Aside0.mk hl364_1
                clear hi364_1 hl364_1
                replace p364 := eq_true p364
                replace q364 := eq_true q364
                have ea_ := Option.some.inj (hx362_1.symm.trans hx364_1)
                injection ea_ with ea_ en_ ec_
                subst ea_
                subst ec_
                clear en_
                have hcv40 := Kd.C_string (P := Try.prog) (A := A362_1) (c := c362_1) Try.underlying45 Try.underlying5 Try.underlying9 (by repeat (first | (with_reducible exact HR364_1.out) | (with_reducible refine Kd.C_alloc ?_ _) | (with_reducible refine Kd.C_drewN ?_ _) | (with_reducible refine Kd.C_drew ?_) | exact HR364_1.out))
                have hcw41 := fun n_ : Nat => Kd.C_string (P := Try.prog) (A := A362_1) (c := c362_1) Try.underlying45 Try.underlying5 Try.underlying9 (Kd.C_drewN ((by repeat (first | (with_reducible exact HR364_1.out) | (with_reducible refine Kd.C_alloc ?_ _) | (with_reducible refine Kd.C_drewN ?_ _) | (with_reducible refine Kd.C_drew ?_) | exact HR364_1.out))) n_)
                have p365 : 0 ≤ (x11_2 : Int) := of_decide_eq_true (by first | (with_reducible assumption) | assumption)
                have q365 : x11_2 < (l0.length : Int) := of_decide_eq_true (by first | (with_reducible assumption) | assumption)
                obtain ⟨ad365, A365_1, c365_1, e365, hx365_0, hx365_1, hl365_1, hi365_1⟩ := at_T47 HR0.out x11_2 p365 q365
                obtain rfl : ad361 = ad365 := (by injection e365)
                try replace hx365_0 := (HB.out.cell (World.block_lt_of_cell? w _ hx365_0)).trans hx365_0
                try replace hx365_1 := (HB.out.cell (World.block_lt_of_cell? w _ hx365_1)).trans hx365_1
                have HR365_1 := Aside0.mk hi365_1
                have HC365_1 := Aside0.mk hl365_1
                clear hi365_1 hl365_1
                replace p365 := eq_true p365
                replace q365 := eq_true q365
                have ea_ := Option.some.inj (hx361_1.symm.trans hx365_1)
                injection ea_ with ea_ en_ ec_
                subst ea_
                subst ec_
                clear en_
                have hcv42 := Kd.C_string (P := Try.prog) (A := A361_1) (c := c361_1) Try.underlying45 Try.underlying5 Try.underlying9 (Kd.C_below HR365_1.out HB.out)
                have hcw43 := fun n_ : Nat => Kd.C_string (P := Try.prog) (A := A361_1) (c := c361_1) Try.underlying45 Try.underlying5 Try.underlying9 (Kd.C_drewN ((Kd.C_below HR365_1.out HB.out)) n_)
                go_wp2
                repeat (go_quiet (fail); try go_wp2)
                go_roundg k2
                case measure => have := HJ5.out; have := HK2.out; omega
                case rel => exact ⟨(wrap64 (x10_2 + (wrap64 ((((rd_T47 l0 x11_2).f1).length : Int) + 9)))), (wrap64 (x11_2 + 1)), (by first | rfl | (simp; done) | (simp [*]; done)), (by first | rfl | (simp; done) | (simp [*]; done)), H', ⟨by have := HJ5.out; have := HK2.out; omega⟩, ⟨by (with_reducible repeat (first | apply Kd.S_alloc | apply Kd.S_drewN | apply Kd.S_drew)); exact HO_7.out⟩, ⟨by repeat (first | (with_reducible exact HR355.out) | (with_reducible refine Kd.C_alloc ?_ _) | (with_reducible refine Kd.C_drewN ?_ _) | (with_reducible refine Kd.C_drew ?_) | exact HR355.out)⟩, ⟨by repeat (first | (with_reducible first | exact HB.out | apply below_alloc | apply pw_below_drewN | apply below_drew1) | exact HB.out)⟩⟩
               ·rw [if_neg c38] at H
                have c38b0 : ((strOfNums ((rd_T47 t356 x11_2).f1)).toList == (strOfNums ((rd_T47 l0 x11_2).f1)).toList) = false := beq_eq_false_iff_ne.mpr c38
                have c38b1 : ((strOfNums ((rd_T47 t356 x11_2).f1)).toList != (strOfNums ((rd_T47 l0 x11_2).f1)).toList) = true := bne_iff_ne.mpr c38
                obtain rfl := Option.some.inj H
                have p361 : 0 ≤ (x11_2 : Int) := of_decide_eq_true (by first | (with_reducible assumption) | assumption)
                have q361 : x11_2 < (l0.length : Int) := of_decide_eq_true (by first | (with_reducible assumption) | assumption)
                obtain ⟨ad361, A361_1, c361_1, e361, hx361_0, hx361_1, hl361_1, hi361_1⟩ := at_T47 HR0.out x11_2 p361 q361
                cases e361
                try replace hx361_0 := (HB.out.cell (World.block_lt_of_cell? w _ hx361_0)).trans hx361_0
                try replace hx361_1 := (HB.out.cell (World.block_lt_of_cell? w _ hx361_1)).trans hx361_1
                have HR361_1 := Aside0.mk hi361_1
                have HC361_1 := Aside0.mk hl361_1
                clear hi361_1 hl361_1
                replace p361 := eq_true p361
                replace q361 := eq_true q361
                obtain ⟨Ao44, co44, eo44⟩ := Kd.S_slice HO_7.out
                subst eo44
                have p362 : 0 ≤ (x11_2 : Int) := of_decide_eq_true (by first | (with_reducible assumption) | assumption)
                have q362 : x11_2 < (t356.length : Int) := of_decide_eq_true (by first | (with_reducible assumption) | assumption)
                obtain ⟨ad362, A362_1, c362_1, e362, hx362_0, hx362_1, hl362_1, hi362_1⟩ := at_T47 (Kd.S_reads' HO_7.out).2.2 x11_2 p362 q362
                cases e362
                obtain ⟨ce362, hce362, hMe362, hcc362⟩ := Kd.S_get HO_7.out z47 x11_2 p362 (by first | exact q362 | exact of_decide_eq_true (by first | (with_reducible assumption) | assumption) | (have e_ := (Kd.S_reads' HO_7.out).1; omega))
                obtain ⟨ve362_1, rfl, ge362_1⟩ := k47_openM hMe362
                have hv362_1 := hcc362 1 _ rfl
                rw [add_field _ _ 1 (by omega)] at hv362_1
                replace hv362_1 := Option.some.inj (hv362_1.symm.trans hx362_1)
                rw [hv362_1] at ge362_1
                have HL362_1 := Aside0.mk (show Kd.R (Kd.int .u8) 5 _ _ _ _ ((rd_T47 t356 x11_2).f1) from ge362_1)
                clear hv362_1 ge362_1
                clear hcc362 hce362
                have HR362_1 := Aside0.mk hi362_1
                have HC362_1 := Aside0.mk hl362_1
                clear hi362_1 hl362_1
                replace p362 := eq_true p362
                replace q362 := eq_true q362
                have p363 : 0 ≤ (x11_2 : Int) := of_decide_eq_true (by first | (with_reducible assumption) | assumption)
                have q363 : x11_2 < (l0.length : Int) := of_decide_eq_true (by first | (with_reducible assumption) | assumption)
                obtain ⟨ad363, A363_1, c363_1, e363, hx363_0, hx363_1, hl363_1, hi363_1⟩ := at_T47 HR0.out x11_2 p363 q363
                obtain rfl : ad361 = ad363 := (by injection e363)
                try replace hx363_0 := (HB.out.cell (World.block_lt_of_cell? w _ hx363_0)).trans hx363_0
                try replace hx363_1 := (HB.out.cell (World.block_lt_of_cell? w _ hx363_1)).trans hx363_1
                have HR363_1 := Aside0.mk hi363_1
                have HC363_1 := Aside0.mk hl363_1
                clear hi363_1 hl363_1
                replace p363 := eq_true p363
                replace q363 := eq_true q363
                have ea_ := Option.some.inj (hx361_1.symm.trans hx363_1)
                injection ea_ with ea_ en_ ec_
                subst ea_
                subst ec_
                clear en_
                have p364 : 0 ≤ (x11_2 : Int) := of_decide_eq_true (by first | (with_reducible assumption) | assumption)
                have q364 : x11_2 < (t356.length : Int) := of_decide_eq_true (by first | (with_reducible assumption) | assumption)
                obtain ⟨ad364, A364_1, c364_1, e364, hx364_0, hx364_1, hl364_1, hi364_1⟩ := at_T47 (Kd.S_reads' HO_7.out).2.2 x11_2 p364 q364
                obtain rfl : ad362 = ad364 := (by injection e364)
                obtain ⟨ce364, hce364, hMe364, hcc364⟩ := Kd.S_get HO_7.out z47 x11_2 p364 (by first | exact q364 | exact of_decide_eq_true (by first | (with_reducible assumption) | assumption) | (have e_ := (Kd.S_reads' HO_7.out).1; omega))
                obtain ⟨ve364_1, rfl, ge364_1⟩ := k47_openM hMe364
                have hv364_1 := hcc364 1 _ rfl
                rw [add_field _ _ 1 (by omega)] at hv364_1
                replace hv364_1 := Option.some.inj (hv364_1.symm.trans hx364_1)
                rw [hv364_1] at ge364_1
                have HL364_1 := Aside0.mk (show Kd.R (Kd.int .u8) 5 _ _ _ _ ((rd_T47 t356 x11_2).f1) from ge364_1)
                clear hv364_1 ge364_1
                clear hcc364 hce364
                have HR364_1 := Aside0.mk hi364_1
                have HC364_1 := Aside0.mk hl364_1
                clear hi364_1 hl364_1
                replace p364 := eq_true p364
                replace q364 := eq_true q364
                have ea_ := Option.some.inj (hx362_1.symm.trans hx364_1)
                injection ea_ with ea_ en_ ec_
                subst ea_
                subst ec_
                clear en_
                have hcv45 := Kd.C_string (P := Try.prog) (A := A362_1) (c := c362_1) Try.underlying45 Try.underlying5 Try.underlying9 (by repeat (first | (with_reducible exact HR364_1.out) | (with_reducible refine Kd.C_alloc ?_ _) | (with_reducible refine Kd.C_drewN ?_ _) | (with_reducible refine Kd.C_drew ?_) | exact HR364_1.out))
                have hcw46 := fun n_ : Nat => Kd.C_string (P := Try.prog) (A := A362_1) (c := c362_1) Try.underlying45 Try.underlying5 Try.underlying9 (Kd.C_drewN ((by repeat (first | (with_reducible exact HR364_1.out) | (with_reducible refine Kd.C_alloc ?_ _) | (with_reducible refine Kd.C_drewN ?_ _) | (with_reducible refine Kd.C_drew ?_) | exact HR364_1.out))) n_)
                have p365 : 0 ≤ (x11_2 : Int) := of_decide_eq_true (by first | (with_reducible assumption) | assumption)
                have q365 : x11_2 < (l0.length : Int) := of_decide_eq_true (by first | (with_reducible assumption) | assumption)
                obtain ⟨ad365, A365_1, c365_1, e365, hx365_0, hx365_1, hl365_1, hi365_1⟩ := at_T47 HR0.out x11_2 p365 q365
                obtain rfl : ad361 = ad365 := (by injection e365)
                try replace hx365_0 := (HB.out.cell (World.block_lt_of_cell? w _ hx365_0)).trans hx365_0
                try replace hx365_1 := (HB.out.cell (World.block_lt_of_cell? w _ hx365_1)).trans hx365_1
                have HR365_1 := Aside0.mk hi365_1
                have HC365_1 := Aside0.mk hl365_1
                clear hi365_1 hl365_1
                replace p365 := eq_true p365
                replace q365 := eq_true q365
                have ea_ := Option.some.inj (hx361_1.symm.trans hx365_1)
                injection ea_ with ea_ en_ ec_
                subst ea_
                subst ec_
                clear en_
                have hcv47 := Kd.C_string (P := Try.prog) (A := A361_1) (c := c361_1) Try.underlying45 Try.underlying5 Try.underlying9 (Kd.C_below HR365_1.out HB.out)
                have hcw48 := fun n_ : Nat => Kd.C_string (P := Try.prog) (A := A361_1) (c := c361_1) Try.underlying45 Try.underlying5 Try.underlying9 (Kd.C_drewN ((Kd.C_below HR365_1.out HB.out)) n_)
                go_wp2
                repeat (go_quiet (fail); try go_wp2)
                go_ret
                exact ⟨by first | rfl | (simp [errW_none, errW_some] <;> rfl) | (simp only [← hji14, ← hji15]; first | rfl | (simp [errW_none, errW_some] <;> rfl)) | (simp [*, errW_none, errW_some] <;> rfl), by repeat (first | (with_reducible first | exact HB.out | apply below_alloc | apply pw_below_drewN | apply below_drew1) | exact HB.out)⟩
              ·rw [if_neg c37] at H
               have c37b0 : (((rd_T47 t356 x11_2).f0) == ((rd_T47 l0 x11_2).f0)) = false := beq_eq_false_iff_ne.mpr c37
               have c37b1 : (((rd_T47 t356 x11_2).f0) != ((rd_T47 l0 x11_2).f0)) = true := bne_iff_ne.mpr c37
               obtain rfl := Option.some.inj H
               have p361 : 0 ≤ (x11_2 : Int) := of_decide_eq_true (by first | (with_reducible assumption) | assumption)
               have q361 : x11_2 < (l0.length : Int) := of_decide_eq_true (by first | (with_reducible assumption) | assumption)
               obtain ⟨ad361, A361_1, c361_1, e361, hx361_0, hx361_1, hl361_1, hi361_1⟩ := at_T47 HR0.out x11_2 p361 q361
               cases e361
               try replace hx361_0 := (HB.out.cell (World.block_lt_of_cell? w _ hx361_0)).trans hx361_0
               try replace hx361_1 := (HB.out.cell (World.block_lt_of_cell? w _ hx361_1)).trans hx361_1
               have HR361_1 := Aside0.mk hi361_1
               have HC361_1 := Aside0.mk hl361_1
               clear hi361_1 hl361_1
               replace p361 := eq_true p361
               replace q361 := eq_true q361
               obtain ⟨Ao49, co49, eo49⟩ := Kd.S_slice HO_7.out
               subst eo49
               have p362 : 0 ≤ (x11_2 : Int) := of_decide_eq_true (by first | (with_reducible assumption) | assumption)
               have q362 : x11_2 < (t356.length : Int) := of_decide_eq_true (by first | (with_reducible assumption) | assumption)
               obtain ⟨ad362, A362_1, c362_1, e362, hx362_0, hx362_1, hl362_1, hi362_1⟩ := at_T47 (Kd.S_reads' HO_7.out).2.2 x11_2 p362 q362
               cases e362
               obtain ⟨ce362, hce362, hMe362, hcc362⟩ := Kd.S_get HO_7.out z47 x11_2 p362 (by first | exact q362 | exact of_decide_eq_true (by first | (with_reducible assumption) | assumption) | (have e_ := (Kd.S_reads' HO_7.out).1; omega))
               obtain ⟨ve362_1, rfl, ge362_1⟩ := k47_openM hMe362
               have hv362_1 := hcc362 1 _ rfl
               rw [add_field _ _ 1 (by omega)] at hv362_1
               replace hv362_1 := Option.some.inj (hv362_1.symm.trans hx362_1)
               rw [hv362_1] at ge362_1
               have HL362_1 := Aside0.mk (show Kd.R (Kd.int .u8) 5 _ _ _ _ ((rd_T47 t356 x11_2).f1) from ge362_1)
               clear hv362_1 ge362_1
               clear hcc362 hce362
               have HR362_1 := Aside0.mk hi362_1
               have HC362_1 := Aside0.mk hl362_1
               clear hi362_1 hl362_1
               replace p362 := eq_true p362
               replace q362 := eq_true q362
               have p363 : 0 ≤ (x11_2 : Int) := of_decide_eq_true (by first | (with_reducible assumption) | assumption)
               have q363 : x11_2 < (l0.length : Int) := of_decide_eq_true (by first | (with_reducible assumption) | assumption)
               obtain ⟨ad363, A363_1, c363_1, e363, hx363_0, hx363_1, hl363_1, hi363_1⟩ := at_T47 HR0.out x11_2 p363 q363
               obtain rfl : ad361 = ad363 := (by injection e363)
               try replace hx363_0 := (HB.out.cell (World.block_lt_of_cell? w _ hx363_0)).trans hx363_0
               try replace hx363_1 := (HB.out.cell (World.block_lt_of_cell? w _ hx363_1)).trans hx363_1
               have HR363_1 := Aside0.mk hi363_1
               have HC363_1 := Aside0.mk hl363_1
               clear hi363_1 hl363_1
               replace p363 := eq_true p363
               replace q363 := eq_true q363
               have ea_ := Option.some.inj (hx361_1.symm.trans hx363_1)
               injection ea_ with ea_ en_ ec_
               subst ea_
               subst ec_
               clear en_
               go_wp2
               repeat (go_quiet (fail); try go_wp2)
               go_ret
               exact ⟨by first | rfl | (simp [errW_none, errW_some] <;> rfl) | (simp only [← hji14, ← hji15]; first | rfl | (simp [errW_none, errW_some] <;> rfl)) | (simp [*, errW_none, errW_some] <;> rfl), by repeat (first | (with_reducible first | exact HB.out | apply below_alloc | apply pw_below_drewN | apply below_drew1) | exact HB.out)⟩
             ·rw [if_neg c36] at H
              exact absurd H (by simp)
          ·rw [if_neg c23] at H
           exact absurd H (by simp)
         ·rw [if_neg c22] at H
          have c22b0 : decide (x11_2 < (l0.length : Int)) = false := decide_eq_false c22
          clear c22
          by_cases c50 : (t356.length : Int) = (l0.length : Int)
          ·rw [if_pos c50] at H
           have c50b0 : ((t356.length : Int) == (l0.length : Int)) = true := beq_iff_eq.mpr c50
           have c50b1 : ((t356.length : Int) != (l0.length : Int)) = false := bne_eq_false_iff_eq.mpr c50
           have c50b2 : (t356.length == l0.length) = true := by first | simpa using c50 | (simp at c50 ⊢; omega)
           clear c50
           by_cases c51 : t357 = ji15
           ·rw [if_pos c51] at H
            have c51b0 : (t357 == ji15) = true := beq_iff_eq.mpr c51
            have c51b1 : (t357 != ji15) = false := bne_eq_false_iff_eq.mpr c51
            clear c51
            obtain rfl := Option.some.inj H
            obtain ⟨Ao52, co52, eo52⟩ := Kd.S_slice HO_7.out
            subst eo52
            go_wp2
            repeat (go_quiet (fail); try go_wp2)
            go_ret
            exact ⟨by first | rfl | (simp [errW_none, errW_some] <;> rfl) | (simp only [← hji14, ← hji15]; first | rfl | (simp [errW_none, errW_some] <;> rfl)) | (simp [*, errW_none, errW_some] <;> rfl), by repeat (first | (with_reducible first | exact HB.out | apply below_alloc | apply pw_below_drewN | apply below_drew1) | exact HB.out)⟩
           ·rw [if_neg c51] at H
            have c51b0 : (t357 == ji15) = false := beq_eq_false_iff_ne.mpr c51
            have c51b1 : (t357 != ji15) = true := bne_iff_ne.mpr c51
            obtain rfl := Option.some.inj H
            obtain ⟨Ao53, co53, eo53⟩ := Kd.S_slice HO_7.out
            subst eo53
            go_wp2
            repeat (go_quiet (fail); try go_wp2)
            go_ret
            exact ⟨by first | rfl | (simp [errW_none, errW_some] <;> rfl) | (simp only [← hji14, ← hji15]; first | rfl | (simp [errW_none, errW_some] <;> rfl)) | (simp [*, errW_none, errW_some] <;> rfl), by repeat (first | (with_reducible first | exact HB.out | apply below_alloc | apply pw_below_drewN | apply below_drew1) | exact HB.out)⟩
          ·rw [if_neg c50] at H
           have c50b0 : ((t356.length : Int) == (l0.length : Int)) = false := beq_eq_false_iff_ne.mpr c50
           have c50b1 : ((t356.length : Int) != (l0.length : Int)) = true := bne_iff_ne.mpr c50
           have c50b2 : (t356.length == l0.length) = false := by first | simpa using c50 | (simp at c50 ⊢; omega)
           obtain rfl := Option.some.inj H
           obtain ⟨Ao54, co54, eo54⟩ := Kd.S_slice HO_7.out
           subst eo54
           go_wp2
           repeat (go_quiet (fail); try go_wp2)
           go_ret
           exact ⟨by first | rfl | (simp [errW_none, errW_some] <;> rfl) | (simp only [← hji14, ← hji15]; first | rfl | (simp [errW_none, errW_some] <;> rfl)) | (simp [*, errW_none, errW_some] <;> rfl), by repeat (first | (with_reducible first | exact HB.out | apply below_alloc | apply pw_below_drewN | apply below_drew1) | exact HB.out)⟩
      ·rw [if_neg c17] at H
       exact absurd H (by simp)
     ·rw [if_neg c16] at H
      exact absurd H (by simp)
 ·replace c4 := Bool.eq_false_iff.mpr c4
  subst c4
  have H1 : (some false) = some r := by rw [if_neg (show ¬ (false = true) by decide)] at H; exact H
  clear H
  have H := H1
  clear H1
  obtain rfl := Option.some.inj H
  go_enter Try.func13, Try.ntmps13
  go_wp2_with (first | (go_at_call 23; (with_reducible refine (forebearlaw07_awake.calls k  false _ A3.out).mono ?_); rintro e w55 ⟨rfl, hb⟩; have n0_ := Aside0.mk (below_step (by repeat (first | (with_reducible first | exact HB.out | apply below_alloc | apply pw_below_drewN | apply below_drew1) | exact HB.out)) hb); clear HB; have HB := n0_; clear n0_; (try clear hb); (try clear hb2); (try clear hk); (try clear hi)))
  repeat (go_quiet (first | (go_at_call 23; (with_reducible refine (forebearlaw07_awake.calls k  false _ A3.out).mono ?_); rintro e w55 ⟨rfl, hb⟩; have n0_ := Aside0.mk (below_step (by repeat (first | (with_reducible first | exact HB.out | apply below_alloc | apply pw_below_drewN | apply below_drew1) | exact HB.out)) hb); clear HB; have HB := n0_; clear n0_; (try clear hb); (try clear hb2); (try clear hk); (try clear hi))); try go_wp2_with (first | (go_at_call 23; (with_reducible refine (forebearlaw07_awake.calls k  false _ A3.out).mono ?_); rintro e w55 ⟨rfl, hb⟩; have n0_ := Aside0.mk (below_step (by repeat (first | (with_reducible first | exact HB.out | apply below_alloc | apply pw_below_drewN | apply below_drew1) | exact HB.out)) hb); clear HB; have HB := n0_; clear n0_; (try clear hb); (try clear hb2); (try clear hk); (try clear hi))))
  go_ret
  exact ⟨by first | rfl | (simp [errW_none, errW_some] <;> rfl) | (simp [*, errW_none, errW_some] <;> rfl), by repeat (first | (with_reducible first | exact HB.out | apply below_alloc | apply pw_below_drewN | apply below_drew1) | exact HB.out)⟩

def bS47 (x : S47) : Nat := 1 + (((x.f1.map fun z_xf1 => 1).sum + 1)) + 1
/-- THE ONE PURE STATEMENT of forebearlaw07_FrameTorn. -/
def forebearlaw07_FrameTorn.Pure : Prop := ∀ (l0 : List (S47)) (a1 : Int), (l0.length * 32 ≤ 140737488351232 ∧ l0.length ≤ 9223372036854775807 ∧ ∀ y_l0 ∈ l0, gS47 y_l0) → (Lit.int .i64 a1).wf = true → ((l0.map fun z_l0 => (bS47 z_l0)).sum + 1) + 1 ≤ 1048576 → ∃ k, forebearlaw07_FrameTorn.f k l0 a1 = some true
theorem forebearlaw07_FrameTorn.walk (P : forebearlaw07_FrameTorn.Pure) (l0 : List (S47)) (a1 : Int) (A0 : Option Addr) (c0 : Nat) (w : World) (g0 : (l0.length * 32 ≤ 140737488351232 ∧ l0.length ≤ 9223372036854775807 ∧ ∀ y_l0 ∈ l0, gS47 y_l0)) (g1 : (Lit.int .i64 a1).wf = true) (g2 : ((l0.map fun z_l0 => (bS47 z_l0)).sum + 1) + 1 ≤ 1048576) (hc0 : l0.length ≤ c0) (hr0 : Kd.C k47 w A0 l0.length l0) :
  Calls Try.prog 13 #[.slice A0 l0.length c0, .int .i64 a1] w fun e w' => e = .returned (.bool true) ∧ Below w.heap.size w w' := by
 obtain ⟨k, h⟩ := P l0 a1 g0 g1 g2
 refine (forebearlaw07_FrameTorn.calls k _ _ l0 a1 true w hr0 hc0 h).mono ?_
 rintro e w' ⟨rfl, hd⟩
 exact ⟨rfl, hd⟩

end Go.Proofs.Ytgmlhcjcaebfgaa.MA

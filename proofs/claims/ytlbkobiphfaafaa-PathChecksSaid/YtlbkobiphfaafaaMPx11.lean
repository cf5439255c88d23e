/- Laid by this claim's own program (myprint) out of the translation: functions that the laws of the group P reach, each as a plain function, with the proof that the Go code comes to it. No condition. -/
import Derived.Test.YtlbkobiphfaafaaMPx0
import Derived.Test.YtlbkobiphfaafaaMPx1
import Derived.Test.YtlbkobiphfaafaaMPx2
import Derived.Test.YtlbkobiphfaafaaMPx7
import Derived.Test.YtlbkobiphfaafaaMPx10
namespace Go.Proofs.Ytlbkobiphfaafaa.MP
open Go.Proofs.Ytlbkobiphfaafaa.Opening
open Go.RowKit Go.Proofs.YtlbkobiphfaafaaW.PrintWords Go.Proofs.YtlbkobiphfaafaaW.PrintLast Go.Proofs.YtlbkobiphfaafaaW.PrintMore
attribute [local go_sem] max2_int min2_int max_two min_two max_three min_three max_four min_four   -- for this text's walks alone
set_option linter.unusedVariables false
set_option linter.unusedSimpArgs false

/-! ### forebearlaw03_PathChecks: function 12 -/
mutual
def forebearlaw03_PathChecks.j0 : Nat → ByteArray → ByteArray → Int → Option (Bool)
  | 0, _, _, _ => none
  | k + 1, x0, x1, x5 => (forebearref03_Name.f k x1).bind fun t345 => (if t345 = true then (forebearlaw03_PathChecks.j1 k x0 x1 x5 0) else (forebearlaw03_PathChecks.j1 k x0 x1 x5 2))
def forebearlaw03_PathChecks.j1 : Nat → ByteArray → ByteArray → Int → Int → Option (Bool)
  | 0, _, _, _, _ => none
  | k + 1, x0, x1, x5, x6 => (path_Check.f k x0).bind fun t346 => (if t346 = x5 then ((path_Name.f k x1).bind fun t347 => (if t347 = x6 then ((path_Parts.f k x0).bind fun t348 => ((forebearref03_Parts.f k x0).bind fun t351 => ((forebearref03_Same.f k t348 t351).bind fun t354 => (if t354 = true then ((path_Under.f x0 x1).bind fun t355 => ((forebearref03_Under.f x0 x1).bind fun t356 => (some (t355 == t356)))) else (some false))))) else (some false))) else (some false))
end
def forebearlaw03_PathChecks.f (k : Nat) (a0 : ByteArray) (a1 : ByteArray) : Option (Bool) := (forebearlaw03_awake.f k).bind fun t343 => (if t343 = true then ((forebearref03_Is.f k a0).bind fun t344 => (if t344 = true then (forebearlaw03_PathChecks.j0 k a0 a1 0) else (forebearlaw03_PathChecks.j0 k a0 a1 2))) else (some false))
theorem forebearlaw03_PathChecks.mono_l : ∀ k, (∀ y0 y1 y2, LeO (forebearlaw03_PathChecks.j0 k y0 y1 y2) (forebearlaw03_PathChecks.j0 (k + 1) y0 y1 y2)) ∧ (∀ y0 y1 y2 y3, LeO (forebearlaw03_PathChecks.j1 k y0 y1 y2 y3) (forebearlaw03_PathChecks.j1 (k + 1) y0 y1 y2 y3))
  | 0 => ⟨fun _ _ _ r h => by simp [forebearlaw03_PathChecks.j0] at h, fun _ _ _ _ r h => by simp [forebearlaw03_PathChecks.j1] at h⟩
  | k + 1 => by
    obtain ⟨ih0, ih1⟩ := forebearlaw03_PathChecks.mono_l k
    refine ⟨?_, ?_⟩
    · intro y0 y1 y2
      unfold forebearlaw03_PathChecks.j0
      repeat' first
      | (with_reducible exact ih0 _ _ _)
      | (with_reducible exact ih1 _ _ _ _)
      | (with_reducible exact forebearlaw03_awake.mono _)
      | (with_reducible exact forebearref03_Is.mono _ _)
      | (with_reducible exact forebearref03_Name.mono _ _)
      | (with_reducible exact forebearref03_Parts.mono _ _)
      | (with_reducible exact forebearref03_Same.mono _ _ _)
      | (with_reducible exact path_Check.mono _ _)
      | (with_reducible exact path_Name.mono _ _)
      | (with_reducible exact path_Parts.mono _ _)
      | (with_reducible exact LeO.refl _)
      | (with_reducible exact LeO.none _)
      | (with_reducible refine LeO.ite ?_ ?_)
      | (with_reducible refine LeO.bind ?_ (fun _ => ?_))
      | exact ih0 _ _ _
      | exact ih1 _ _ _ _
      | exact forebearlaw03_awake.mono _
      | exact forebearref03_Is.mono _ _
      | exact forebearref03_Name.mono _ _
      | exact forebearref03_Parts.mono _ _
      | exact forebearref03_Same.mono _ _ _
      | exact path_Check.mono _ _
      | exact path_Name.mono _ _
      | exact path_Parts.mono _ _
      | exact LeO.none _
      | refine LeO.ite ?_ ?_
      | refine LeO.bind ?_ (fun _ => ?_)
    · intro y0 y1 y2 y3
      unfold forebearlaw03_PathChecks.j1
      repeat' first
      | (with_reducible exact ih0 _ _ _)
      | (with_reducible exact ih1 _ _ _ _)
      | (with_reducible exact forebearlaw03_awake.mono _)
      | (with_reducible exact forebearref03_Is.mono _ _)
      | (with_reducible exact forebearref03_Name.mono _ _)
      | (with_reducible exact forebearref03_Parts.mono _ _)
      | (with_reducible exact forebearref03_Same.mono _ _ _)
      | (with_reducible exact path_Check.mono _ _)
      | (with_reducible exact path_Name.mono _ _)
      | (with_reducible exact path_Parts.mono _ _)
      | (with_reducible exact LeO.refl _)
      | (with_reducible exact LeO.none _)
      | (with_reducible refine LeO.ite ?_ ?_)
      | (with_reducible refine LeO.bind ?_ (fun _ => ?_))
      | exact ih0 _ _ _
      | exact ih1 _ _ _ _
      | exact forebearlaw03_awake.mono _
      | exact forebearref03_Is.mono _ _
      | exact forebearref03_Name.mono _ _
      | exact forebearref03_Parts.mono _ _
      | exact forebearref03_Same.mono _ _ _
      | exact path_Check.mono _ _
      | exact path_Name.mono _ _
      | exact path_Parts.mono _ _
      | exact LeO.none _
      | refine LeO.ite ?_ ?_
      | refine LeO.bind ?_ (fun _ => ?_)
theorem forebearlaw03_PathChecks.mono : ∀ a0 a1 k, LeO (forebearlaw03_PathChecks.f k a0 a1) (forebearlaw03_PathChecks.f (k + 1) a0 a1) := by
  intro a0 a1 k
  obtain ⟨ih0, ih1⟩ := forebearlaw03_PathChecks.mono_l k
  unfold forebearlaw03_PathChecks.f
  repeat' first
      | (with_reducible exact ih0 _ _ _)
      | (with_reducible exact ih1 _ _ _ _)
      | (with_reducible exact forebearlaw03_awake.mono _)
      | (with_reducible exact forebearref03_Is.mono _ _)
      | (with_reducible exact forebearref03_Name.mono _ _)
      | (with_reducible exact forebearref03_Parts.mono _ _)
      | (with_reducible exact forebearref03_Same.mono _ _ _)
      | (with_reducible exact path_Check.mono _ _)
      | (with_reducible exact path_Name.mono _ _)
      | (with_reducible exact path_Parts.mono _ _)
      | (with_reducible exact LeO.refl _)
      | (with_reducible exact LeO.none _)
      | (with_reducible refine LeO.ite ?_ ?_)
      | (with_reducible refine LeO.bind ?_ (fun _ => ?_))
      | exact ih0 _ _ _
      | exact ih1 _ _ _ _
      | exact forebearlaw03_awake.mono _
      | exact forebearref03_Is.mono _ _
      | exact forebearref03_Name.mono _ _
      | exact forebearref03_Parts.mono _ _
      | exact forebearref03_Same.mono _ _ _
      | exact path_Check.mono _ _
      | exact path_Name.mono _ _
      | exact path_Parts.mono _ _
      | exact LeO.none _
      | refine LeO.ite ?_ ?_
      | refine LeO.bind ?_ (fun _ => ?_)
set_option maxHeartbeats 8000000 in
set_option maxRecDepth 100000 in
theorem forebearlaw03_PathChecks.calls (k : Nat) (a0 : ByteArray) (a1 : ByteArray) (r : Bool) (w : World) (h : forebearlaw03_PathChecks.f k a0 a1 = some r) :
    Calls Try.prog 12 #[.string a0, .string a1] w fun e w' => e = .returned (.bool r) ∧ Below w.heap.size w w' := by
  have HB := Aside0.mk (Below.refl w.heap.size w)
  have H : ((forebearlaw03_awake.f k).bind fun t343 => (if t343 = true then ((forebearref03_Is.f k a0).bind fun t344 => (if t344 = true then (forebearlaw03_PathChecks.j0 k a0 a1 0) else (forebearlaw03_PathChecks.j0 k a0 a1 2))) else (some false))) = some r := h
  clear h
  replace H := Option.bind_eq_some_iff.mp H
  obtain ⟨t343, A30, H⟩ := H
  replace H : (if t343 = true then ((forebearref03_Is.f k a0).bind fun t344 => (if t344 = true then (forebearlaw03_PathChecks.j0 k a0 a1 0) else (forebearlaw03_PathChecks.j0 k a0 a1 2))) else (some false)) = some r := H
  have A3 := Aside0.mk A30
  clear A30
  by_cases c4 : t343 = true
  · subst c4
    have H1 : ((forebearref03_Is.f k a0).bind fun t344 => (if t344 = true then (forebearlaw03_PathChecks.j0 k a0 a1 0) else (forebearlaw03_PathChecks.j0 k a0 a1 2))) = some r := by rw [if_pos rfl] at H; exact H
    clear H
    have H := H1
    clear H1
    replace H := Option.bind_eq_some_iff.mp H
    obtain ⟨t344, A50, H⟩ := H
    replace H : (if t344 = true then (forebearlaw03_PathChecks.j0 k a0 a1 0) else (forebearlaw03_PathChecks.j0 k a0 a1 2)) = some r := H
    have A5 := Aside0.mk A50
    clear A50
    have HC6 := Aside0.mk H
    clear H
    go_enter Try.func12, Try.ntmps12
    go_upto_if 10 with (first | ((with_reducible refine gate_callee (f := 13) rfl ?_); refine goesL_ (some 7) rfl rfl Try.func13 (by kernel_rfl) rfl #[] rfl (by (try simp only [List.map_toArray, List.map_cons, List.map_nil]); first | done | rfl | (simp only [List.length_drop, List.length_take]; rfl)) ?_; (with_reducible refine (forebearlaw03_awake.calls k  true _ A3.out).mono ?_); rintro e w7 ⟨rfl, hb⟩; refine ⟨_, rfl, ?_⟩; have n0_ := Aside0.mk (below_step (by repeat (first | (with_reducible first | exact HB.out | apply below_alloc | apply pw_below_drewN | apply below_drew1) | exact HB.out)) hb); clear HB; have HB := n0_; clear n0_; (try clear hb); (try clear hb2); (try clear hk); (try clear hi)) | ((with_reducible refine gate_callee (f := 34) rfl ?_); refine goesL_ (some 10) rfl rfl Try.func34 (by kernel_rfl) rfl #[.string a0] rfl (by (try simp only [List.map_toArray, List.map_cons, List.map_nil]); first | done | rfl | (simp only [List.length_drop, List.length_take]; rfl)) ?_; (with_reducible refine (forebearref03_Is.calls k a0 t344 _ A5.out).mono ?_); rintro e w8 ⟨rfl, hb⟩; refine ⟨_, rfl, ?_⟩; have n0_ := Aside0.mk (below_step (by repeat (first | (with_reducible first | exact HB.out | apply below_alloc | apply pw_below_drewN | apply below_drew1) | exact HB.out)) hb); clear HB; have HB := n0_; clear n0_; (try clear hb); (try clear hb2); (try clear hk); (try clear hi)))
    (try simp only [Act.put, List.setIfInBounds_toArray, List.set_cons_zero, List.set_cons_succ])
    go_cut [5] (fun v5 wc => ∃ (kq : Nat) (x5_5 : Int), v5 = .int .i64 x5_5 ∧ Aside0 (forebearlaw03_PathChecks.j0 kq a0 a1 x5_5 = some r) ∧ Aside0 (kq ≤ k) ∧ Aside0 (Below w.heap.size w wc))
    case first =>
      have H := HC6.out
      clear HC6
      by_cases c9 : t344 = true
      · subst c9
        have H1 : (forebearlaw03_PathChecks.j0 k a0 a1 0) = some r := by rw [if_pos rfl] at H; exact H
        clear H
        have H := H1
        clear H1
        have H' := Aside0.mk H
        clear H
        go_wp2
        go_meet
        case rel => exact ⟨_, (0), (by first | rfl | (simp; done) | (simp [*]; done)), H', ⟨by first | omega | exact Nat.le_refl _⟩, ⟨by repeat (first | (with_reducible first | exact HB.out | apply below_alloc | apply pw_below_drewN | apply below_drew1) | exact HB.out)⟩⟩
      · replace c9 := Bool.eq_false_iff.mpr c9
        subst c9
        have H1 : (forebearlaw03_PathChecks.j0 k a0 a1 2) = some r := by rw [if_neg (show ¬ (false = true) by decide)] at H; exact H
        clear H
        have H := H1
        clear H1
        have H' := Aside0.mk H
        clear H
        go_wp2
        go_meet
        case rel => exact ⟨_, (2), (by first | rfl | (simp; done) | (simp [*]; done)), H', ⟨by first | omega | exact Nat.le_refl _⟩, ⟨by repeat (first | (with_reducible first | exact HB.out | apply below_alloc | apply pw_below_drewN | apply below_drew1) | exact HB.out)⟩⟩
    case rest =>
      clear HC6
      try clear c1
      try clear p2
      try clear c3
      try clear c4
      try clear c9
      obtain ⟨kq, x5_5, rfl, HA, HJ5, HB⟩ := hcut
      cases kq with
      | zero => exact absurd HA.out (by simp [forebearlaw03_PathChecks.j0])
      | succ kj5 =>
        have H := HA.out
        clear HA
        simp only [forebearlaw03_PathChecks.j0] at H
        replace H := Option.bind_eq_some_iff.mp H
        obtain ⟨t345, A100, H⟩ := H
        replace H : (if t345 = true then (forebearlaw03_PathChecks.j1 kj5 a0 a1 x5_5 0) else (forebearlaw03_PathChecks.j1 kj5 a0 a1 x5_5 2)) = some r := H
        have A10 := Aside0.mk A100
        clear A100
        have HC11 := Aside0.mk H
        clear H
        go_upto_if 12 with (first | ((with_reducible refine gate_callee (f := 35) rfl ?_); refine goesL_ (some 12) rfl rfl Try.func35 (by kernel_rfl) rfl #[.string a1] rfl (by (try simp only [List.map_toArray, List.map_cons, List.map_nil]); first | done | rfl | (simp only [List.length_drop, List.length_take]; rfl)) ?_; (with_reducible refine (forebearref03_Name.calls kj5 a1 t345 _ A10.out).mono ?_); rintro e w' ⟨rfl, ⟨nd, rfl⟩⟩; refine ⟨_, rfl, ?_⟩))
        (try simp only [Act.put, List.setIfInBounds_toArray, List.set_cons_zero, List.set_cons_succ])
        go_cut [6] (fun v6 wc => ∃ (kq : Nat) (x6_10 : Int), v6 = .int .i64 x6_10 ∧ Aside0 (forebearlaw03_PathChecks.j1 kq a0 a1 x5_5 x6_10 = some r) ∧ Aside0 (kq ≤ kj5) ∧ Aside0 (Below w.heap.size w wc))
        case first =>
          have H := HC11.out
          clear HC11
          by_cases c12 : t345 = true
          · subst c12
            have H1 : (forebearlaw03_PathChecks.j1 kj5 a0 a1 x5_5 0) = some r := by rw [if_pos rfl] at H; exact H
            clear H
            have H := H1
            clear H1
            have H' := Aside0.mk H
            clear H
            go_wp2
            go_meet
            case rel => exact ⟨_, (0), (by first | rfl | (simp; done) | (simp [*]; done)), H', ⟨by have := HJ5.out; first | omega | exact Nat.le_refl _⟩, ⟨by repeat (first | (with_reducible first | exact HB.out | apply below_alloc | apply pw_below_drewN | apply below_drew1) | exact HB.out)⟩⟩
          · replace c12 := Bool.eq_false_iff.mpr c12
            subst c12
            have H1 : (forebearlaw03_PathChecks.j1 kj5 a0 a1 x5_5 2) = some r := by rw [if_neg (show ¬ (false = true) by decide)] at H; exact H
            clear H
            have H := H1
            clear H1
            have H' := Aside0.mk H
            clear H
            go_wp2
            go_meet
            case rel => exact ⟨_, (2), (by first | rfl | (simp; done) | (simp [*]; done)), H', ⟨by have := HJ5.out; first | omega | exact Nat.le_refl _⟩, ⟨by repeat (first | (with_reducible first | exact HB.out | apply below_alloc | apply pw_below_drewN | apply below_drew1) | exact HB.out)⟩⟩
        case rest =>
          clear HC11
          try clear c1
          try clear p2
          try clear c3
          try clear c4
          try clear c9
          try clear c12
          try clear p2
          obtain ⟨kq, x6_10, rfl, HA, HJ10, HB⟩ := hcut
          cases kq with
          | zero => exact absurd HA.out (by simp [forebearlaw03_PathChecks.j1])
          | succ kj10 =>
            have H := HA.out
            clear HA
            simp only [forebearlaw03_PathChecks.j1] at H
            replace H := Option.bind_eq_some_iff.mp H
            obtain ⟨t346, A130, H⟩ := H
            replace H : (if t346 = x5_5 then ((path_Name.f kj10 a1).bind fun t347 => (if t347 = x6_10 then ((path_Parts.f kj10 a0).bind fun t348 => ((forebearref03_Parts.f kj10 a0).bind fun t351 => ((forebearref03_Same.f kj10 t348 t351).bind fun t354 => (if t354 = true then ((path_Under.f a0 a1).bind fun t355 => ((forebearref03_Under.f a0 a1).bind fun t356 => (some (t355 == t356)))) else (some false))))) else (some false))) else (some false)) = some r := H
            have A13 := Aside0.mk A130
            clear A130
            by_cases c14 : t346 = x5_5
            · rw [if_pos c14] at H
              have c14b0 : (t346 == x5_5) = true := beq_iff_eq.mpr c14
              have c14b1 : (t346 != x5_5) = false := bne_eq_false_iff_eq.mpr c14
              clear c14
              replace H := Option.bind_eq_some_iff.mp H
              obtain ⟨t347, A150, H⟩ := H
              replace H : (if t347 = x6_10 then ((path_Parts.f kj10 a0).bind fun t348 => ((forebearref03_Parts.f kj10 a0).bind fun t351 => ((forebearref03_Same.f kj10 t348 t351).bind fun t354 => (if t354 = true then ((path_Under.f a0 a1).bind fun t355 => ((forebearref03_Under.f a0 a1).bind fun t356 => (some (t355 == t356)))) else (some false))))) else (some false)) = some r := H
              have A15 := Aside0.mk A150
              clear A150
              by_cases c16 : t347 = x6_10
              · rw [if_pos c16] at H
                have c16b0 : (t347 == x6_10) = true := beq_iff_eq.mpr c16
                have c16b1 : (t347 != x6_10) = false := bne_eq_false_iff_eq.mpr c16
                clear c16
                replace H := Option.bind_eq_some_iff.mp H
                obtain ⟨t348, A170, H⟩ := H
                replace H : ((forebearref03_Parts.f kj10 a0).bind fun t351 => ((forebearref03_Same.f kj10 t348 t351).bind fun t354 => (if t354 = true then ((path_Under.f a0 a1).bind fun t355 => ((forebearref03_Under.f a0 a1).bind fun t356 => (some (t355 == t356)))) else (some false)))) = some r := H
                have A17 := Aside0.mk A170
                clear A170
                replace H := Option.bind_eq_some_iff.mp H
                obtain ⟨t351, A180, H⟩ := H
                replace H : ((forebearref03_Same.f kj10 t348 t351).bind fun t354 => (if t354 = true then ((path_Under.f a0 a1).bind fun t355 => ((forebearref03_Under.f a0 a1).bind fun t356 => (some (t355 == t356)))) else (some false))) = some r := H
                have A18 := Aside0.mk A180
                clear A180
                replace H := Option.bind_eq_some_iff.mp H
                obtain ⟨t354, A190, H⟩ := H
                replace H : (if t354 = true then ((path_Under.f a0 a1).bind fun t355 => ((forebearref03_Under.f a0 a1).bind fun t356 => (some (t355 == t356)))) else (some false)) = some r := H
                have A19 := Aside0.mk A190
                clear A190
                by_cases c20 : t354 = true
                · subst c20
                  have H1 : ((path_Under.f a0 a1).bind fun t355 => ((forebearref03_Under.f a0 a1).bind fun t356 => (some (t355 == t356)))) = some r := by rw [if_pos rfl] at H; exact H
                  clear H
                  have H := H1
                  clear H1
                  replace H := Option.bind_eq_some_iff.mp H
                  obtain ⟨t355, A210, H⟩ := H
                  replace H : ((forebearref03_Under.f a0 a1).bind fun t356 => (some (t355 == t356))) = some r := H
                  have A21 := Aside0.mk A210
                  clear A210
                  replace H := Option.bind_eq_some_iff.mp H
                  obtain ⟨t356, A220, H⟩ := H
                  replace H : (some (t355 == t356)) = some r := H
                  have A22 := Aside0.mk A220
                  clear A220
                  obtain rfl := Option.some.inj H
                  go_wp2_with (first | ((with_reducible refine gate_callee (f := 15) rfl ?_); refine goesL_ (some 14) rfl rfl Try.func15 (by kernel_rfl) rfl #[.string a0] rfl (by (try simp only [List.map_toArray, List.map_cons, List.map_nil]); first | done | rfl | (simp only [List.length_drop, List.length_take]; rfl)) ?_; (with_reducible refine (path_Check.calls kj10 a0 t346 _ A13.out).mono ?_); rintro e w' ⟨rfl, ⟨nd, rfl⟩⟩; refine ⟨_, rfl, ?_⟩) | (go_at_call 36; (with_reducible refine (path_Name.calls kj10 a1 t347 _ A15.out).mono ?_); rintro e w' ⟨rfl, ⟨nd, rfl⟩⟩) | (go_at_call 14; (with_reducible refine (path_Parts.calls kj10 a0 t348 _ A17.out).mono ?_); rintro e w23 ⟨v349, rfl, ho0, hb⟩; have n0_ := Aside0.mk (Kd.R_lower ho0 (below_size (by repeat (first | (with_reducible first | exact HB.out | apply below_alloc | apply pw_below_drewN | apply below_drew1) | exact HB.out)))); have n1_ := Aside0.mk (below_step (by repeat (first | (with_reducible first | exact HB.out | apply below_alloc | apply pw_below_drewN | apply below_drew1) | exact HB.out)) hb); clear HB; have HO350 := n0_; have HB := n1_; clear n0_ n1_; (try clear hb); (try clear hb2); (try clear hk); (try clear hi); (try clear ho0)) | (go_at_call 37; (with_reducible refine (forebearref03_Parts.calls kj10 a0 t351 _ A18.out).mono ?_); rintro e w24 ⟨v352, rfl, ho0, hb⟩; have n0_ := Aside0.mk (Kd.R_elder' (by (with_reducible repeat (first | apply Kd.R_alloc | apply Kd.R_drewN | apply Kd.R_drew)); exact HO350.out) (Kd.R_base ho0) hb); have n1_ := Aside0.mk (Kd.R_lower (Kd.R_new' ho0 (Kd.R_lt (by (with_reducible repeat (first | apply Kd.R_alloc | apply Kd.R_drewN | apply Kd.R_drew)); exact HO350.out))) (below_size (by repeat (first | (with_reducible first | exact HB.out | apply below_alloc | apply pw_below_drewN | apply below_drew1) | exact HB.out)))); have n2_ := Aside0.mk (below_step (by repeat (first | (with_reducible first | exact HB.out | apply below_alloc | apply pw_below_drewN | apply below_drew1) | exact HB.out)) hb); clear HO350; clear HB; have HO350 := n0_; have HO353 := n1_; have HB := n2_; clear n0_ n1_ n2_; (try clear hb); (try clear hb2); (try clear hk); (try clear hi); (try clear ho0); obtain ⟨Ao25, co25, eo25⟩ := Kd.R_slice HO350.out; subst eo25; obtain ⟨Ao26, co26, eo26⟩ := Kd.R_slice HO353.out; subst eo26) | (go_at_call 18; (with_reducible refine (forebearref03_Same.calls kj10 _ _ t348 _ _ t351 true _ ?side1 ?side2 ?side3 ?side4 A19.out).mono ?_); (case side1 => repeat (first | exact (Kd.R_reads' HO350.out).2.2 | (with_reducible refine Kd.C_alloc ?_ _) | (with_reducible refine Kd.C_drewN ?_ _) | (with_reducible refine Kd.C_drew ?_))); (case side2 => exact (Kd.R_reads' HO350.out).2.1); (case side3 => repeat (first | exact (Kd.R_reads' HO353.out).2.2 | (with_reducible refine Kd.C_alloc ?_ _) | (with_reducible refine Kd.C_drewN ?_ _) | (with_reducible refine Kd.C_drew ?_))); (case side4 => exact (Kd.R_reads' HO353.out).2.1); rintro e w' ⟨rfl, ⟨nd, rfl⟩⟩) | (go_at_call 16; (with_reducible refine (path_Under.calls a0 a1 t355 _ A21.out).mono ?_); rintro e w' ⟨rfl, ⟨nd, rfl⟩⟩) | (go_at_call 38; (with_reducible refine (forebearref03_Under.calls a0 a1 t356 _ A22.out).mono ?_); rintro e w' ⟨rfl, ⟨nd, rfl⟩⟩))
                  go_ret
                  exact ⟨by first | rfl | (simp [errW_none, errW_some] <;> rfl) | (simp [*, errW_none, errW_some] <;> rfl), by repeat (first | (with_reducible first | exact HB.out | apply below_alloc | apply pw_below_drewN | apply below_drew1) | exact HB.out)⟩
                · replace c20 := Bool.eq_false_iff.mpr c20
                  subst c20
                  have H1 : (some false) = some r := by rw [if_neg (show ¬ (false = true) by decide)] at H; exact H
                  clear H
                  have H := H1
                  clear H1
                  obtain rfl := Option.some.inj H
                  go_wp2_with (first | ((with_reducible refine gate_callee (f := 15) rfl ?_); refine goesL_ (some 14) rfl rfl Try.func15 (by kernel_rfl) rfl #[.string a0] rfl (by (try simp only [List.map_toArray, List.map_cons, List.map_nil]); first | done | rfl | (simp only [List.length_drop, List.length_take]; rfl)) ?_; (with_reducible refine (path_Check.calls kj10 a0 t346 _ A13.out).mono ?_); rintro e w' ⟨rfl, ⟨nd, rfl⟩⟩; refine ⟨_, rfl, ?_⟩) | (go_at_call 36; (with_reducible refine (path_Name.calls kj10 a1 t347 _ A15.out).mono ?_); rintro e w' ⟨rfl, ⟨nd, rfl⟩⟩) | (go_at_call 14; (with_reducible refine (path_Parts.calls kj10 a0 t348 _ A17.out).mono ?_); rintro e w27 ⟨v349, rfl, ho0, hb⟩; have n0_ := Aside0.mk (Kd.R_lower ho0 (below_size (by repeat (first | (with_reducible first | exact HB.out | apply below_alloc | apply pw_below_drewN | apply below_drew1) | exact HB.out)))); have n1_ := Aside0.mk (below_step (by repeat (first | (with_reducible first | exact HB.out | apply below_alloc | apply pw_below_drewN | apply below_drew1) | exact HB.out)) hb); clear HB; have HO350 := n0_; have HB := n1_; clear n0_ n1_; (try clear hb); (try clear hb2); (try clear hk); (try clear hi); (try clear ho0)) | (go_at_call 37; (with_reducible refine (forebearref03_Parts.calls kj10 a0 t351 _ A18.out).mono ?_); rintro e w28 ⟨v352, rfl, ho0, hb⟩; have n0_ := Aside0.mk (Kd.R_elder' (by (with_reducible repeat (first | apply Kd.R_alloc | apply Kd.R_drewN | apply Kd.R_drew)); exact HO350.out) (Kd.R_base ho0) hb); have n1_ := Aside0.mk (Kd.R_lower (Kd.R_new' ho0 (Kd.R_lt (by (with_reducible repeat (first | apply Kd.R_alloc | apply Kd.R_drewN | apply Kd.R_drew)); exact HO350.out))) (below_size (by repeat (first | (with_reducible first | exact HB.out | apply below_alloc | apply pw_below_drewN | apply below_drew1) | exact HB.out)))); have n2_ := Aside0.mk (below_step (by repeat (first | (with_reducible first | exact HB.out | apply below_alloc | apply pw_below_drewN | apply below_drew1) | exact HB.out)) hb); clear HO350; clear HB; have HO350 := n0_; have HO353 := n1_; have HB := n2_; clear n0_ n1_ n2_; (try clear hb); (try clear hb2); (try clear hk); (try clear hi); (try clear ho0); obtain ⟨Ao29, co29, eo29⟩ := Kd.R_slice HO350.out; subst eo29; obtain ⟨Ao30, co30, eo30⟩ := Kd.R_slice HO353.out; subst eo30) | (go_at_call 18; (with_reducible refine (forebearref03_Same.calls kj10 _ _ t348 _ _ t351 false _ ?side1 ?side2 ?side3 ?side4 A19.out).mono ?_); (case side1 => repeat (first | exact (Kd.R_reads' HO350.out).2.2 | (with_reducible refine Kd.C_alloc ?_ _) | (with_reducible refine Kd.C_drewN ?_ _) | (with_reducible refine Kd.C_drew ?_))); (case side2 => exact (Kd.R_reads' HO350.out).2.1); (case side3 => repeat (first | exact (Kd.R_reads' HO353.out).2.2 | (with_reducible refine Kd.C_alloc ?_ _) | (with_reducible refine Kd.C_drewN ?_ _) | (with_reducible refine Kd.C_drew ?_))); (case side4 => exact (Kd.R_reads' HO353.out).2.1); rintro e w' ⟨rfl, ⟨nd, rfl⟩⟩))
                  go_ret
                  exact ⟨by first | rfl | (simp [errW_none, errW_some] <;> rfl) | (simp [*, errW_none, errW_some] <;> rfl), by repeat (first | (with_reducible first | exact HB.out | apply below_alloc | apply pw_below_drewN | apply below_drew1) | exact HB.out)⟩
              · rw [if_neg c16] at H
                have c16b0 : (t347 == x6_10) = false := beq_eq_false_iff_ne.mpr c16
                have c16b1 : (t347 != x6_10) = true := bne_iff_ne.mpr c16
                obtain rfl := Option.some.inj H
                go_wp2_with (first | ((with_reducible refine gate_callee (f := 15) rfl ?_); refine goesL_ (some 14) rfl rfl Try.func15 (by kernel_rfl) rfl #[.string a0] rfl (by (try simp only [List.map_toArray, List.map_cons, List.map_nil]); first | done | rfl | (simp only [List.length_drop, List.length_take]; rfl)) ?_; (with_reducible refine (path_Check.calls kj10 a0 t346 _ A13.out).mono ?_); rintro e w' ⟨rfl, ⟨nd, rfl⟩⟩; refine ⟨_, rfl, ?_⟩) | (go_at_call 36; (with_reducible refine (path_Name.calls kj10 a1 t347 _ A15.out).mono ?_); rintro e w' ⟨rfl, ⟨nd, rfl⟩⟩))
                go_ret
                exact ⟨by first | rfl | (simp [errW_none, errW_some] <;> rfl) | (simp [*, errW_none, errW_some] <;> rfl), by repeat (first | (with_reducible first | exact HB.out | apply below_alloc | apply pw_below_drewN | apply below_drew1) | exact HB.out)⟩
            · rw [if_neg c14] at H
              have c14b0 : (t346 == x5_5) = false := beq_eq_false_iff_ne.mpr c14
              have c14b1 : (t346 != x5_5) = true := bne_iff_ne.mpr c14
              obtain rfl := Option.some.inj H
              go_wp2_with (first | ((with_reducible refine gate_callee (f := 15) rfl ?_); refine goesL_ (some 14) rfl rfl Try.func15 (by kernel_rfl) rfl #[.string a0] rfl (by (try simp only [List.map_toArray, List.map_cons, List.map_nil]); first | done | rfl | (simp only [List.length_drop, List.length_take]; rfl)) ?_; (with_reducible refine (path_Check.calls kj10 a0 t346 _ A13.out).mono ?_); rintro e w' ⟨rfl, ⟨nd, rfl⟩⟩; refine ⟨_, rfl, ?_⟩))
              go_ret
              exact ⟨by first | rfl | (simp [errW_none, errW_some] <;> rfl) | (simp [*, errW_none, errW_some] <;> rfl), by repeat (first | (with_reducible first | exact HB.out | apply below_alloc | apply pw_below_drewN | apply below_drew1) | exact HB.out)⟩
  · replace c4 := Bool.eq_false_iff.mpr c4
    subst c4
    have H1 : (some false) = some r := by rw [if_neg (show ¬ (false = true) by decide)] at H; exact H
    clear H
    have H := H1
    clear H1
    obtain rfl := Option.some.inj H
    go_enter Try.func12, Try.ntmps12
    go_wp2_with (first | ((with_reducible refine gate_callee (f := 13) rfl ?_); refine goesL_ (some 7) rfl rfl Try.func13 (by kernel_rfl) rfl #[] rfl (by (try simp only [List.map_toArray, List.map_cons, List.map_nil]); first | done | rfl | (simp only [List.length_drop, List.length_take]; rfl)) ?_; (with_reducible refine (forebearlaw03_awake.calls k  false _ A3.out).mono ?_); rintro e w31 ⟨rfl, hb⟩; refine ⟨_, rfl, ?_⟩; have n0_ := Aside0.mk (below_step (by repeat (first | (with_reducible first | exact HB.out | apply below_alloc | apply pw_below_drewN | apply below_drew1) | exact HB.out)) hb); clear HB; have HB := n0_; clear n0_; (try clear hb); (try clear hb2); (try clear hk); (try clear hi)))
    go_ret
    exact ⟨by first | rfl | (simp [errW_none, errW_some] <;> rfl) | (simp [*, errW_none, errW_some] <;> rfl), by repeat (first | (with_reducible first | exact HB.out | apply below_alloc | apply pw_below_drewN | apply below_drew1) | exact HB.out)⟩

/-- THE ONE PURE STATEMENT of forebearlaw03_PathChecks. -/
def forebearlaw03_PathChecks.Pure : Prop := ∀ (a0 : ByteArray) (a1 : ByteArray), a0.size ≤ 140737488351232 → a1.size ≤ 140737488351232 → ∃ k, forebearlaw03_PathChecks.f k a0 a1 = some true
theorem forebearlaw03_PathChecks.walk (P : forebearlaw03_PathChecks.Pure) (a0 : ByteArray) (a1 : ByteArray)  (w : World) (g0 : a0.size ≤ 140737488351232) (g1 : a1.size ≤ 140737488351232)  :
    Calls Try.prog 12 #[.string a0, .string a1] w fun e w' => e = .returned (.bool true) ∧ Below w.heap.size w w' := by
  obtain ⟨k, h⟩ := P a0 a1 g0 g1
  refine (forebearlaw03_PathChecks.calls k a0 a1 true w  h).mono ?_
  rintro e w' ⟨rfl, hd⟩
  exact ⟨rfl, hd⟩

end Go.Proofs.Ytlbkobiphfaafaa.MP

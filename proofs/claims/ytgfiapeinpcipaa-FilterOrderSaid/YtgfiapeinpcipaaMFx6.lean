/- Laid by this claim's own program (myprint) out of the translation: functions that the laws of the group F reach, each as a plain function, with the proof that the Go code comes to it. No condition. -/
import Derived.Test.YtgfiapeinpcipaaMFx0
import Derived.Test.YtgfiapeinpcipaaMFx5
namespace Go.Proofs.Ytgfiapeinpcipaa.MF
open Go.Proofs.Ytgfiapeinpcipaa.Opening
open Go.RowKit Go.Proofs.YtgfiapeinpcipaaW.PrintWords Go.Proofs.YtgfiapeinpcipaaW.PrintLast Go.Proofs.YtgfiapeinpcipaaW.PrintMore
attribute [local go_sem] max2_int min2_int max_two min_two max_three min_three max_four min_four   -- for this text's walks alone
set_option linter.unusedVariables false
set_option linter.unusedSimpArgs false

/-! ### forebearref11_Make: function 11 -/
mutual
def forebearref11_Make.j0 : Nat → List ByteArray → Int → Option (ByteArray)
  | 0, _, _ => none
  | k + 1, x3, x5 => forebearref11_Make.l0 k x3 x5
def forebearref11_Make.l0 : Nat → List ByteArray → Int → Option (ByteArray)
  | 0, _, _ => none
  | k + 1, x3, x5 => if (Int.tmod x5 8) = 0 then ((forebearref11_Set.f k x3 x5).bind fun t258 => (forebearref11_Make.l1 k x5 t258 (([1] : List Int)) 0)) else (forebearref11_Make.l0 k x3 (wrap64 (x5 + 1)))
def forebearref11_Make.l1 : Nat → Int → List Int → List Int → Int → Option (ByteArray)
  | 0, _, _, _, _ => none
  | k + 1, x5, x6, x7, x8 => if x8 < x5 then (forebearref11_Make.l2 k x5 x6 x7 x8 0 7) else (some (strOfNums x7))
def forebearref11_Make.l2 : Nat → Int → List Int → List Int → Int → Int → Int → Option (ByteArray)
  | 0, _, _, _, _, _, _ => none
  | k + 1, x5, x6, x7, x8, x9, x10 => if x10 ≥ 0 then ((forebearref11_has.f k x6 (wrap64 (x8 + x10))).bind fun t264 => (if t264 = true then (forebearref11_Make.l2 k x5 x6 x7 x8 ((((x9 * 2) % 256) + 1) % 256) (wrap64 (x10 - 1))) else (forebearref11_Make.l2 k x5 x6 x7 x8 ((x9 * 2) % 256) (wrap64 (x10 - 1))))) else (if x7.length < 140737488355328 then (forebearref11_Make.l1 k x5 x6 (x7 ++ [x9]) (wrap64 (x8 + 8))) else (none))
end
def forebearref11_Make.f (k : Nat) (l0 : List ByteArray) : Option (ByteArray) := (forebearref11_Paths.f k l0).bind fun bt251 => (if bt251.2 > 8 then (some (strOfNums (([2] : List Int)))) else (if (wrap64 (12 * (bt251.1.length : Int))) < 8 then (forebearref11_Make.j0 k bt251.1 8) else (forebearref11_Make.j0 k bt251.1 (wrap64 (12 * (bt251.1.length : Int))))))
theorem forebearref11_Make.mono_l : ∀ k, (∀ y0 y1, LeO (forebearref11_Make.j0 k y0 y1) (forebearref11_Make.j0 (k + 1) y0 y1)) ∧ (∀ y0 y1, LeO (forebearref11_Make.l0 k y0 y1) (forebearref11_Make.l0 (k + 1) y0 y1)) ∧ (∀ y0 y1 y2 y3, LeO (forebearref11_Make.l1 k y0 y1 y2 y3) (forebearref11_Make.l1 (k + 1) y0 y1 y2 y3)) ∧ (∀ y0 y1 y2 y3 y4 y5, LeO (forebearref11_Make.l2 k y0 y1 y2 y3 y4 y5) (forebearref11_Make.l2 (k + 1) y0 y1 y2 y3 y4 y5))
  | 0 => ⟨fun _ _ r h => by simp [forebearref11_Make.j0] at h, fun _ _ r h => by simp [forebearref11_Make.l0] at h, fun _ _ _ _ r h => by simp [forebearref11_Make.l1] at h, fun _ _ _ _ _ _ r h => by simp [forebearref11_Make.l2] at h⟩
  | k + 1 => by
    obtain ⟨ih0, ih1, ih2, ih3⟩ := forebearref11_Make.mono_l k
    refine ⟨?_, ?_, ?_, ?_⟩
    · intro y0 y1
      unfold forebearref11_Make.j0
      repeat' first
      | (with_reducible exact ih0 _ _)
      | (with_reducible exact ih1 _ _)
      | (with_reducible exact ih2 _ _ _ _)
      | (with_reducible exact ih3 _ _ _ _ _ _)
      | (with_reducible exact forebearref11_Paths.mono _ _)
      | (with_reducible exact forebearref11_Set.mono _ _ _)
      | (with_reducible exact forebearref11_has.mono _ _ _)
      | (with_reducible exact LeO.refl _)
      | (with_reducible exact LeO.none _)
      | (with_reducible refine LeO.ite ?_ ?_)
      | (with_reducible refine LeO.bind ?_ (fun _ => ?_))
      | exact ih0 _ _
      | exact ih1 _ _
      | exact ih2 _ _ _ _
      | exact ih3 _ _ _ _ _ _
      | exact forebearref11_Paths.mono _ _
      | exact forebearref11_Set.mono _ _ _
      | exact forebearref11_has.mono _ _ _
      | exact LeO.none _
      | refine LeO.ite ?_ ?_
      | refine LeO.bind ?_ (fun _ => ?_)
    · intro y0 y1
      unfold forebearref11_Make.l0
      repeat' first
      | (with_reducible exact ih0 _ _)
      | (with_reducible exact ih1 _ _)
      | (with_reducible exact ih2 _ _ _ _)
      | (with_reducible exact ih3 _ _ _ _ _ _)
      | (with_reducible exact forebearref11_Paths.mono _ _)
      | (with_reducible exact forebearref11_Set.mono _ _ _)
      | (with_reducible exact forebearref11_has.mono _ _ _)
      | (with_reducible exact LeO.refl _)
      | (with_reducible exact LeO.none _)
      | (with_reducible refine LeO.ite ?_ ?_)
      | (with_reducible refine LeO.bind ?_ (fun _ => ?_))
      | exact ih0 _ _
      | exact ih1 _ _
      | exact ih2 _ _ _ _
      | exact ih3 _ _ _ _ _ _
      | exact forebearref11_Paths.mono _ _
      | exact forebearref11_Set.mono _ _ _
      | exact forebearref11_has.mono _ _ _
      | exact LeO.none _
      | refine LeO.ite ?_ ?_
      | refine LeO.bind ?_ (fun _ => ?_)
    · intro y0 y1 y2 y3
      unfold forebearref11_Make.l1
      repeat' first
      | (with_reducible exact ih0 _ _)
      | (with_reducible exact ih1 _ _)
      | (with_reducible exact ih2 _ _ _ _)
      | (with_reducible exact ih3 _ _ _ _ _ _)
      | (with_reducible exact forebearref11_Paths.mono _ _)
      | (with_reducible exact forebearref11_Set.mono _ _ _)
      | (with_reducible exact forebearref11_has.mono _ _ _)
      | (with_reducible exact LeO.refl _)
      | (with_reducible exact LeO.none _)
      | (with_reducible refine LeO.ite ?_ ?_)
      | (with_reducible refine LeO.bind ?_ (fun _ => ?_))
      | exact ih0 _ _
      | exact ih1 _ _
      | exact ih2 _ _ _ _
      | exact ih3 _ _ _ _ _ _
      | exact forebearref11_Paths.mono _ _
      | exact forebearref11_Set.mono _ _ _
      | exact forebearref11_has.mono _ _ _
      | exact LeO.none _
      | refine LeO.ite ?_ ?_
      | refine LeO.bind ?_ (fun _ => ?_)
    · intro y0 y1 y2 y3 y4 y5
      unfold forebearref11_Make.l2
      repeat' first
      | (with_reducible exact ih0 _ _)
      | (with_reducible exact ih1 _ _)
      | (with_reducible exact ih2 _ _ _ _)
      | (with_reducible exact ih3 _ _ _ _ _ _)
      | (with_reducible exact forebearref11_Paths.mono _ _)
      | (with_reducible exact forebearref11_Set.mono _ _ _)
      | (with_reducible exact forebearref11_has.mono _ _ _)
      | (with_reducible exact LeO.refl _)
      | (with_reducible exact LeO.none _)
      | (with_reducible refine LeO.ite ?_ ?_)
      | (with_reducible refine LeO.bind ?_ (fun _ => ?_))
      | exact ih0 _ _
      | exact ih1 _ _
      | exact ih2 _ _ _ _
      | exact ih3 _ _ _ _ _ _
      | exact forebearref11_Paths.mono _ _
      | exact forebearref11_Set.mono _ _ _
      | exact forebearref11_has.mono _ _ _
      | exact LeO.none _
      | refine LeO.ite ?_ ?_
      | refine LeO.bind ?_ (fun _ => ?_)
theorem forebearref11_Make.mono : ∀ a0 k, LeO (forebearref11_Make.f k a0) (forebearref11_Make.f (k + 1) a0) := by
  intro a0 k
  obtain ⟨ih0, ih1, ih2, ih3⟩ := forebearref11_Make.mono_l k
  unfold forebearref11_Make.f
  repeat' first
      | (with_reducible exact ih0 _ _)
      | (with_reducible exact ih1 _ _)
      | (with_reducible exact ih2 _ _ _ _)
      | (with_reducible exact ih3 _ _ _ _ _ _)
      | (with_reducible exact forebearref11_Paths.mono _ _)
      | (with_reducible exact forebearref11_Set.mono _ _ _)
      | (with_reducible exact forebearref11_has.mono _ _ _)
      | (with_reducible exact LeO.refl _)
      | (with_reducible exact LeO.none _)
      | (with_reducible refine LeO.ite ?_ ?_)
      | (with_reducible refine LeO.bind ?_ (fun _ => ?_))
      | exact ih0 _ _
      | exact ih1 _ _
      | exact ih2 _ _ _ _
      | exact ih3 _ _ _ _ _ _
      | exact forebearref11_Paths.mono _ _
      | exact forebearref11_Set.mono _ _ _
      | exact forebearref11_has.mono _ _ _
      | exact LeO.none _
      | refine LeO.ite ?_ ?_
      | refine LeO.bind ?_ (fun _ => ?_)
set_option maxHeartbeats 8000000 in
set_option maxRecDepth 100000 in
theorem forebearref11_Make.calls (k : Nat) (A0 : Option Addr) (c0 : Nat) (l0 : List ByteArray) (r : ByteArray) (w : World) (hr0 : Kd.C Kd.string w A0 l0.length l0) (hc0 : l0.length ≤ c0) (h : forebearref11_Make.f k l0 = some r) :
    Calls Try.prog 11 #[.slice A0 l0.length c0] w fun e w' => e = .returned (.string r) ∧ Below w.heap.size w w' := by
  have HR0 := Aside0.mk hr0
  have HC0 := Aside0.mk hc0
  clear hr0 hc0
  have HB := Aside0.mk (Below.refl w.heap.size w)
  have H : ((forebearref11_Paths.f k l0).bind fun bt251 => (if bt251.2 > 8 then (some (strOfNums (([2] : List Int)))) else (if (wrap64 (12 * (bt251.1.length : Int))) < 8 then (forebearref11_Make.j0 k bt251.1 8) else (forebearref11_Make.j0 k bt251.1 (wrap64 (12 * (bt251.1.length : Int))))))) = some r := h
  clear h
  replace H := Option.bind_eq_some_iff.mp H
  obtain ⟨⟨t251, t252⟩, A20, H⟩ := H
  replace H : (if t252 > 8 then (some (strOfNums (([2] : List Int)))) else (if (wrap64 (12 * (t251.length : Int))) < 8 then (forebearref11_Make.j0 k t251 8) else (forebearref11_Make.j0 k t251 (wrap64 (12 * (t251.length : Int)))))) = some r := H
  have A2 := Aside0.mk A20
  clear A20
  by_cases c3 : t252 > 8
  · rw [if_pos c3] at H
    have c3b0 : decide (8 < t252) = true := decide_eq_true c3
    clear c3
    obtain ⟨y255, hy255⟩ : ∃ y_ : List Int, y_ = (([2] : List Int)) := ⟨_, rfl⟩
    replace H : (some (strOfNums y255)) = some r := by first | (rw [hy255]; with_reducible exact H) | (have H2_ := (Option.bind_some _ _).symm.trans H; rw [hy255]; with_reducible exact H2_) | (have H2_ := (Option.bind_some _ _).symm.trans H; with_reducible exact H2_) | with_reducible exact H | (rw [hy255]; exact H) | exact H
    have Ny255 := Aside0.mk hy255
    clear hy255
    obtain rfl := Option.some.inj H
    go_enter Try.func11, Try.ntmps11
    go_wp2_with (first | ((with_reducible refine gate_callee (f := 19) rfl ?_); refine goesL_ (some 13) rfl rfl Try.func19 (by kernel_rfl) rfl #[.slice A0 l0.length c0] rfl (by (try simp only [List.map_toArray, List.map_cons, List.map_nil]); first | done | rfl | (simp only [List.length_drop, List.length_take]; rfl)) ?_; (with_reducible refine (forebearref11_Paths.calls k _ _ l0 t251 t252 _ ?side1 ?side2 A2.out).mono ?_); (case side1 => repeat (first | exact HR0.out | (with_reducible refine Kd.C_alloc ?_ _) | (with_reducible refine Kd.C_drewN ?_ _) | (with_reducible refine Kd.C_drew ?_))); (case side2 => exact HC0.out); rintro e w4 ⟨v253, rfl, ho0, hb⟩; refine ⟨_, rfl, ?_⟩; have n0_ := Aside0.mk (Kd.R_lower ho0 (below_size (by repeat (first | (with_reducible first | exact HB.out | apply below_alloc | apply pw_below_drewN | apply below_drew1) | exact HB.out)))); have n1_ := Aside0.mk (below_step (by repeat (first | (with_reducible first | exact HB.out | apply below_alloc | apply pw_below_drewN | apply below_drew1) | exact HB.out)) hb); clear HB; have HO254 := n0_; have HB := n1_; clear n0_ n1_; (try clear hb); (try clear hb2); (try clear hk); (try clear hi); (try clear ho0)) | ((with_reducible refine gate_dst (N := 18) rfl ?_); refine Kd.R_lit (Kd.int .u8) _ 5 ?hg (N := 18) ?hd (xs := ([2] : List Int)) (inner := [.int .u8 2]) (ok := fun _ => True) (okp := fun _ => True) ?hr ?hp (fun _ hk => hk) trivial (Below.refl _ _) (Nat.le_refl _) (by simp) ?_; (case hd => rfl); (case hg => rfl); (case hr => first | (go_simp; done) | (go_simp; rfl)); (case hp => exact (Reps.one (show Kd.M (Kd.int .u8) _ _ _ 2 [.int .u8 2] from rfl) (Reps.none _ _))); intro v256 w5 ho6 hb hg_ hnew_; clear hg_ hnew_; (first | rw [← Ny255.out] at ho6 | (simp only [Int.reduceToNat] at ho6; rw [← Ny255.out] at ho6)); have n0_ := Aside0.mk (Kd.R_below (by (with_reducible repeat (first | apply Kd.R_alloc | apply Kd.R_drewN | apply Kd.R_drew)); exact HO254.out) hb); have n1_ := Aside0.mk (Kd.R_lower ho6 (below_size (by repeat (first | (with_reducible first | exact HB.out | apply below_alloc | apply pw_below_drewN | apply below_drew1) | exact HB.out)))); have n2_ := Aside0.mk (below_step (by repeat (first | (with_reducible first | exact HB.out | apply below_alloc | apply pw_below_drewN | apply below_drew1) | exact HB.out)) hb); clear HO254; clear HB; have HO254 := n0_; have HO257 := n1_; have HB := n2_; clear n0_ n1_ n2_; clear hb ho6; have hcw7 := fun n_ : Nat => own_string (P := Try.prog) Try.underlying25 Try.underlying5 Try.underlying9 (Kd.own_of_R (Kd.R_drewN HO257.out n_)); have hcv8 := own_string (P := Try.prog) Try.underlying25 Try.underlying5 Try.underlying9 (Kd.own_of_R HO257.out)))
    go_ret
    exact ⟨by first | rfl | (simp [errW_none, errW_some] <;> rfl) | (simp [*, errW_none, errW_some] <;> rfl), by repeat (first | (with_reducible first | exact HB.out | apply below_alloc | apply pw_below_drewN | apply below_drew1) | exact HB.out)⟩
  · rw [if_neg c3] at H
    have c3b0 : decide (8 < t252) = false := decide_eq_false c3
    clear c3
    have HC9 := Aside0.mk H
    clear H
    go_enter Try.func11, Try.ntmps11
    go_upto_if 24 with (first | ((with_reducible refine gate_callee (f := 19) rfl ?_); refine goesL_ (some 13) rfl rfl Try.func19 (by kernel_rfl) rfl #[.slice A0 l0.length c0] rfl (by (try simp only [List.map_toArray, List.map_cons, List.map_nil]); first | done | rfl | (simp only [List.length_drop, List.length_take]; rfl)) ?_; (with_reducible refine (forebearref11_Paths.calls k _ _ l0 t251 t252 _ ?side1 ?side2 A2.out).mono ?_); (case side1 => repeat (first | exact HR0.out | (with_reducible refine Kd.C_alloc ?_ _) | (with_reducible refine Kd.C_drewN ?_ _) | (with_reducible refine Kd.C_drew ?_))); (case side2 => exact HC0.out); rintro e w10 ⟨v253, rfl, ho0, hb⟩; refine ⟨_, rfl, ?_⟩; have n0_ := Aside0.mk (Kd.R_lower ho0 (below_size (by repeat (first | (with_reducible first | exact HB.out | apply below_alloc | apply pw_below_drewN | apply below_drew1) | exact HB.out)))); have n1_ := Aside0.mk (below_step (by repeat (first | (with_reducible first | exact HB.out | apply below_alloc | apply pw_below_drewN | apply below_drew1) | exact HB.out)) hb); clear HB; have HO254 := n0_; have HB := n1_; clear n0_ n1_; (try clear hb); (try clear hb2); (try clear hk); (try clear hi); (try clear ho0); obtain ⟨Ao11, co11, eo11⟩ := Kd.R_slice HO254.out; subst eo11))
    (try simp only [Act.put, List.setIfInBounds_toArray, List.set_cons_zero, List.set_cons_succ])
    go_cut [5] (fun v5 wc => ∃ (kq : Nat) (x5_8 : Int), v5 = .int .i64 x5_8 ∧ Aside0 (forebearref11_Make.j0 kq t251 x5_8 = some r) ∧ Aside0 (kq ≤ k) ∧ Aside0 (Kd.R Kd.string 9 wc w.heap.size (fun _ => True) (.slice Ao11 t251.length co11) t251) ∧ Aside0 (Below w.heap.size w wc))
    case first =>
      have H := HC9.out
      clear HC9
      by_cases c12 : (wrap64 (12 * (t251.length : Int))) < 8
      · rw [if_pos c12] at H
        have c12b0 : decide ((wrap64 (12 * (t251.length : Int))) < 8) = true := decide_eq_true c12
        clear c12
        (first | rw [c12b0] | (simp only [i64_w, i32_w]; rw [c12b0]) | skip)
        have H' := Aside0.mk H
        clear H
        go_wp2
        go_meet
        case rel => exact ⟨_, (8), (by first | rfl | (simp; done) | (simp [*]; done) | exact congrArg (Value.int _) (by omega)), H', ⟨by first | omega | exact Nat.le_refl _⟩, ⟨by (with_reducible repeat (first | apply Kd.R_alloc | apply Kd.R_drewN | apply Kd.R_drew)); exact HO254.out⟩, ⟨by repeat (first | (with_reducible first | exact HB.out | apply below_alloc | apply pw_below_drewN | apply below_drew1) | exact HB.out)⟩⟩
      · rw [if_neg c12] at H
        have c12b0 : decide ((wrap64 (12 * (t251.length : Int))) < 8) = false := decide_eq_false c12
        clear c12
        (first | rw [c12b0] | (simp only [i64_w, i32_w]; rw [c12b0]) | skip)
        have H' := Aside0.mk H
        clear H
        go_wp2
        go_meet
        case rel => exact ⟨_, (wrap64 (12 * (t251.length : Int))), (by first | rfl | (simp; done) | (simp [*]; done) | exact congrArg (Value.int _) (by omega)), H', ⟨by first | omega | exact Nat.le_refl _⟩, ⟨by (with_reducible repeat (first | apply Kd.R_alloc | apply Kd.R_drewN | apply Kd.R_drew)); exact HO254.out⟩, ⟨by repeat (first | (with_reducible first | exact HB.out | apply below_alloc | apply pw_below_drewN | apply below_drew1) | exact HB.out)⟩⟩
    case rest =>
      clear HC9
      try clear c1
      try clear p2
      try clear c3
      try clear c3b0
      try clear p6
      try clear hcv8
      try clear c11
      try clear c12
      try clear c12b0
      obtain ⟨kq, x5_8, rfl, HA, HJ8, HO_3, HB⟩ := hcut
      cases kq with
      | zero => exact absurd HA.out (by simp [forebearref11_Make.j0])
      | succ kj8 =>
        have H := HA.out
        clear HA
        simp only [forebearref11_Make.j0] at H
        have H' := Aside0.mk H
        clear H
        go_wp2
        go_loopg [5] kj8 (fun kq v5 w' => ∃ (x5_2 : Int), v5 = .int .i64 x5_2 ∧ Aside0 (forebearref11_Make.l0 kq t251 x5_2 = some r) ∧ Aside0 (kq ≤ kj8) ∧ Aside0 (Kd.R Kd.string 9 w' w.heap.size (fun _ => True) (.slice Ao11 t251.length co11) t251) ∧ Aside0 (Below w.heap.size w w'))
        case atStart => exact ⟨(x5_8), (by first | rfl | (simp; done) | (simp [*]; done) | exact congrArg (Value.int _) (by omega)), H', ⟨Nat.le_refl _⟩, ⟨by (with_reducible repeat (first | apply Kd.R_alloc | apply Kd.R_drewN | apply Kd.R_drew)); exact HO_3.out⟩, ⟨by repeat (first | (with_reducible first | exact HB.out | apply below_alloc | apply pw_below_drewN | apply below_drew1) | exact HB.out)⟩⟩
        case round =>
          clear H'
          try clear c1
          try clear p2
          try clear c3
          try clear c3b0
          try clear p6
          try clear hcv8
          try clear c11
          try clear c12
          try clear c12b0
          try clear p2
          try clear p6
          obtain ⟨x5_2, rfl, HA, HK2, HO_3, HB⟩ := hrel
          cases gk with
          | zero => exact absurd HA.out (by simp [forebearref11_Make.l0])
          | succ k2 =>
            have H := HA.out
            clear HA
            simp only [forebearref11_Make.l0] at H
            by_cases c13 : (Int.tmod x5_2 8) = 0
            · rw [if_pos c13] at H
              have c13b0 : ((Int.tmod x5_2 8) == 0) = true := beq_iff_eq.mpr c13
              have c13b1 : ((Int.tmod x5_2 8) != 0) = false := bne_eq_false_iff_eq.mpr c13
              clear c13
              replace H := Option.bind_eq_some_iff.mp H
              obtain ⟨t258, A140, H⟩ := H
              replace H : (forebearref11_Make.l1 k2 x5_2 t258 (([1] : List Int)) 0) = some r := H
              have A14 := Aside0.mk A140
              clear A140
              obtain ⟨y261, hy261⟩ : ∃ y_ : List Int, y_ = (([1] : List Int)) := ⟨_, rfl⟩
              replace H : (forebearref11_Make.l1 k2 x5_2 t258 y261 0) = some r := by first | (rw [hy261]; with_reducible exact H) | (have H2_ := (Option.bind_some _ _).symm.trans H; rw [hy261]; with_reducible exact H2_) | (have H2_ := (Option.bind_some _ _).symm.trans H; with_reducible exact H2_) | with_reducible exact H | (rw [hy261]; exact H) | exact H
              have Ny261 := Aside0.mk hy261
              clear hy261
              have H' := Aside0.mk H
              clear H
              go_wp2_with (first | ((with_reducible refine gate_callee (f := 20) rfl ?_); refine goesL_ (some 32) rfl rfl Try.func20 (by kernel_rfl) rfl #[.slice Ao11 t251.length co11, .int .i64 x5_2] rfl (by (try simp only [List.map_toArray, List.map_cons, List.map_nil]); first | done | rfl | (simp only [List.length_drop, List.length_take]; rfl)) ?_; (with_reducible refine (forebearref11_Set.calls k2 _ _ t251 x5_2 t258 _ ?side1 ?side2 A14.out).mono ?_); (case side1 => repeat (first | exact (Kd.R_reads' HO_3.out).2.2 | (with_reducible refine Kd.C_alloc ?_ _) | (with_reducible refine Kd.C_drewN ?_ _) | (with_reducible refine Kd.C_drew ?_))); (case side2 => exact (Kd.R_reads' HO_3.out).2.1); rintro e w15 ⟨v259, rfl, ho0, hb⟩; refine ⟨_, rfl, ?_⟩; have n0_ := Aside0.mk (Kd.R_below (by (with_reducible repeat (first | apply Kd.R_alloc | apply Kd.R_drewN | apply Kd.R_drew)); exact HO_3.out) hb); have n1_ := Aside0.mk (Kd.R_lower ho0 (below_size (by repeat (first | (with_reducible first | exact HB.out | apply below_alloc | apply pw_below_drewN | apply below_drew1) | exact HB.out)))); have n2_ := Aside0.mk (below_step (by repeat (first | (with_reducible first | exact HB.out | apply below_alloc | apply pw_below_drewN | apply below_drew1) | exact HB.out)) hb); clear HO_3; clear HB; have HO_3 := n0_; have HO260 := n1_; have HB := n2_; clear n0_ n1_ n2_; (try clear hb); (try clear hb2); (try clear hk); (try clear hi); (try clear ho0)) | ((with_reducible refine gate_dst (N := 33) rfl ?_); refine Kd.R_lit (Kd.int .u8) _ 5 ?hg (N := 33) ?hd (xs := ([1] : List Int)) (inner := [.int .u8 1]) (ok := fun _ => True) (okp := fun _ => True) ?hr ?hp (fun _ hk => hk) trivial (Below.refl _ _) (Nat.le_refl _) (by simp) ?_; (case hd => rfl); (case hg => rfl); (case hr => first | (go_simp; done) | (go_simp; rfl)); (case hp => exact (Reps.one (show Kd.M (Kd.int .u8) _ _ _ 1 [.int .u8 1] from rfl) (Reps.none _ _))); intro v262 w16 ho17 hb hg_ hnew_; clear hg_ hnew_; (first | rw [← Ny261.out] at ho17 | (simp only [Int.reduceToNat] at ho17; rw [← Ny261.out] at ho17)); have n0_ := Aside0.mk (Kd.R_below (by (with_reducible repeat (first | apply Kd.R_alloc | apply Kd.R_drewN | apply Kd.R_drew)); exact HO_3.out) hb); have n1_ := Aside0.mk (Kd.R_below (by (with_reducible repeat (first | apply Kd.R_alloc | apply Kd.R_drewN | apply Kd.R_drew)); exact HO260.out) hb); have n2_ := Aside0.mk (Kd.R_lower ho17 (below_size (by repeat (first | (with_reducible first | exact HB.out | apply below_alloc | apply pw_below_drewN | apply below_drew1) | exact HB.out)))); have n3_ := Aside0.mk (below_step (by repeat (first | (with_reducible first | exact HB.out | apply below_alloc | apply pw_below_drewN | apply below_drew1) | exact HB.out)) hb); clear HO_3; clear HO260; clear HB; have HO_3 := n0_; have HO260 := n1_; have HO263 := n2_; have HB := n3_; clear n0_ n1_ n2_ n3_; clear hb ho17))
              go_loopg [7, 8] k2 (fun kq v7 v8 w' => ∃ (x7_3 : List Int) (x8_3 : Int), v8 = .int .i64 x8_3 ∧ Aside0 (forebearref11_Make.l1 kq x5_2 t258 x7_3 x8_3 = some r) ∧ Aside0 (kq ≤ k2) ∧ Aside0 (Kd.R (Kd.int .i64) 3 w' w.heap.size (fun _ => True) v259 t258) ∧ Aside0 (Kd.R (Kd.int .u8) 5 w' w.heap.size (fun _ => True) v7 x7_3) ∧ Aside0 (Below w.heap.size w w'))
              case atStart => exact ⟨(y261), (0), (by first | rfl | (simp; done) | (simp [*]; done) | exact congrArg (Value.int _) (by omega)), H', ⟨Nat.le_refl _⟩, ⟨by (with_reducible repeat (first | apply Kd.R_alloc | apply Kd.R_drewN | apply Kd.R_drew)); exact HO260.out⟩, ⟨by (with_reducible repeat (first | apply Kd.R_alloc | apply Kd.R_drewN | apply Kd.R_drew)); exact HO263.out⟩, ⟨by repeat (first | (with_reducible first | exact HB.out | apply below_alloc | apply pw_below_drewN | apply below_drew1) | exact HB.out)⟩⟩
              case round =>
                clear H'
                try clear c1
                try clear c2
                try clear p2
                try clear c3
                try clear c3b0
                try clear p6
                try clear hcv8
                try clear c11
                try clear c12
                try clear c12b0
                try clear c13
                try clear c13b0
                try clear c13b1
                try clear p2
                try clear p6
                obtain ⟨x7_3, x8_3, rfl, HA, HK3, HO_6, HO_7, HB⟩ := hrel
                cases gk with
                | zero => exact absurd HA.out (by simp [forebearref11_Make.l1])
                | succ k3 =>
                  have H := HA.out
                  clear HA
                  simp only [forebearref11_Make.l1] at H
                  by_cases c18 : x8_3 < x5_2
                  · rw [if_pos c18] at H
                    have c18b0 : decide (x8_3 < x5_2) = true := decide_eq_true c18
                    clear c18
                    have H' := Aside0.mk H
                    clear H
                    go_wp2
                    go_loopg [9, 10] k3 (fun kq v9 v10 w' => ∃ (x9_4 : Int) (x10_4 : Int), v9 = .int .u8 x9_4 ∧ v10 = .int .i64 x10_4 ∧ Aside0 (forebearref11_Make.l2 kq x5_2 t258 x7_3 x8_3 x9_4 x10_4 = some r) ∧ Aside0 (kq ≤ k3) ∧ Aside0 (Kd.R (Kd.int .i64) 3 w' w.heap.size (fun _ => True) v259 t258) ∧ Aside0 (Kd.R (Kd.int .u8) 5 w' w.heap.size (fun _ => True) u7 x7_3) ∧ Aside0 (Below w.heap.size w w'))
                    case atStart => exact ⟨(0), (7), (by first | rfl | (simp; done) | (simp [*]; done) | exact congrArg (Value.int _) (by omega)), (by first | rfl | (simp; done) | (simp [*]; done) | exact congrArg (Value.int _) (by omega)), H', ⟨Nat.le_refl _⟩, ⟨by (with_reducible repeat (first | apply Kd.R_alloc | apply Kd.R_drewN | apply Kd.R_drew)); exact HO_6.out⟩, ⟨by (with_reducible repeat (first | apply Kd.R_alloc | apply Kd.R_drewN | apply Kd.R_drew)); exact HO_7.out⟩, ⟨by repeat (first | (with_reducible first | exact HB.out | apply below_alloc | apply pw_below_drewN | apply below_drew1) | exact HB.out)⟩⟩
                    case round =>
                      clear H'
                      try clear c1
                      try clear c2
                      try clear p2
                      try clear c3
                      try clear c3b0
                      try clear p6
                      try clear hcv8
                      try clear c11
                      try clear c12
                      try clear c12b0
                      try clear c13
                      try clear c13b0
                      try clear c13b1
                      try clear c18
                      try clear c18b0
                      try clear p2
                      try clear p6
                      obtain ⟨x9_4, x10_4, rfl, rfl, HA, HK4, HO_6, HO_7, HB⟩ := hrel
                      cases gk with
                      | zero => exact absurd HA.out (by simp [forebearref11_Make.l2])
                      | succ k4 =>
                        have H := HA.out
                        clear HA
                        simp only [forebearref11_Make.l2] at H
                        by_cases c19 : x10_4 ≥ 0
                        · rw [if_pos c19] at H
                          have c19b0 : decide (0 ≤ x10_4) = true := decide_eq_true c19
                          clear c19
                          replace H := Option.bind_eq_some_iff.mp H
                          obtain ⟨t264, A200, H⟩ := H
                          replace H : (if t264 = true then (forebearref11_Make.l2 k4 x5_2 t258 x7_3 x8_3 ((((x9_4 * 2) % 256) + 1) % 256) (wrap64 (x10_4 - 1))) else (forebearref11_Make.l2 k4 x5_2 t258 x7_3 x8_3 ((x9_4 * 2) % 256) (wrap64 (x10_4 - 1)))) = some r := H
                          have A20 := Aside0.mk A200
                          clear A200
                          by_cases c21 : t264 = true
                          · subst c21
                            have H1 : (forebearref11_Make.l2 k4 x5_2 t258 x7_3 x8_3 ((((x9_4 * 2) % 256) + 1) % 256) (wrap64 (x10_4 - 1))) = some r := by rw [if_pos rfl] at H; exact H
                            clear H
                            have H := H1
                            clear H1
                            have H' := Aside0.mk H
                            clear H
                            obtain ⟨Ao22, co22, eo22⟩ := Kd.R_slice HO_6.out
                            subst eo22
                            go_wp2_with (first | ((with_reducible refine gate_callee (f := 23) rfl ?_); refine goesL_ (some 49) rfl rfl Try.func23 (by kernel_rfl) rfl #[.slice Ao22 t258.length co22, .int .i64 (wrap64 (x8_3 + x10_4))] rfl (by (try simp only [List.map_toArray, List.map_cons, List.map_nil]); first | done | rfl | (simp only [List.length_drop, List.length_take]; rfl)) ?_; (with_reducible refine (forebearref11_has.calls k4 _ _ t258 (wrap64 (x8_3 + x10_4)) true _ ?side1 ?side2 A20.out).mono ?_); (case side1 => repeat (first | exact (Kd.R_reads' HO_6.out).2.2 | (with_reducible refine Kd.C_alloc ?_ _) | (with_reducible refine Kd.C_drewN ?_ _) | (with_reducible refine Kd.C_drew ?_))); (case side2 => exact (Kd.R_reads' HO_6.out).2.1); rintro e w' ⟨rfl, ⟨nd, rfl⟩⟩; refine ⟨_, rfl, ?_⟩))
                            go_roundg k4
                            case measure => have := HJ8.out; have := HK2.out; have := HK3.out; have := HK4.out; omega
                            case rel => exact ⟨((((x9_4 * 2) % 256) + 1) % 256), (wrap64 (x10_4 - 1)), (by first | rfl | (simp; done) | (simp [*]; done) | exact congrArg (Value.int _) (by omega)), (by first | rfl | (simp; done) | (simp [*]; done) | exact congrArg (Value.int _) (by omega)), H', ⟨by have := HJ8.out; have := HK2.out; have := HK3.out; have := HK4.out; omega⟩, ⟨by (with_reducible repeat (first | apply Kd.R_alloc | apply Kd.R_drewN | apply Kd.R_drew)); exact HO_6.out⟩, ⟨by (with_reducible repeat (first | apply Kd.R_alloc | apply Kd.R_drewN | apply Kd.R_drew)); exact HO_7.out⟩, ⟨by repeat (first | (with_reducible first | exact HB.out | apply below_alloc | apply pw_below_drewN | apply below_drew1) | exact HB.out)⟩⟩
                          · replace c21 := Bool.eq_false_iff.mpr c21
                            subst c21
                            have H1 : (forebearref11_Make.l2 k4 x5_2 t258 x7_3 x8_3 ((x9_4 * 2) % 256) (wrap64 (x10_4 - 1))) = some r := by rw [if_neg (show ¬ (false = true) by decide)] at H; exact H
                            clear H
                            have H := H1
                            clear H1
                            have H' := Aside0.mk H
                            clear H
                            obtain ⟨Ao23, co23, eo23⟩ := Kd.R_slice HO_6.out
                            subst eo23
                            go_wp2_with (first | ((with_reducible refine gate_callee (f := 23) rfl ?_); refine goesL_ (some 49) rfl rfl Try.func23 (by kernel_rfl) rfl #[.slice Ao23 t258.length co23, .int .i64 (wrap64 (x8_3 + x10_4))] rfl (by (try simp only [List.map_toArray, List.map_cons, List.map_nil]); first | done | rfl | (simp only [List.length_drop, List.length_take]; rfl)) ?_; (with_reducible refine (forebearref11_has.calls k4 _ _ t258 (wrap64 (x8_3 + x10_4)) false _ ?side1 ?side2 A20.out).mono ?_); (case side1 => repeat (first | exact (Kd.R_reads' HO_6.out).2.2 | (with_reducible refine Kd.C_alloc ?_ _) | (with_reducible refine Kd.C_drewN ?_ _) | (with_reducible refine Kd.C_drew ?_))); (case side2 => exact (Kd.R_reads' HO_6.out).2.1); rintro e w' ⟨rfl, ⟨nd, rfl⟩⟩; refine ⟨_, rfl, ?_⟩))
                            go_roundg k4
                            case measure => have := HJ8.out; have := HK2.out; have := HK3.out; have := HK4.out; omega
                            case rel => exact ⟨((x9_4 * 2) % 256), (wrap64 (x10_4 - 1)), (by first | rfl | (simp; done) | (simp [*]; done) | exact congrArg (Value.int _) (by omega)), (by first | rfl | (simp; done) | (simp [*]; done) | exact congrArg (Value.int _) (by omega)), H', ⟨by have := HJ8.out; have := HK2.out; have := HK3.out; have := HK4.out; omega⟩, ⟨by (with_reducible repeat (first | apply Kd.R_alloc | apply Kd.R_drewN | apply Kd.R_drew)); exact HO_6.out⟩, ⟨by (with_reducible repeat (first | apply Kd.R_alloc | apply Kd.R_drewN | apply Kd.R_drew)); exact HO_7.out⟩, ⟨by repeat (first | (with_reducible first | exact HB.out | apply below_alloc | apply pw_below_drewN | apply below_drew1) | exact HB.out)⟩⟩
                        · rw [if_neg c19] at H
                          have c19b0 : decide (0 ≤ x10_4) = false := decide_eq_false c19
                          clear c19
                          by_cases c24 : x7_3.length < 140737488355328
                          · rw [if_pos c24] at H
                            have LMc24 := Aside0.mk c24
                            clear c24
                            obtain ⟨y265, hy265⟩ : ∃ y_ : List Int, y_ = (x7_3 ++ [x9_4]) := ⟨_, rfl⟩
                            replace H : (forebearref11_Make.l1 k4 x5_2 t258 y265 (wrap64 (x8_3 + 8))) = some r := by first | (rw [hy265]; with_reducible exact H) | (have H2_ := (Option.bind_some _ _).symm.trans H; rw [hy265]; with_reducible exact H2_) | (have H2_ := (Option.bind_some _ _).symm.trans H; with_reducible exact H2_) | with_reducible exact H | (rw [hy265]; exact H) | exact H
                            have Ny265 := Aside0.mk hy265
                            clear hy265
                            have H' := Aside0.mk H
                            clear H
                            go_wp2_with (first | ((with_reducible refine gate_builtin (b := .append) (xs := #[.tmp 52, .tmp 54]) rfl ?_); at_builtin; refine Kd.R_append (Kd.int .u8) (w0 := w) w.heap.size rfl (.tmp 52) (.tmp 54) 25 5 (.int .u8 0) 1 rfl Try.underlying25 info5 rfl (by decide) (by omega) u7 x7_3 x9_4 [.int .u8 x9_4] (fun _ => True) (fun _ => False) rfl rfl ?aP (fun _ hk => hk.elim) ?aF ?aO ?aB ?aS ?aL ?_; (case aP => exact rfl); (case aB => exact (by repeat (first | (with_reducible first | exact HB.out | apply below_alloc | apply pw_below_drewN | apply below_drew1) | exact HB.out))); (case aF => exact (fun _ _ => trivial)); (case aO => exact (by (with_reducible repeat (first | apply Kd.R_alloc | apply Kd.R_drewN | apply Kd.R_drew)); exact HO_7.out)); (case aS => exact (below_size (by repeat (first | (with_reducible first | exact HB.out | apply below_alloc | apply pw_below_drewN | apply below_drew1) | exact HB.out)))); (case aL => have := LMc24.out; omega); intro v266 w25 ho hb hg hat; rw [← Ny265.out] at ho; have n0_ := Aside0.mk (Kd.R_over' (by (with_reducible repeat (first | apply Kd.R_alloc | apply Kd.R_drewN | apply Kd.R_drew)); exact HO_6.out) (Kd.R_typed (by (with_reducible repeat (first | apply Kd.R_alloc | apply Kd.R_drewN | apply Kd.R_drew)); exact HO_7.out)) (by decide) hg); have n1_ := Aside0.mk (hb); have n2_ := Aside0.mk (ho); clear HO_6; clear HB; clear HO_7; have HO_6 := n0_; have HB := n1_; have HO267 := n2_; clear n0_ n1_ n2_; clear ho hb hg hat))
                            go_roundg k4
                            case measure => have := HJ8.out; have := HK2.out; have := HK3.out; have := HK4.out; omega
                            case rel => exact ⟨(y265), (wrap64 (x8_3 + 8)), (by first | rfl | (simp; done) | (simp [*]; done) | exact congrArg (Value.int _) (by omega)), H', ⟨by have := HJ8.out; have := HK2.out; have := HK3.out; have := HK4.out; omega⟩, ⟨by (with_reducible repeat (first | apply Kd.R_alloc | apply Kd.R_drewN | apply Kd.R_drew)); exact HO_6.out⟩, ⟨by (with_reducible repeat (first | apply Kd.R_alloc | apply Kd.R_drewN | apply Kd.R_drew)); exact HO267.out⟩, ⟨by repeat (first | (with_reducible first | exact HB.out | apply below_alloc | apply pw_below_drewN | apply below_drew1) | exact HB.out)⟩⟩
                          · rw [if_neg c24] at H
                            exact absurd H (by simp)
                  · rw [if_neg c18] at H
                    have c18b0 : decide (x8_3 < x5_2) = false := decide_eq_false c18
                    clear c18
                    obtain rfl := Option.some.inj H
                    have hcw26 := fun n_ : Nat => own_string (P := Try.prog) Try.underlying25 Try.underlying5 Try.underlying9 (Kd.own_of_R (Kd.R_drewN HO_7.out n_))
                    have hcv27 := own_string (P := Try.prog) Try.underlying25 Try.underlying5 Try.underlying9 (Kd.own_of_R HO_7.out)
                    go_wp2
                    go_ret
                    exact ⟨by first | rfl | (simp [errW_none, errW_some] <;> rfl) | (simp [*, errW_none, errW_some] <;> rfl), by repeat (first | (with_reducible first | exact HB.out | apply below_alloc | apply pw_below_drewN | apply below_drew1) | exact HB.out)⟩
            · rw [if_neg c13] at H
              have c13b0 : ((Int.tmod x5_2 8) == 0) = false := beq_eq_false_iff_ne.mpr c13
              have c13b1 : ((Int.tmod x5_2 8) != 0) = true := bne_iff_ne.mpr c13
              have H' := Aside0.mk H
              clear H
              go_wp2
              go_roundg k2
              case measure => have := HJ8.out; have := HK2.out; omega
              case rel => exact ⟨(wrap64 (x5_2 + 1)), (by first | rfl | (simp; done) | (simp [*]; done) | exact congrArg (Value.int _) (by omega)), H', ⟨by have := HJ8.out; have := HK2.out; omega⟩, ⟨by (with_reducible repeat (first | apply Kd.R_alloc | apply Kd.R_drewN | apply Kd.R_drew)); exact HO_3.out⟩, ⟨by repeat (first | (with_reducible first | exact HB.out | apply below_alloc | apply pw_below_drewN | apply below_drew1) | exact HB.out)⟩⟩

end Go.Proofs.Ytgfiapeinpcipaa.MF

/- Laid by this claim's own program (myprint) out of the translation: functions that the laws of the group F reach, each as a plain function, with the proof that the Go code comes to it. No condition. -/
import Derived.Test.YtgfiapeinpcipaaMFx0
import Derived.Test.YtgfiapeinpcipaaMFx2
import Derived.Test.YtgfiapeinpcipaaMFx3
import Derived.Test.YtgfiapeinpcipaaMFx4
namespace Go.Proofs.Ytgfiapeinpcipaa.MF
open Go.Proofs.Ytgfiapeinpcipaa.Opening
open Go.RowKit Go.Proofs.YtgfiapeinpcipaaW.PrintWords Go.Proofs.YtgfiapeinpcipaaW.PrintLast Go.Proofs.YtgfiapeinpcipaaW.PrintMore
attribute [local go_sem] max2_int min2_int max_two min_two max_three min_three max_four min_four   -- for this text's walks alone
set_option linter.unusedVariables false
set_option linter.unusedSimpArgs false

/-! ### forebearlaw11_FilterOrder: function 7 -/
mutual
def forebearlaw11_FilterOrder.j0 : Nat → List ByteArray → ByteArray → Bool → Option (Bool)
  | 0, _, _, _ => none
  | k + 1, x0, x1, x14 => if x14 = true then ((forebearlaw11_awake.f k).bind fun t330 => (some t330)) else (forebearlaw11_FilterOrder.l0 k x0 x1 ([] : List ByteArray) (wrap64 ((x0.length : Int) - 1)))
def forebearlaw11_FilterOrder.l0 : Nat → List ByteArray → ByteArray → List ByteArray → Int → Option (Bool)
  | 0, _, _, _, _ => none
  | k + 1, x0, x1, x5, x6 => if x6 ≥ 0 then (if 0 ≤ x6 then (if x6 < (x0.length : Int) then (if x5.length < 8796093022208 then (forebearlaw11_FilterOrder.l0 k x0 x1 (x5 ++ [rdOf ByteArray.empty x0 x6]) (wrap64 (x6 - 1))) else (none)) else (none)) else (none)) else ((filter_Make.f k x0).bind fun t335 => (if (x0.length : Int) > 0 then (if 0 < (x0.length : Int) then (if x5.length < 8796093022208 then (forebearlaw11_FilterOrder.j2 k x1 (x5 ++ [rdOf ByteArray.empty x0 0]) (strOfNums t335)) else (none)) else (none)) else (forebearlaw11_FilterOrder.j2 k x1 x5 (strOfNums t335))))
def forebearlaw11_FilterOrder.j2 : Nat → ByteArray → List ByteArray → ByteArray → Option (Bool)
  | 0, _, _, _ => none
  | k + 1, x1, x5, x7 => (forebearref03_Is.f k x1).bind fun t342 => (if t342 = true then ((filter_Make.f k x5).bind fun t343 => (some ((strOfNums t343).toList == x7.toList))) else (if x5.length < 8796093022208 then ((filter_Make.f k (x5 ++ [x1])).bind fun t349 => (some ((strOfNums t349).toList == x7.toList))) else (none)))
end
def forebearlaw11_FilterOrder.f (k : Nat) (l0 : List ByteArray) (a1 : ByteArray) : Option (Bool) := (forebearlaw11_awake.f k).bind fun t328 => (if t328 = true then ((forebearlaw11_few.f l0).bind fun t329 => (forebearlaw11_FilterOrder.j0 k l0 a1 (!t329))) else (forebearlaw11_FilterOrder.j0 k l0 a1 true))
theorem forebearlaw11_FilterOrder.mono_l : ∀ k, (∀ y0 y1 y2, LeO (forebearlaw11_FilterOrder.j0 k y0 y1 y2) (forebearlaw11_FilterOrder.j0 (k + 1) y0 y1 y2)) ∧ (∀ y0 y1 y2 y3, LeO (forebearlaw11_FilterOrder.l0 k y0 y1 y2 y3) (forebearlaw11_FilterOrder.l0 (k + 1) y0 y1 y2 y3)) ∧ (∀ y0 y1 y2, LeO (forebearlaw11_FilterOrder.j2 k y0 y1 y2) (forebearlaw11_FilterOrder.j2 (k + 1) y0 y1 y2))
  | 0 => ⟨fun _ _ _ r h => by simp [forebearlaw11_FilterOrder.j0] at h, fun _ _ _ _ r h => by simp [forebearlaw11_FilterOrder.l0] at h, fun _ _ _ r h => by simp [forebearlaw11_FilterOrder.j2] at h⟩
  | k + 1 => by
    obtain ⟨ih0, ih1, ih2⟩ := forebearlaw11_FilterOrder.mono_l k
    refine ⟨?_, ?_, ?_⟩
    · intro y0 y1 y2
      unfold forebearlaw11_FilterOrder.j0
      repeat' first
      | (with_reducible exact ih0 _ _ _)
      | (with_reducible exact ih1 _ _ _ _)
      | (with_reducible exact ih2 _ _ _)
      | (with_reducible exact filter_Make.mono _ _)
      | (with_reducible exact forebearlaw11_awake.mono _)
      | (with_reducible exact forebearref03_Is.mono _ _)
      | (with_reducible exact LeO.refl _)
      | (with_reducible exact LeO.none _)
      | (with_reducible refine LeO.ite ?_ ?_)
      | (with_reducible refine LeO.bind ?_ (fun _ => ?_))
      | exact ih0 _ _ _
      | exact ih1 _ _ _ _
      | exact ih2 _ _ _
      | exact filter_Make.mono _ _
      | exact forebearlaw11_awake.mono _
      | exact forebearref03_Is.mono _ _
      | exact LeO.none _
      | refine LeO.ite ?_ ?_
      | refine LeO.bind ?_ (fun _ => ?_)
    · intro y0 y1 y2 y3
      unfold forebearlaw11_FilterOrder.l0
      repeat' first
      | (with_reducible exact ih0 _ _ _)
      | (with_reducible exact ih1 _ _ _ _)
      | (with_reducible exact ih2 _ _ _)
      | (with_reducible exact filter_Make.mono _ _)
      | (with_reducible exact forebearlaw11_awake.mono _)
      | (with_reducible exact forebearref03_Is.mono _ _)
      | (with_reducible exact LeO.refl _)
      | (with_reducible exact LeO.none _)
      | (with_reducible refine LeO.ite ?_ ?_)
      | (with_reducible refine LeO.bind ?_ (fun _ => ?_))
      | exact ih0 _ _ _
      | exact ih1 _ _ _ _
      | exact ih2 _ _ _
      | exact filter_Make.mono _ _
      | exact forebearlaw11_awake.mono _
      | exact forebearref03_Is.mono _ _
      | exact LeO.none _
      | refine LeO.ite ?_ ?_
      | refine LeO.bind ?_ (fun _ => ?_)
    · intro y0 y1 y2
      unfold forebearlaw11_FilterOrder.j2
      repeat' first
      | (with_reducible exact ih0 _ _ _)
      | (with_reducible exact ih1 _ _ _ _)
      | (with_reducible exact ih2 _ _ _)
      | (with_reducible exact filter_Make.mono _ _)
      | (with_reducible exact forebearlaw11_awake.mono _)
      | (with_reducible exact forebearref03_Is.mono _ _)
      | (with_reducible exact LeO.refl _)
      | (with_reducible exact LeO.none _)
      | (with_reducible refine LeO.ite ?_ ?_)
      | (with_reducible refine LeO.bind ?_ (fun _ => ?_))
      | exact ih0 _ _ _
      | exact ih1 _ _ _ _
      | exact ih2 _ _ _
      | exact filter_Make.mono _ _
      | exact forebearlaw11_awake.mono _
      | exact forebearref03_Is.mono _ _
      | exact LeO.none _
      | refine LeO.ite ?_ ?_
      | refine LeO.bind ?_ (fun _ => ?_)
theorem forebearlaw11_FilterOrder.mono : ∀ a0 a1 k, LeO (forebearlaw11_FilterOrder.f k a0 a1) (forebearlaw11_FilterOrder.f (k + 1) a0 a1) := by
  intro a0 a1 k
  obtain ⟨ih0, ih1, ih2⟩ := forebearlaw11_FilterOrder.mono_l k
  unfold forebearlaw11_FilterOrder.f
  repeat' first
      | (with_reducible exact ih0 _ _ _)
      | (with_reducible exact ih1 _ _ _ _)
      | (with_reducible exact ih2 _ _ _)
      | (with_reducible exact filter_Make.mono _ _)
      | (with_reducible exact forebearlaw11_awake.mono _)
      | (with_reducible exact forebearref03_Is.mono _ _)
      | (with_reducible exact LeO.refl _)
      | (with_reducible exact LeO.none _)
      | (with_reducible refine LeO.ite ?_ ?_)
      | (with_reducible refine LeO.bind ?_ (fun _ => ?_))
      | exact ih0 _ _ _
      | exact ih1 _ _ _ _
      | exact ih2 _ _ _
      | exact filter_Make.mono _ _
      | exact forebearlaw11_awake.mono _
      | exact forebearref03_Is.mono _ _
      | exact LeO.none _
      | refine LeO.ite ?_ ?_
      | refine LeO.bind ?_ (fun _ => ?_)
set_option maxHeartbeats 8000000 in
set_option maxRecDepth 100000 in
theorem forebearlaw11_FilterOrder.calls (k : Nat) (A0 : Option Addr) (c0 : Nat) (l0 : List ByteArray) (a1 : ByteArray) (r : Bool) (w : World) (hr0 : Kd.C Kd.string w A0 l0.length l0) (hc0 : l0.length ≤ c0) (h : forebearlaw11_FilterOrder.f k l0 a1 = some r) :
    Calls Try.prog 7 #[.slice A0 l0.length c0, .string a1] w fun e w' => e = .returned (.bool r) ∧ Below w.heap.size w w' := by
  have HR0 := Aside0.mk hr0
  have HC0 := Aside0.mk hc0
  clear hr0 hc0
  have HB := Aside0.mk (Below.refl w.heap.size w)
  have H : ((forebearlaw11_awake.f k).bind fun t328 => (if t328 = true then ((forebearlaw11_few.f l0).bind fun t329 => (forebearlaw11_FilterOrder.j0 k l0 a1 (!t329))) else (forebearlaw11_FilterOrder.j0 k l0 a1 true))) = some r := h
  clear h
  have HC3 := Aside0.mk H
  clear H
  go_enter Try.func7, Try.ntmps7
  go_upto_region 1 with (fail)
  go_cut [14] (fun v14 wc => ∃ (kq : Nat) (x14_2 : Bool), v14 = .bool x14_2 ∧ Aside0 (forebearlaw11_FilterOrder.j0 kq l0 a1 x14_2 = some r) ∧ Aside0 (kq ≤ k) ∧ Aside0 (Below w.heap.size w wc))
  case first =>
    have H := HC3.out
    clear HC3
    replace H := Option.bind_eq_some_iff.mp H
    obtain ⟨t328, A40, H⟩ := H
    replace H : (if t328 = true then ((forebearlaw11_few.f l0).bind fun t329 => (forebearlaw11_FilterOrder.j0 k l0 a1 (!t329))) else (forebearlaw11_FilterOrder.j0 k l0 a1 true)) = some r := H
    have A4 := Aside0.mk A40
    clear A40
    by_cases c5 : t328 = true
    · subst c5
      have H1 : ((forebearlaw11_few.f l0).bind fun t329 => (forebearlaw11_FilterOrder.j0 k l0 a1 (!t329))) = some r := by rw [if_pos rfl] at H; exact H
      clear H
      have H := H1
      clear H1
      replace H := Option.bind_eq_some_iff.mp H
      obtain ⟨t329, A60, H⟩ := H
      replace H : (forebearlaw11_FilterOrder.j0 k l0 a1 (!t329)) = some r := H
      have A6 := Aside0.mk A60
      clear A60
      have H' := Aside0.mk H
      clear H
      go_wp2_with (first | ((with_reducible refine gate_callee (f := 8) rfl ?_); refine goesL_ (some 8) rfl rfl Try.func8 (by kernel_rfl) rfl #[] rfl (by (try simp only [List.map_toArray, List.map_cons, List.map_nil]); first | done | rfl | (simp only [List.length_drop, List.length_take]; rfl)) ?_; (with_reducible refine (forebearlaw11_awake.calls k  true _ A4.out).mono ?_); rintro e w7 ⟨rfl, hb⟩; refine ⟨_, rfl, ?_⟩; have n0_ := Aside0.mk (below_step (by repeat (first | (with_reducible first | exact HB.out | apply below_alloc | apply pw_below_drewN | apply below_drew1) | exact HB.out)) hb); clear HB; have HB := n0_; clear n0_; (try clear hb); (try clear hb2); (try clear hk); (try clear hi)) | (go_at_call 9; (with_reducible refine (forebearlaw11_few.calls _ _ l0 t329 _ ?side1 ?side2 A6.out).mono ?_); (case side1 => repeat (first | exact (Kd.C_below HR0.out HB.out) | (with_reducible refine Kd.C_alloc ?_ _) | (with_reducible refine Kd.C_drewN ?_ _) | (with_reducible refine Kd.C_drew ?_))); (case side2 => exact HC0.out); rintro e w' ⟨rfl, ⟨nd, rfl⟩⟩))
      go_meet
      case rel => exact ⟨_, (!t329), (by first | rfl | (simp; done) | (simp [*]; done)), H', ⟨by first | omega | exact Nat.le_refl _⟩, ⟨by repeat (first | (with_reducible first | exact HB.out | apply below_alloc | apply pw_below_drewN | apply below_drew1) | exact HB.out)⟩⟩
    · replace c5 := Bool.eq_false_iff.mpr c5
      subst c5
      have H1 : (forebearlaw11_FilterOrder.j0 k l0 a1 true) = some r := by rw [if_neg (show ¬ (false = true) by decide)] at H; exact H
      clear H
      have H := H1
      clear H1
      have H' := Aside0.mk H
      clear H
      go_wp2_with (first | ((with_reducible refine gate_callee (f := 8) rfl ?_); refine goesL_ (some 8) rfl rfl Try.func8 (by kernel_rfl) rfl #[] rfl (by (try simp only [List.map_toArray, List.map_cons, List.map_nil]); first | done | rfl | (simp only [List.length_drop, List.length_take]; rfl)) ?_; (with_reducible refine (forebearlaw11_awake.calls k  false _ A4.out).mono ?_); rintro e w8 ⟨rfl, hb⟩; refine ⟨_, rfl, ?_⟩; have n0_ := Aside0.mk (below_step (by repeat (first | (with_reducible first | exact HB.out | apply below_alloc | apply pw_below_drewN | apply below_drew1) | exact HB.out)) hb); clear HB; have HB := n0_; clear n0_; (try clear hb); (try clear hb2); (try clear hk); (try clear hi)))
      go_meet
      case rel => exact ⟨_, (true), (by first | rfl | (simp; done) | (simp [*]; done)), H', ⟨by first | omega | exact Nat.le_refl _⟩, ⟨by repeat (first | (with_reducible first | exact HB.out | apply below_alloc | apply pw_below_drewN | apply below_drew1) | exact HB.out)⟩⟩
  case rest =>
    clear HC3
    try clear p2
    try clear c5
    try clear c7
    try clear c8
    obtain ⟨kq, x14_2, rfl, HA, HJ2, HB⟩ := hcut
    cases kq with
    | zero => exact absurd HA.out (by simp [forebearlaw11_FilterOrder.j0])
    | succ kj2 =>
      have H := HA.out
      clear HA
      simp only [forebearlaw11_FilterOrder.j0] at H
      by_cases c9 : x14_2 = true
      · subst c9
        have H1 : ((forebearlaw11_awake.f kj2).bind fun t330 => (some t330)) = some r := by rw [if_pos rfl] at H; exact H
        clear H
        have H := H1
        clear H1
        replace H := Option.bind_eq_some_iff.mp H
        obtain ⟨t330, A100, H⟩ := H
        replace H : (some t330) = some r := H
        have A10 := Aside0.mk A100
        clear A100
        obtain rfl := Option.some.inj H
        go_wp2_with (first | ((with_reducible refine gate_callee (f := 8) rfl ?_); refine goesL_ (some 15) rfl rfl Try.func8 (by kernel_rfl) rfl #[] rfl (by (try simp only [List.map_toArray, List.map_cons, List.map_nil]); first | done | rfl | (simp only [List.length_drop, List.length_take]; rfl)) ?_; (with_reducible refine (forebearlaw11_awake.calls kj2  t330 _ A10.out).mono ?_); rintro e w11 ⟨rfl, hb⟩; refine ⟨_, rfl, ?_⟩; have n0_ := Aside0.mk (below_step (by repeat (first | (with_reducible first | exact HB.out | apply below_alloc | apply pw_below_drewN | apply below_drew1) | exact HB.out)) hb); clear HB; have HB := n0_; clear n0_; (try clear hb); (try clear hb2); (try clear hk); (try clear hi)))
        go_ret
        exact ⟨by first | rfl | (simp [errW_none, errW_some] <;> rfl) | (simp [*, errW_none, errW_some] <;> rfl), by repeat (first | (with_reducible first | exact HB.out | apply below_alloc | apply pw_below_drewN | apply below_drew1) | exact HB.out)⟩
      · replace c9 := Bool.eq_false_iff.mpr c9
        subst c9
        have H1 : (forebearlaw11_FilterOrder.l0 kj2 l0 a1 ([] : List ByteArray) (wrap64 ((l0.length : Int) - 1))) = some r := by rw [if_neg (show ¬ (false = true) by decide)] at H; exact H
        clear H
        have H := H1
        clear H1
        have H' := Aside0.mk H
        clear H
        go_wp2
        go_loopg [5, 6] kj2 (fun kq v5 v6 w' => ∃ (x5_2 : List ByteArray) (x6_2 : Int), v6 = .int .i64 x6_2 ∧ Aside0 (forebearlaw11_FilterOrder.l0 kq l0 a1 x5_2 x6_2 = some r) ∧ Aside0 (kq ≤ kj2) ∧ Aside0 (Kd.R Kd.string 9 w' w.heap.size (fun _ => True) v5 x5_2) ∧ Aside0 (Below w.heap.size w w'))
        case atStart => exact ⟨(([] : List ByteArray)), (wrap64 ((l0.length : Int) - 1)), (by first | rfl | (simp; done) | (simp [*]; done)), H', ⟨Nat.le_refl _⟩, ⟨by first | exact Kd.R_nil _ _ _ _ _ | exact Kd.N_nil _ _ _ _ _ | exact Kd.V_nil _ _ _ _ _ | exact Kd.Q_nil _ _ _ _ _ | exact Kd.S_nil _ _ _ _ _⟩, ⟨by repeat (first | (with_reducible first | exact HB.out | apply below_alloc | apply pw_below_drewN | apply below_drew1) | exact HB.out)⟩⟩
        case round =>
          clear H'
          try clear p2
          try clear c5
          try clear p6
          try clear c7
          try clear c8
          try clear c9
          try clear p2
          obtain ⟨x5_2, x6_2, rfl, HA, HK2, HO_5, HB⟩ := hrel
          cases gk with
          | zero => exact absurd HA.out (by simp [forebearlaw11_FilterOrder.l0])
          | succ k2 =>
            have H := HA.out
            clear HA
            simp only [forebearlaw11_FilterOrder.l0] at H
            by_cases c12 : x6_2 ≥ 0
            · rw [if_pos c12] at H
              have c12b0 : decide (0 ≤ x6_2) = true := decide_eq_true c12
              clear c12
              by_cases c13 : 0 ≤ x6_2
              · rw [if_pos c13] at H
                have c13b0 : decide (0 ≤ x6_2) = true := decide_eq_true c13
                clear c13
                by_cases c14 : x6_2 < (l0.length : Int)
                · rw [if_pos c14] at H
                  have c14b0 : decide (x6_2 < (l0.length : Int)) = true := decide_eq_true c14
                  clear c14
                  by_cases c15 : x5_2.length < 8796093022208
                  · rw [if_pos c15] at H
                    have LMc15 := Aside0.mk c15
                    clear c15
                    obtain ⟨y332, hy332⟩ : ∃ y_ : List ByteArray, y_ = (x5_2 ++ [rdOf ByteArray.empty l0 x6_2]) := ⟨_, rfl⟩
                    replace H : (forebearlaw11_FilterOrder.l0 k2 l0 a1 y332 (wrap64 (x6_2 - 1))) = some r := by first | (rw [hy332]; with_reducible exact H) | (have H2_ := (Option.bind_some _ _).symm.trans H; rw [hy332]; with_reducible exact H2_) | (have H2_ := (Option.bind_some _ _).symm.trans H; with_reducible exact H2_) | with_reducible exact H | (rw [hy332]; exact H) | exact H
                    have Ny332 := Aside0.mk hy332
                    clear hy332
                    have H' := Aside0.mk H
                    clear H
                    have p331 : 0 ≤ (x6_2 : Int) := of_decide_eq_true (by first | (with_reducible assumption) | assumption)
                    have q331 : x6_2 < (l0.length : Int) := of_decide_eq_true (by first | (with_reducible assumption) | assumption)
                    obtain ⟨ad331, e331, hx331_0⟩ := Kd.at_string HR0.out x6_2 p331 q331
                    cases e331
                    try replace hx331_0 := (HB.out.cell (World.block_lt_of_cell? w _ hx331_0)).trans hx331_0
                    replace p331 := eq_true p331
                    replace q331 := eq_true q331
                    go_wp2_with (first | ((with_reducible refine gate_builtin (b := .append) (xs := #[.tmp 23, .tmp 28]) rfl ?_); at_builtin; refine Kd.R_append Kd.string (w0 := w) w.heap.size rfl (.tmp 23) (.tmp 28) 22 9 (.string ⟨#[]⟩) 16 rfl Try.underlying22 info9 rfl (by decide) (by omega) u5 x5_2 (rdOf ByteArray.empty l0 x6_2) [.string (rdOf ByteArray.empty l0 x6_2)] (fun _ => True) (fun _ => False) rfl rfl ?aP (fun _ hk => hk.elim) ?aF ?aO ?aB ?aS ?aL ?_; (case aP => exact rfl); (case aB => exact (by repeat (first | (with_reducible first | exact HB.out | apply below_alloc | apply pw_below_drewN | apply below_drew1) | exact HB.out))); (case aF => exact (fun _ _ => trivial)); (case aO => exact (by (with_reducible repeat (first | apply Kd.R_alloc | apply Kd.R_drewN | apply Kd.R_drew)); exact HO_5.out)); (case aS => exact (below_size (by repeat (first | (with_reducible first | exact HB.out | apply below_alloc | apply pw_below_drewN | apply below_drew1) | exact HB.out)))); (case aL => have := LMc15.out; omega); intro v333 w16 ho hb hg hat; rw [← Ny332.out] at ho; have n0_ := Aside0.mk (hb); have n1_ := Aside0.mk (ho); clear HB; clear HO_5; have HB := n0_; have HO334 := n1_; clear n0_ n1_; clear ho hb hg hat))
                    go_roundg k2
                    case measure => have := HJ2.out; have := HK2.out; omega
                    case rel => exact ⟨(y332), (wrap64 (x6_2 - 1)), (by first | rfl | (simp; done) | (simp [*]; done)), H', ⟨by have := HJ2.out; have := HK2.out; omega⟩, ⟨by (with_reducible repeat (first | apply Kd.R_alloc | apply Kd.R_drewN | apply Kd.R_drew)); exact HO334.out⟩, ⟨by repeat (first | (with_reducible first | exact HB.out | apply below_alloc | apply pw_below_drewN | apply below_drew1) | exact HB.out)⟩⟩
                  · rw [if_neg c15] at H
                    exact absurd H (by simp)
                · rw [if_neg c14] at H
                  exact absurd H (by simp)
              · rw [if_neg c13] at H
                exact absurd H (by simp)
            · rw [if_neg c12] at H
              have c12b0 : decide (0 ≤ x6_2) = false := decide_eq_false c12
              clear c12
              replace H := Option.bind_eq_some_iff.mp H
              obtain ⟨t335, A170, H⟩ := H
              replace H : (if (l0.length : Int) > 0 then (if 0 < (l0.length : Int) then (if x5_2.length < 8796093022208 then (forebearlaw11_FilterOrder.j2 k2 a1 (x5_2 ++ [rdOf ByteArray.empty l0 0]) (strOfNums t335)) else (none)) else (none)) else (forebearlaw11_FilterOrder.j2 k2 a1 x5_2 (strOfNums t335))) = some r := H
              have A17 := Aside0.mk A170
              clear A170
              have HC18 := Aside0.mk H
              clear H
              go_upto_if 35 with (first | ((with_reducible refine gate_callee (f := 10) rfl ?_); refine goesL_ (some 31) rfl rfl Try.func10 (by kernel_rfl) rfl #[.slice A0 l0.length c0] rfl (by (try simp only [List.map_toArray, List.map_cons, List.map_nil]); first | done | rfl | (simp only [List.length_drop, List.length_take]; rfl)) ?_; (with_reducible refine (filter_Make.calls k2 _ _ l0 t335 _ ?side1 ?side2 A17.out).mono ?_); (case side1 => repeat (first | exact (Kd.C_below HR0.out HB.out) | (with_reducible refine Kd.C_alloc ?_ _) | (with_reducible refine Kd.C_drewN ?_ _) | (with_reducible refine Kd.C_drew ?_))); (case side2 => exact HC0.out); rintro e w19 ⟨v336, rfl, ho0, hb⟩; refine ⟨_, rfl, ?_⟩; have n0_ := Aside0.mk (Kd.R_below (by (with_reducible repeat (first | apply Kd.R_alloc | apply Kd.R_drewN | apply Kd.R_drew)); exact HO_5.out) hb); have n1_ := Aside0.mk (Kd.R_lower ho0 (below_size (by repeat (first | (with_reducible first | exact HB.out | apply below_alloc | apply pw_below_drewN | apply below_drew1) | exact HB.out)))); have n2_ := Aside0.mk (below_step (by repeat (first | (with_reducible first | exact HB.out | apply below_alloc | apply pw_below_drewN | apply below_drew1) | exact HB.out)) hb); clear HO_5; clear HB; have HO_5 := n0_; have HO337 := n1_; have HB := n2_; clear n0_ n1_ n2_; (try clear hb); (try clear hb2); (try clear hk); (try clear hi); (try clear ho0); have hcw20 := fun n_ : Nat => own_string (P := Try.prog) Try.underlying25 Try.underlying5 Try.underlying9 (Kd.own_of_R (Kd.R_drewN HO337.out n_)); have hcv21 := own_string (P := Try.prog) Try.underlying25 Try.underlying5 Try.underlying9 (Kd.own_of_R HO337.out)))
              (try simp only [Act.put, List.setIfInBounds_toArray, List.set_cons_zero, List.set_cons_succ])
              go_cut [5] (fun v5 wc => ∃ (kq : Nat) (x5_17 : List ByteArray), Aside0 (forebearlaw11_FilterOrder.j2 kq a1 x5_17 (strOfNums t335) = some r) ∧ Aside0 (kq ≤ k2) ∧ Aside0 (Kd.R Kd.string 9 wc w.heap.size (fun _ => True) v5 x5_17) ∧ Aside0 (Below w.heap.size w wc))
              case first =>
                have H := HC18.out
                clear HC18
                by_cases c22 : (l0.length : Int) > 0
                · rw [if_pos c22] at H
                  have c22b0 : decide (0 < (l0.length : Int)) = true := decide_eq_true c22
                  have c22b1 : decide (0 < l0.length) = true := decide_eq_true (by omega)
                  clear c22
                  (first | rw [c22b0] | (simp only [i64_w, i32_w]; rw [c22b0]) | rw [c22b1] | skip)
                  by_cases c23 : 0 < (l0.length : Int)
                  · rw [if_pos c23] at H
                    have c23b0 : decide (0 < (l0.length : Int)) = true := decide_eq_true c23
                    have c23b1 : decide (0 < l0.length) = true := decide_eq_true (by omega)
                    clear c23
                    by_cases c24 : x5_2.length < 8796093022208
                    · rw [if_pos c24] at H
                      have LMc24 := Aside0.mk c24
                      clear c24
                      obtain ⟨y339, hy339⟩ : ∃ y_ : List ByteArray, y_ = (x5_2 ++ [rdOf ByteArray.empty l0 0]) := ⟨_, rfl⟩
                      replace H : (forebearlaw11_FilterOrder.j2 k2 a1 y339 (strOfNums t335)) = some r := by first | (rw [hy339]; with_reducible exact H) | (have H2_ := (Option.bind_some _ _).symm.trans H; rw [hy339]; with_reducible exact H2_) | (have H2_ := (Option.bind_some _ _).symm.trans H; with_reducible exact H2_) | with_reducible exact H | (rw [hy339]; exact H) | exact H
                      have Ny339 := Aside0.mk hy339
                      clear hy339
                      have H' := Aside0.mk H
                      clear H
                      have p338 : 0 ≤ (0 : Int) := (by omega)
                      have q338 : 0 < (l0.length : Int) := of_decide_eq_true (by first | (with_reducible assumption) | assumption)
                      obtain ⟨ad338, e338, hx338_0⟩ := Kd.at_string HR0.out 0 p338 q338
                      cases e338
                      have qi338 : (0 < l0.length) = True := eq_true (by omega)
                      (try rw [show ((0 : Int)).toNat = 0 from rfl] at hx338_0)
                      (try rw [Addr.add_zero'] at hx338_0)
                      try replace hx338_0 := (HB.out.cell (World.block_lt_of_cell? w _ hx338_0)).trans hx338_0
                      replace p338 := eq_true p338
                      replace q338 := eq_true q338
                      go_wp2_with (first | ((with_reducible refine gate_builtin (b := .append) (xs := #[.tmp 36, .tmp 40]) rfl ?_); at_builtin; refine Kd.R_append Kd.string (w0 := w) w.heap.size rfl (.tmp 36) (.tmp 40) 22 9 (.string ⟨#[]⟩) 16 rfl Try.underlying22 info9 rfl (by decide) (by omega) u5 x5_2 (rdOf ByteArray.empty l0 0) [.string (rdOf ByteArray.empty l0 0)] (fun _ => True) (fun _ => False) rfl rfl ?aP (fun _ hk => hk.elim) ?aF ?aO ?aB ?aS ?aL ?_; (case aP => exact rfl); (case aB => exact (by repeat (first | (with_reducible first | exact HB.out | apply below_alloc | apply pw_below_drewN | apply below_drew1) | exact HB.out))); (case aF => exact (fun _ _ => trivial)); (case aO => exact (by (with_reducible repeat (first | apply Kd.R_alloc | apply Kd.R_drewN | apply Kd.R_drew)); exact HO_5.out)); (case aS => exact (below_size (by repeat (first | (with_reducible first | exact HB.out | apply below_alloc | apply pw_below_drewN | apply below_drew1) | exact HB.out)))); (case aL => have := LMc24.out; omega); intro v340 w25 ho hb hg hat; rw [← Ny339.out] at ho; have n0_ := Aside0.mk (Kd.R_over' (by (with_reducible repeat (first | apply Kd.R_alloc | apply Kd.R_drewN | apply Kd.R_drew)); exact HO337.out) (Kd.R_typed (by (with_reducible repeat (first | apply Kd.R_alloc | apply Kd.R_drewN | apply Kd.R_drew)); exact HO_5.out)) (by decide) hg); have n1_ := Aside0.mk (hb); have n2_ := Aside0.mk (ho); clear HO337; clear HB; clear HO_5; have HO337 := n0_; have HB := n1_; have HO341 := n2_; clear n0_ n1_ n2_; clear ho hb hg hat))
                      go_meet
                      case rel => exact ⟨_, (y339), H', ⟨by have := HJ2.out; have := HK2.out; first | omega | exact Nat.le_refl _⟩, ⟨by (with_reducible repeat (first | apply Kd.R_alloc | apply Kd.R_drewN | apply Kd.R_drew)); exact HO341.out⟩, ⟨by repeat (first | (with_reducible first | exact HB.out | apply below_alloc | apply pw_below_drewN | apply below_drew1) | exact HB.out)⟩⟩
                    · rw [if_neg c24] at H
                      exact absurd H (by simp)
                  · rw [if_neg c23] at H
                    exact absurd H (by simp)
                · rw [if_neg c22] at H
                  have c22b0 : decide (0 < (l0.length : Int)) = false := decide_eq_false c22
                  have c22b1 : decide (0 < l0.length) = false := decide_eq_false (by omega)
                  clear c22
                  (first | rw [c22b0] | (simp only [i64_w, i32_w]; rw [c22b0]) | rw [c22b1] | skip)
                  have H' := Aside0.mk H
                  clear H
                  go_wp2
                  go_meet
                  case rel => exact ⟨_, (x5_2), H', ⟨by have := HJ2.out; have := HK2.out; first | omega | exact Nat.le_refl _⟩, ⟨by (with_reducible repeat (first | apply Kd.R_alloc | apply Kd.R_drewN | apply Kd.R_drew)); exact HO_5.out⟩, ⟨by repeat (first | (with_reducible first | exact HB.out | apply below_alloc | apply pw_below_drewN | apply below_drew1) | exact HB.out)⟩⟩
              case rest =>
                clear HC18
                try clear c1
                try clear c2
                try clear p2
                try clear hcv2
                try clear p3
                try clear q3
                try clear hx3
                try clear qi3
                try clear c5
                try clear p6
                try clear c7
                try clear c8
                try clear c9
                try clear c10
                try clear c12
                try clear c12b0
                try clear c13
                try clear c13b0
                try clear c14
                try clear c14b0
                try clear c15
                try clear hcv21
                try clear c22
                try clear c22b0
                try clear c22b1
                try clear c23
                try clear c23b0
                try clear c23b1
                try clear c24
                try clear hx331_0
                try clear hx338_0
                try clear p2
                try clear p331
                try clear p338
                try clear p6
                try clear q331
                try clear q338
                obtain ⟨kq, x5_17, HA, HJ17, HO_5, HB⟩ := hcut
                cases kq with
                | zero => exact absurd HA.out (by simp [forebearlaw11_FilterOrder.j2])
                | succ kj17 =>
                  have H := HA.out
                  clear HA
                  simp only [forebearlaw11_FilterOrder.j2] at H
                  replace H := Option.bind_eq_some_iff.mp H
                  obtain ⟨t342, A260, H⟩ := H
                  replace H : (if t342 = true then ((filter_Make.f kj17 x5_17).bind fun t343 => (some ((strOfNums t343).toList == (strOfNums t335).toList))) else (if x5_17.length < 8796093022208 then ((filter_Make.f kj17 (x5_17 ++ [a1])).bind fun t349 => (some ((strOfNums t349).toList == (strOfNums t335).toList))) else (none))) = some r := H
                  have A26 := Aside0.mk A260
                  clear A260
                  by_cases c27 : t342 = true
                  · subst c27
                    have H1 : ((filter_Make.f kj17 x5_17).bind fun t343 => (some ((strOfNums t343).toList == (strOfNums t335).toList))) = some r := by rw [if_pos rfl] at H; exact H
                    clear H
                    have H := H1
                    clear H1
                    replace H := Option.bind_eq_some_iff.mp H
                    obtain ⟨t343, A280, H⟩ := H
                    replace H : (some ((strOfNums t343).toList == (strOfNums t335).toList)) = some r := H
                    have A28 := Aside0.mk A280
                    clear A280
                    obtain rfl := Option.some.inj H
                    go_wp2_with (first | ((with_reducible refine gate_callee (f := 21) rfl ?_); refine goesL_ (some 43) rfl rfl Try.func21 (by kernel_rfl) rfl #[.string a1] rfl (by (try simp only [List.map_toArray, List.map_cons, List.map_nil]); first | done | rfl | (simp only [List.length_drop, List.length_take]; rfl)) ?_; (with_reducible refine (forebearref03_Is.calls kj17 a1 true _ A26.out).mono ?_); rintro e w29 ⟨rfl, hb⟩; refine ⟨_, rfl, ?_⟩; have n0_ := Aside0.mk (Kd.R_below (by (with_reducible repeat (first | apply Kd.R_alloc | apply Kd.R_drewN | apply Kd.R_drew)); exact HO_5.out) hb); have n1_ := Aside0.mk (below_step (by repeat (first | (with_reducible first | exact HB.out | apply below_alloc | apply pw_below_drewN | apply below_drew1) | exact HB.out)) hb); clear HO_5; clear HB; have HO_5 := n0_; have HB := n1_; clear n0_ n1_; (try clear hb); (try clear hb2); (try clear hk); (try clear hi); obtain ⟨Ao30, co30, eo30⟩ := Kd.R_slice HO_5.out; subst eo30) | ((with_reducible refine gate_callee (f := 10) rfl ?_); refine goesL_ (some 50) rfl rfl Try.func10 (by kernel_rfl) rfl #[.slice Ao30 x5_17.length co30] rfl (by (try simp only [List.map_toArray, List.map_cons, List.map_nil]); first | done | rfl | (simp only [List.length_drop, List.length_take]; rfl)) ?_; (with_reducible refine (filter_Make.calls kj17 _ _ x5_17 t343 _ ?side1 ?side2 A28.out).mono ?_); (case side1 => repeat (first | exact (Kd.R_reads' HO_5.out).2.2 | (with_reducible refine Kd.C_alloc ?_ _) | (with_reducible refine Kd.C_drewN ?_ _) | (with_reducible refine Kd.C_drew ?_))); (case side2 => exact (Kd.R_reads' HO_5.out).2.1); rintro e w31 ⟨v344, rfl, ho0, hb⟩; refine ⟨_, rfl, ?_⟩; have n0_ := Aside0.mk (Kd.R_below (by (with_reducible repeat (first | apply Kd.R_alloc | apply Kd.R_drewN | apply Kd.R_drew)); exact HO_5.out) hb); have n1_ := Aside0.mk (Kd.R_lower ho0 (below_size (by repeat (first | (with_reducible first | exact HB.out | apply below_alloc | apply pw_below_drewN | apply below_drew1) | exact HB.out)))); have n2_ := Aside0.mk (below_step (by repeat (first | (with_reducible first | exact HB.out | apply below_alloc | apply pw_below_drewN | apply below_drew1) | exact HB.out)) hb); clear HO_5; clear HB; have HO_5 := n0_; have HO345 := n1_; have HB := n2_; clear n0_ n1_ n2_; (try clear hb); (try clear hb2); (try clear hk); (try clear hi); (try clear ho0); have hcw32 := fun n_ : Nat => own_string (P := Try.prog) Try.underlying25 Try.underlying5 Try.underlying9 (Kd.own_of_R (Kd.R_drewN HO345.out n_)); have hcv33 := own_string (P := Try.prog) Try.underlying25 Try.underlying5 Try.underlying9 (Kd.own_of_R HO345.out)))
                    go_ret
                    exact ⟨by first | rfl | (simp [errW_none, errW_some] <;> rfl) | (simp [*, errW_none, errW_some] <;> rfl), by repeat (first | (with_reducible first | exact HB.out | apply below_alloc | apply pw_below_drewN | apply below_drew1) | exact HB.out)⟩
                  · replace c27 := Bool.eq_false_iff.mpr c27
                    subst c27
                    have H1 : (if x5_17.length < 8796093022208 then ((filter_Make.f kj17 (x5_17 ++ [a1])).bind fun t349 => (some ((strOfNums t349).toList == (strOfNums t335).toList))) else (none)) = some r := by rw [if_neg (show ¬ (false = true) by decide)] at H; exact H
                    clear H
                    have H := H1
                    clear H1
                    by_cases c34 : x5_17.length < 8796093022208
                    · rw [if_pos c34] at H
                      have LMc34 := Aside0.mk c34
                      clear c34
                      obtain ⟨y346, hy346⟩ : ∃ y_ : List ByteArray, y_ = (x5_17 ++ [a1]) := ⟨_, rfl⟩
                      replace H : ((filter_Make.f kj17 y346).bind fun t349 => (some ((strOfNums t349).toList == (strOfNums t335).toList))) = some r := by first | (rw [hy346]; with_reducible exact H) | (have H2_ := (Option.bind_some _ _).symm.trans H; rw [hy346]; with_reducible exact H2_) | (have H2_ := (Option.bind_some _ _).symm.trans H; with_reducible exact H2_) | with_reducible exact H | (rw [hy346]; exact H) | exact H
                      have Ny346 := Aside0.mk hy346
                      clear hy346
                      replace H := Option.bind_eq_some_iff.mp H
                      obtain ⟨t349, A350, H⟩ := H
                      replace H : (some ((strOfNums t349).toList == (strOfNums t335).toList)) = some r := H
                      have A35 := Aside0.mk A350
                      clear A350
                      obtain rfl := Option.some.inj H
                      go_wp2_with (first | ((with_reducible refine gate_callee (f := 21) rfl ?_); refine goesL_ (some 43) rfl rfl Try.func21 (by kernel_rfl) rfl #[.string a1] rfl (by (try simp only [List.map_toArray, List.map_cons, List.map_nil]); first | done | rfl | (simp only [List.length_drop, List.length_take]; rfl)) ?_; (with_reducible refine (forebearref03_Is.calls kj17 a1 false _ A26.out).mono ?_); rintro e w36 ⟨rfl, hb⟩; refine ⟨_, rfl, ?_⟩; have n0_ := Aside0.mk (Kd.R_below (by (with_reducible repeat (first | apply Kd.R_alloc | apply Kd.R_drewN | apply Kd.R_drew)); exact HO_5.out) hb); have n1_ := Aside0.mk (below_step (by repeat (first | (with_reducible first | exact HB.out | apply below_alloc | apply pw_below_drewN | apply below_drew1) | exact HB.out)) hb); clear HO_5; clear HB; have HO_5 := n0_; have HB := n1_; clear n0_ n1_; (try clear hb); (try clear hb2); (try clear hk); (try clear hi)) | ((with_reducible refine gate_builtin (b := .append) (xs := #[.tmp 45, .tmp 47]) rfl ?_); at_builtin; refine Kd.R_append Kd.string (w0 := w) w.heap.size rfl (.tmp 45) (.tmp 47) 22 9 (.string ⟨#[]⟩) 16 rfl Try.underlying22 info9 rfl (by decide) (by omega) u5 x5_17 a1 [.string a1] (fun _ => True) (fun _ => False) rfl rfl ?aP (fun _ hk => hk.elim) ?aF ?aO ?aB ?aS ?aL ?_; (case aP => exact rfl); (case aB => exact (by repeat (first | (with_reducible first | exact HB.out | apply below_alloc | apply pw_below_drewN | apply below_drew1) | exact HB.out))); (case aF => exact (fun _ _ => trivial)); (case aO => exact (by (with_reducible repeat (first | apply Kd.R_alloc | apply Kd.R_drewN | apply Kd.R_drew)); exact HO_5.out)); (case aS => exact (below_size (by repeat (first | (with_reducible first | exact HB.out | apply below_alloc | apply pw_below_drewN | apply below_drew1) | exact HB.out)))); (case aL => have := LMc34.out; omega); intro v347 w37 ho hb hg hat; rw [← Ny346.out] at ho; have n0_ := Aside0.mk (hb); have n1_ := Aside0.mk (ho); clear HB; clear HO_5; have HB := n0_; have HO348 := n1_; clear n0_ n1_; clear ho hb hg hat; obtain ⟨Ao38, co38, eo38⟩ := Kd.R_slice HO348.out; subst eo38) | ((with_reducible refine gate_callee (f := 10) rfl ?_); refine goesL_ (some 50) rfl rfl Try.func10 (by kernel_rfl) rfl #[.slice Ao38 y346.length co38] rfl (by (try simp only [List.map_toArray, List.map_cons, List.map_nil]); first | done | rfl | (simp only [List.length_drop, List.length_take]; rfl)) ?_; (with_reducible refine (filter_Make.calls kj17 _ _ y346 t349 _ ?side1 ?side2 A35.out).mono ?_); (case side1 => repeat (first | exact (Kd.R_reads' HO348.out).2.2 | (with_reducible refine Kd.C_alloc ?_ _) | (with_reducible refine Kd.C_drewN ?_ _) | (with_reducible refine Kd.C_drew ?_))); (case side2 => exact (Kd.R_reads' HO348.out).2.1); rintro e w39 ⟨v350, rfl, ho0, hb⟩; refine ⟨_, rfl, ?_⟩; have n0_ := Aside0.mk (Kd.R_below (by (with_reducible repeat (first | apply Kd.R_alloc | apply Kd.R_drewN | apply Kd.R_drew)); exact HO348.out) hb); have n1_ := Aside0.mk (Kd.R_lower ho0 (below_size (by repeat (first | (with_reducible first | exact HB.out | apply below_alloc | apply pw_below_drewN | apply below_drew1) | exact HB.out)))); have n2_ := Aside0.mk (below_step (by repeat (first | (with_reducible first | exact HB.out | apply below_alloc | apply pw_below_drewN | apply below_drew1) | exact HB.out)) hb); clear HO348; clear HB; have HO348 := n0_; have HO351 := n1_; have HB := n2_; clear n0_ n1_ n2_; (try clear hb); (try clear hb2); (try clear hk); (try clear hi); (try clear ho0); have hcw40 := fun n_ : Nat => own_string (P := Try.prog) Try.underlying25 Try.underlying5 Try.underlying9 (Kd.own_of_R (Kd.R_drewN HO351.out n_)); have hcv41 := own_string (P := Try.prog) Try.underlying25 Try.underlying5 Try.underlying9 (Kd.own_of_R HO351.out)))
                      go_ret
                      exact ⟨by first | rfl | (simp [errW_none, errW_some] <;> rfl) | (simp [*, errW_none, errW_some] <;> rfl), by repeat (first | (with_reducible first | exact HB.out | apply below_alloc | apply pw_below_drewN | apply below_drew1) | exact HB.out)⟩
                    · rw [if_neg c34] at H
                      exact absurd H (by simp)

/-- THE ONE PURE STATEMENT of forebearlaw11_FilterOrder. -/
def forebearlaw11_FilterOrder.Pure : Prop := ∀ (l0 : List ByteArray) (a1 : ByteArray), (l0.length * 16 ≤ 140737488351232 ∧ l0.length ≤ 9223372036854775807 ∧ ∀ y_l0 ∈ l0, y_l0.size ≤ 140737488351232) → a1.size ≤ 140737488351232 → ∃ k, forebearlaw11_FilterOrder.f k l0 a1 = some true
theorem forebearlaw11_FilterOrder.walk (P : forebearlaw11_FilterOrder.Pure) (l0 : List ByteArray) (a1 : ByteArray) (A0 : Option Addr) (c0 : Nat) (w : World) (g0 : (l0.length * 16 ≤ 140737488351232 ∧ l0.length ≤ 9223372036854775807 ∧ ∀ y_l0 ∈ l0, y_l0.size ≤ 140737488351232)) (g1 : a1.size ≤ 140737488351232) (hc0 : l0.length ≤ c0) (hr0 : Kd.C Kd.string w A0 l0.length l0) :
    Calls Try.prog 7 #[.slice A0 l0.length c0, .string a1] w fun e w' => e = .returned (.bool true) ∧ Below w.heap.size w w' := by
  obtain ⟨k, h⟩ := P l0 a1 g0 g1
  refine (forebearlaw11_FilterOrder.calls k _ _ l0 a1 true w hr0 hc0 h).mono ?_
  rintro e w' ⟨rfl, hd⟩
  exact ⟨rfl, hd⟩

end Go.Proofs.Ytgfiapeinpcipaa.MF

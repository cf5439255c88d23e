/- Laid by this claim's own program (myprint) out of the translation: functions that the laws of the group T reach, each as a plain function, with the proof that the Go code comes to it. No condition. -/
import Derived.Test.YtlbkobiphfaafaaMTx0
import Derived.Test.YtlbkobiphfaafaaMTx2
import Derived.Test.YtlbkobiphfaafaaMTx3
namespace Go.Proofs.Ytlbkobiphfaafaa.MT
open Go.Proofs.Ytlbkobiphfaafaa.Opening
open Go.RowKit Go.Proofs.YtlbkobiphfaafaaW.PrintWords Go.Proofs.YtlbkobiphfaafaaW.PrintLast Go.Proofs.YtlbkobiphfaafaaW.PrintMore
attribute [local go_sem] max2_int min2_int max_two min_two max_three min_three max_four min_four   -- for this text's walks alone
set_option linter.unusedVariables false
set_option linter.unusedSimpArgs false

/-! ### forebearlaw04_TextBack: function 7 -/
mutual
def forebearlaw04_TextBack.j0 : Nat → List ByteArray → Bool → Option (Bool)
  | 0, _, _ => none
  | k + 1, x3, x22 => if x22 = true then (some false) else (forebearlaw04_TextBack.l0 k x3 0)
def forebearlaw04_TextBack.l0 : Nat → List ByteArray → Int → Option (Bool)
  | 0, _, _ => none
  | k + 1, x3, x4 => if x4 < (x3.length : Int) then (if 0 ≤ x4 then (if (rdOf ByteArray.empty x3 x4).toList = ([] : List UInt8) then (some false) else (forebearlaw04_TextBack.l1 k x3 x4 0)) else (none)) else (some true)
def forebearlaw04_TextBack.l1 : Nat → List ByteArray → Int → Int → Option (Bool)
  | 0, _, _, _ => none
  | k + 1, x3, x4, x5 => if 0 ≤ x4 then (if x4 < (x3.length : Int) then (if x5 < ((rdOf ByteArray.empty x3 x4).size : Int) then (if 0 ≤ x5 then (if (bt (rdOf ByteArray.empty x3 x4) x5) = 10 then (if (x5 = (wrap64 (((rdOf ByteArray.empty x3 x4).size : Int) - 1))) then (if x5 = (wrap64 (((rdOf ByteArray.empty x3 x4).size : Int) - 1)) then (if x4 < (wrap64 ((x3.length : Int) - 1)) then (forebearlaw04_TextBack.l1 k x3 x4 (wrap64 (x5 + 1))) else (forebearlaw04_TextBack.l1 k x3 x4 (wrap64 (x5 + 1)))) else (forebearlaw04_TextBack.l1 k x3 x4 (wrap64 (x5 + 1)))) else (some false)) else (if x5 = (wrap64 (((rdOf ByteArray.empty x3 x4).size : Int) - 1)) then (if x4 < (wrap64 ((x3.length : Int) - 1)) then (some false) else (forebearlaw04_TextBack.l1 k x3 x4 (wrap64 (x5 + 1)))) else (forebearlaw04_TextBack.l1 k x3 x4 (wrap64 (x5 + 1))))) else (none)) else (forebearlaw04_TextBack.l0 k x3 (wrap64 (x4 + 1)))) else (none)) else (none)
end
def forebearlaw04_TextBack.f (k : Nat) (a0 : ByteArray) : Option (Bool) := (forebearlaw04_awake.f k).bind fun t168 => (if t168 = true then ((text_Lines.f k a0).bind fun t169 => ((text_Join.f t169).bind fun t172 => (if t172.toList = a0.toList then (forebearlaw04_TextBack.j0 k t169 (((t169.length : Int) == 0) != (a0.toList == ([] : List UInt8)))) else (forebearlaw04_TextBack.j0 k t169 true)))) else (some false))
theorem forebearlaw04_TextBack.mono_l : ∀ k, (∀ y0 y1, LeO (forebearlaw04_TextBack.j0 k y0 y1) (forebearlaw04_TextBack.j0 (k + 1) y0 y1)) ∧ (∀ y0 y1, LeO (forebearlaw04_TextBack.l0 k y0 y1) (forebearlaw04_TextBack.l0 (k + 1) y0 y1)) ∧ (∀ y0 y1 y2, LeO (forebearlaw04_TextBack.l1 k y0 y1 y2) (forebearlaw04_TextBack.l1 (k + 1) y0 y1 y2))
  | 0 => ⟨fun _ _ r h => by simp [forebearlaw04_TextBack.j0] at h, fun _ _ r h => by simp [forebearlaw04_TextBack.l0] at h, fun _ _ _ r h => by simp [forebearlaw04_TextBack.l1] at h⟩
  | k + 1 => by
    obtain ⟨ih0, ih1, ih2⟩ := forebearlaw04_TextBack.mono_l k
    refine ⟨?_, ?_, ?_⟩
    · intro y0 y1
      unfold forebearlaw04_TextBack.j0
      repeat' first
      | (with_reducible exact ih0 _ _)
      | (with_reducible exact ih1 _ _)
      | (with_reducible exact ih2 _ _ _)
      | (with_reducible exact forebearlaw04_awake.mono _)
      | (with_reducible exact text_Lines.mono _ _)
      | (with_reducible exact LeO.refl _)
      | (with_reducible exact LeO.none _)
      | (with_reducible refine LeO.ite ?_ ?_)
      | (with_reducible refine LeO.bind ?_ (fun _ => ?_))
      | exact ih0 _ _
      | exact ih1 _ _
      | exact ih2 _ _ _
      | exact forebearlaw04_awake.mono _
      | exact text_Lines.mono _ _
      | exact LeO.none _
      | refine LeO.ite ?_ ?_
      | refine LeO.bind ?_ (fun _ => ?_)
    · intro y0 y1
      unfold forebearlaw04_TextBack.l0
      repeat' first
      | (with_reducible exact ih0 _ _)
      | (with_reducible exact ih1 _ _)
      | (with_reducible exact ih2 _ _ _)
      | (with_reducible exact forebearlaw04_awake.mono _)
      | (with_reducible exact text_Lines.mono _ _)
      | (with_reducible exact LeO.refl _)
      | (with_reducible exact LeO.none _)
      | (with_reducible refine LeO.ite ?_ ?_)
      | (with_reducible refine LeO.bind ?_ (fun _ => ?_))
      | exact ih0 _ _
      | exact ih1 _ _
      | exact ih2 _ _ _
      | exact forebearlaw04_awake.mono _
      | exact text_Lines.mono _ _
      | exact LeO.none _
      | refine LeO.ite ?_ ?_
      | refine LeO.bind ?_ (fun _ => ?_)
    · intro y0 y1 y2
      unfold forebearlaw04_TextBack.l1
      repeat' first
      | (with_reducible exact ih0 _ _)
      | (with_reducible exact ih1 _ _)
      | (with_reducible exact ih2 _ _ _)
      | (with_reducible exact forebearlaw04_awake.mono _)
      | (with_reducible exact text_Lines.mono _ _)
      | (with_reducible exact LeO.refl _)
      | (with_reducible exact LeO.none _)
      | (with_reducible refine LeO.ite ?_ ?_)
      | (with_reducible refine LeO.bind ?_ (fun _ => ?_))
      | exact ih0 _ _
      | exact ih1 _ _
      | exact ih2 _ _ _
      | exact forebearlaw04_awake.mono _
      | exact text_Lines.mono _ _
      | exact LeO.none _
      | refine LeO.ite ?_ ?_
      | refine LeO.bind ?_ (fun _ => ?_)
theorem forebearlaw04_TextBack.mono : ∀ a0 k, LeO (forebearlaw04_TextBack.f k a0) (forebearlaw04_TextBack.f (k + 1) a0) := by
  intro a0 k
  obtain ⟨ih0, ih1, ih2⟩ := forebearlaw04_TextBack.mono_l k
  unfold forebearlaw04_TextBack.f
  repeat' first
      | (with_reducible exact ih0 _ _)
      | (with_reducible exact ih1 _ _)
      | (with_reducible exact ih2 _ _ _)
      | (with_reducible exact forebearlaw04_awake.mono _)
      | (with_reducible exact text_Lines.mono _ _)
      | (with_reducible exact LeO.refl _)
      | (with_reducible exact LeO.none _)
      | (with_reducible refine LeO.ite ?_ ?_)
      | (with_reducible refine LeO.bind ?_ (fun _ => ?_))
      | exact ih0 _ _
      | exact ih1 _ _
      | exact ih2 _ _ _
      | exact forebearlaw04_awake.mono _
      | exact text_Lines.mono _ _
      | exact LeO.none _
      | refine LeO.ite ?_ ?_
      | refine LeO.bind ?_ (fun _ => ?_)
set_option maxHeartbeats 8000000 in
set_option maxRecDepth 100000 in
theorem forebearlaw04_TextBack.calls (k : Nat) (a0 : ByteArray) (r : Bool) (w : World) (h : forebearlaw04_TextBack.f k a0 = some r) :
    Calls Try.prog 7 #[.string a0] w fun e w' => e = .returned (.bool r) ∧ Below w.heap.size w w' := by
  have HB := Aside0.mk (Below.refl w.heap.size w)
  have H : ((forebearlaw04_awake.f k).bind fun t168 => (if t168 = true then ((text_Lines.f k a0).bind fun t169 => ((text_Join.f t169).bind fun t172 => (if t172.toList = a0.toList then (forebearlaw04_TextBack.j0 k t169 (((t169.length : Int) == 0) != (a0.toList == ([] : List UInt8)))) else (forebearlaw04_TextBack.j0 k t169 true)))) else (some false))) = some r := h
  clear h
  replace H := Option.bind_eq_some_iff.mp H
  obtain ⟨t168, A20, H⟩ := H
  replace H : (if t168 = true then ((text_Lines.f k a0).bind fun t169 => ((text_Join.f t169).bind fun t172 => (if t172.toList = a0.toList then (forebearlaw04_TextBack.j0 k t169 (((t169.length : Int) == 0) != (a0.toList == ([] : List UInt8)))) else (forebearlaw04_TextBack.j0 k t169 true)))) else (some false)) = some r := H
  have A2 := Aside0.mk A20
  clear A20
  by_cases c3 : t168 = true
  · subst c3
    have H1 : ((text_Lines.f k a0).bind fun t169 => ((text_Join.f t169).bind fun t172 => (if t172.toList = a0.toList then (forebearlaw04_TextBack.j0 k t169 (((t169.length : Int) == 0) != (a0.toList == ([] : List UInt8)))) else (forebearlaw04_TextBack.j0 k t169 true)))) = some r := by rw [if_pos rfl] at H; exact H
    clear H
    have H := H1
    clear H1
    replace H := Option.bind_eq_some_iff.mp H
    obtain ⟨t169, A40, H⟩ := H
    replace H : ((text_Join.f t169).bind fun t172 => (if t172.toList = a0.toList then (forebearlaw04_TextBack.j0 k t169 (((t169.length : Int) == 0) != (a0.toList == ([] : List UInt8)))) else (forebearlaw04_TextBack.j0 k t169 true))) = some r := H
    have A4 := Aside0.mk A40
    clear A40
    have HC5 := Aside0.mk H
    clear H
    go_enter Try.func7, Try.ntmps7
    go_upto_region 4 with (first | ((with_reducible refine gate_callee (f := 23) rfl ?_); refine goesL_ (some 7) rfl rfl Try.func23 (by kernel_rfl) rfl #[] rfl (by (try simp only [List.map_toArray, List.map_cons, List.map_nil]); first | done | rfl | (simp only [List.length_drop, List.length_take]; rfl)) ?_; (with_reducible refine (forebearlaw04_awake.calls k  true _ A2.out).mono ?_); rintro e w6 ⟨rfl, hb⟩; refine ⟨_, rfl, ?_⟩; have n0_ := Aside0.mk (below_step (by repeat (first | (with_reducible first | exact HB.out | apply below_alloc | apply pw_below_drewN | apply below_drew1) | exact HB.out)) hb); clear HB; have HB := n0_; clear n0_; (try clear hb); (try clear hb2); (try clear hk); (try clear hi)) | ((with_reducible refine gate_callee (f := 24) rfl ?_); refine goesL_ (some 10) rfl rfl Try.func24 (by kernel_rfl) rfl #[.string a0] rfl (by (try simp only [List.map_toArray, List.map_cons, List.map_nil]); first | done | rfl | (simp only [List.length_drop, List.length_take]; rfl)) ?_; (with_reducible refine (text_Lines.calls k a0 t169 _ A4.out).mono ?_); rintro e w7 ⟨v170, rfl, ho0, hb⟩; refine ⟨_, rfl, ?_⟩; have n0_ := Aside0.mk (Kd.R_lower ho0 (below_size (by repeat (first | (with_reducible first | exact HB.out | apply below_alloc | apply pw_below_drewN | apply below_drew1) | exact HB.out)))); have n1_ := Aside0.mk (below_step (by repeat (first | (with_reducible first | exact HB.out | apply below_alloc | apply pw_below_drewN | apply below_drew1) | exact HB.out)) hb); clear HB; have HO171 := n0_; have HB := n1_; clear n0_ n1_; (try clear hb); (try clear hb2); (try clear hk); (try clear hi); (try clear ho0)))
    (try simp only [Act.put, List.setIfInBounds_toArray, List.set_cons_zero, List.set_cons_succ])
    go_cut [22] (fun v22 wc => ∃ (kq : Nat) (x22_4 : Bool), v22 = .bool x22_4 ∧ Aside0 (forebearlaw04_TextBack.j0 kq t169 x22_4 = some r) ∧ Aside0 (kq ≤ k) ∧ Aside0 (Kd.R Kd.string 9 wc w.heap.size (fun _ => True) v170 t169) ∧ Aside0 (Below w.heap.size w wc))
    case first =>
      have H := HC5.out
      clear HC5
      replace H := Option.bind_eq_some_iff.mp H
      obtain ⟨t172, A80, H⟩ := H
      replace H : (if t172.toList = a0.toList then (forebearlaw04_TextBack.j0 k t169 (((t169.length : Int) == 0) != (a0.toList == ([] : List UInt8)))) else (forebearlaw04_TextBack.j0 k t169 true)) = some r := H
      have A8 := Aside0.mk A80
      clear A80
      by_cases c9 : t172.toList = a0.toList
      · rw [if_pos c9] at H
        have c9b0 : (t172.toList == a0.toList) = true := beq_iff_eq.mpr c9
        have c9b1 : (t172.toList != a0.toList) = false := bne_eq_false_iff_eq.mpr c9
        clear c9
        (first | rw [c9b0] | (simp only [i64_w, i32_w]; rw [c9b0]) | skip)
        have H' := Aside0.mk H
        clear H
        obtain ⟨Ao10, co10, eo10⟩ := Kd.R_slice HO171.out
        subst eo10
        go_wp2_with (first | ((with_reducible refine gate_callee (f := 26) rfl ?_); refine goesL_ (some 12) rfl rfl Try.func26 (by kernel_rfl) rfl #[.slice Ao10 t169.length co10] rfl (by (try simp only [List.map_toArray, List.map_cons, List.map_nil]); first | done | rfl | (simp only [List.length_drop, List.length_take]; rfl)) ?_; (with_reducible refine (text_Join.calls _ _ t169 t172 _ ?side1 ?side2 A8.out).mono ?_); (case side1 => repeat (first | exact (Kd.R_reads' HO171.out).2.2 | (with_reducible refine Kd.C_alloc ?_ _) | (with_reducible refine Kd.C_drewN ?_ _) | (with_reducible refine Kd.C_drew ?_))); (case side2 => exact (Kd.R_reads' HO171.out).2.1); rintro e w11 ⟨rfl, hb⟩; refine ⟨_, rfl, ?_⟩; have n0_ := Aside0.mk (Kd.R_below (by (with_reducible repeat (first | apply Kd.R_alloc | apply Kd.R_drewN | apply Kd.R_drew)); exact HO171.out) hb); have n1_ := Aside0.mk (below_step (by repeat (first | (with_reducible first | exact HB.out | apply below_alloc | apply pw_below_drewN | apply below_drew1) | exact HB.out)) hb); clear HO171; clear HB; have HO171 := n0_; have HB := n1_; clear n0_ n1_; (try clear hb); (try clear hb2); (try clear hk); (try clear hi)))
        go_meet
        case rel => exact ⟨_, ((((t169.length : Int) == 0) != (a0.toList == ([] : List UInt8)))), (by first | rfl | (simp; done) | (simp [*]; done) | (simp; generalize ((t169.length : Int) == 0) = b1_; generalize a0.toList.isEmpty = b2_; cases b1_ <;> cases b2_ <;> rfl)), H', ⟨by first | omega | exact Nat.le_refl _⟩, ⟨by (with_reducible repeat (first | apply Kd.R_alloc | apply Kd.R_drewN | apply Kd.R_drew)); exact HO171.out⟩, ⟨by repeat (first | (with_reducible first | exact HB.out | apply below_alloc | apply pw_below_drewN | apply below_drew1) | exact HB.out)⟩⟩
      · rw [if_neg c9] at H
        have c9b0 : (t172.toList == a0.toList) = false := beq_eq_false_iff_ne.mpr c9
        have c9b1 : (t172.toList != a0.toList) = true := bne_iff_ne.mpr c9
        (first | rw [c9b0] | (simp only [i64_w, i32_w]; rw [c9b0]) | skip)
        have H' := Aside0.mk H
        clear H
        obtain ⟨Ao12, co12, eo12⟩ := Kd.R_slice HO171.out
        subst eo12
        go_wp2_with (first | ((with_reducible refine gate_callee (f := 26) rfl ?_); refine goesL_ (some 12) rfl rfl Try.func26 (by kernel_rfl) rfl #[.slice Ao12 t169.length co12] rfl (by (try simp only [List.map_toArray, List.map_cons, List.map_nil]); first | done | rfl | (simp only [List.length_drop, List.length_take]; rfl)) ?_; (with_reducible refine (text_Join.calls _ _ t169 t172 _ ?side1 ?side2 A8.out).mono ?_); (case side1 => repeat (first | exact (Kd.R_reads' HO171.out).2.2 | (with_reducible refine Kd.C_alloc ?_ _) | (with_reducible refine Kd.C_drewN ?_ _) | (with_reducible refine Kd.C_drew ?_))); (case side2 => exact (Kd.R_reads' HO171.out).2.1); rintro e w13 ⟨rfl, hb⟩; refine ⟨_, rfl, ?_⟩; have n0_ := Aside0.mk (Kd.R_below (by (with_reducible repeat (first | apply Kd.R_alloc | apply Kd.R_drewN | apply Kd.R_drew)); exact HO171.out) hb); have n1_ := Aside0.mk (below_step (by repeat (first | (with_reducible first | exact HB.out | apply below_alloc | apply pw_below_drewN | apply below_drew1) | exact HB.out)) hb); clear HO171; clear HB; have HO171 := n0_; have HB := n1_; clear n0_ n1_; (try clear hb); (try clear hb2); (try clear hk); (try clear hi)))
        go_meet
        case rel => exact ⟨_, (true), (by first | rfl | (simp; done) | (simp [*]; done)), H', ⟨by first | omega | exact Nat.le_refl _⟩, ⟨by (with_reducible repeat (first | apply Kd.R_alloc | apply Kd.R_drewN | apply Kd.R_drew)); exact HO171.out⟩, ⟨by repeat (first | (with_reducible first | exact HB.out | apply below_alloc | apply pw_below_drewN | apply below_drew1) | exact HB.out)⟩⟩
    case rest =>
      clear HC5
      try clear c2
      try clear p2
      try clear c3
      try clear c7
      try clear c9
      try clear c9b0
      try clear c9b1
      obtain ⟨kq, x22_4, rfl, HA, HJ4, HO_3, HB⟩ := hcut
      cases kq with
      | zero => exact absurd HA.out (by simp [forebearlaw04_TextBack.j0])
      | succ kj4 =>
        have H := HA.out
        clear HA
        simp only [forebearlaw04_TextBack.j0] at H
        by_cases c14 : x22_4 = true
        · subst c14
          have H1 : (some false) = some r := by rw [if_pos rfl] at H; exact H
          clear H
          have H := H1
          clear H1
          obtain rfl := Option.some.inj H
          go_wp2
          go_ret
          exact ⟨by first | rfl | (simp [errW_none, errW_some] <;> rfl) | (simp [*, errW_none, errW_some] <;> rfl), by repeat (first | (with_reducible first | exact HB.out | apply below_alloc | apply pw_below_drewN | apply below_drew1) | exact HB.out)⟩
        · replace c14 := Bool.eq_false_iff.mpr c14
          subst c14
          have H1 : (forebearlaw04_TextBack.l0 kj4 t169 0) = some r := by rw [if_neg (show ¬ (false = true) by decide)] at H; exact H
          clear H
          have H := H1
          clear H1
          have H' := Aside0.mk H
          clear H
          go_wp2
          go_loopg [4] kj4 (fun kq v4 w' => ∃ (x4_2 : Int), v4 = .int .i64 x4_2 ∧ Aside0 (forebearlaw04_TextBack.l0 kq t169 x4_2 = some r) ∧ Aside0 (kq ≤ kj4) ∧ Aside0 (Kd.R Kd.string 9 w' w.heap.size (fun _ => True) v170 t169) ∧ Aside0 (Below w.heap.size w w'))
          case atStart => exact ⟨(0), (by first | rfl | (simp; done) | (simp [*]; done)), H', ⟨Nat.le_refl _⟩, ⟨by (with_reducible repeat (first | apply Kd.R_alloc | apply Kd.R_drewN | apply Kd.R_drew)); exact HO_3.out⟩, ⟨by repeat (first | (with_reducible first | exact HB.out | apply below_alloc | apply pw_below_drewN | apply below_drew1) | exact HB.out)⟩⟩
          case round =>
            clear H'
            try clear c1
            try clear c2
            try clear p2
            try clear c3
            try clear c7
            try clear c9
            try clear c9b0
            try clear c9b1
            try clear c14
            try clear p2
            obtain ⟨x4_2, rfl, HA, HK2, HO_3, HB⟩ := hrel
            cases gk with
            | zero => exact absurd HA.out (by simp [forebearlaw04_TextBack.l0])
            | succ k2 =>
              have H := HA.out
              clear HA
              simp only [forebearlaw04_TextBack.l0] at H
              by_cases c15 : x4_2 < (t169.length : Int)
              · rw [if_pos c15] at H
                have c15b0 : decide (x4_2 < (t169.length : Int)) = true := decide_eq_true c15
                clear c15
                by_cases c16 : 0 ≤ x4_2
                · rw [if_pos c16] at H
                  have c16b0 : decide (0 ≤ x4_2) = true := decide_eq_true c16
                  clear c16
                  by_cases c17 : (rdOf ByteArray.empty t169 x4_2).toList = ([] : List UInt8)
                  · rw [if_pos c17] at H
                    have c17b0 : ((rdOf ByteArray.empty t169 x4_2).toList == ([] : List UInt8)) = true := beq_iff_eq.mpr c17
                    have c17b1 : ((rdOf ByteArray.empty t169 x4_2).toList != ([] : List UInt8)) = false := bne_eq_false_iff_eq.mpr c17
                    clear c17
                    obtain rfl := Option.some.inj H
                    obtain ⟨Ao18, co18, eo18⟩ := Kd.R_slice HO_3.out
                    subst eo18
                    have p173 : 0 ≤ (x4_2 : Int) := of_decide_eq_true (by first | (with_reducible assumption) | assumption)
                    have q173 : x4_2 < (t169.length : Int) := of_decide_eq_true (by first | (with_reducible assumption) | assumption)
                    obtain ⟨ad173, e173, hx173_0⟩ := Kd.at_string (Kd.R_reads' HO_3.out).2.2 x4_2 p173 q173
                    cases e173
                    replace p173 := eq_true p173
                    replace q173 := eq_true q173
                    go_wp2
                    go_ret
                    exact ⟨by first | rfl | (simp [errW_none, errW_some] <;> rfl) | (simp [*, errW_none, errW_some] <;> rfl), by repeat (first | (with_reducible first | exact HB.out | apply below_alloc | apply pw_below_drewN | apply below_drew1) | exact HB.out)⟩
                  · rw [if_neg c17] at H
                    have c17b0 : ((rdOf ByteArray.empty t169 x4_2).toList == ([] : List UInt8)) = false := beq_eq_false_iff_ne.mpr c17
                    have c17b1 : ((rdOf ByteArray.empty t169 x4_2).toList != ([] : List UInt8)) = true := bne_iff_ne.mpr c17
                    have H' := Aside0.mk H
                    clear H
                    obtain ⟨Ao19, co19, eo19⟩ := Kd.R_slice HO_3.out
                    subst eo19
                    have p173 : 0 ≤ (x4_2 : Int) := of_decide_eq_true (by first | (with_reducible assumption) | assumption)
                    have q173 : x4_2 < (t169.length : Int) := of_decide_eq_true (by first | (with_reducible assumption) | assumption)
                    obtain ⟨ad173, e173, hx173_0⟩ := Kd.at_string (Kd.R_reads' HO_3.out).2.2 x4_2 p173 q173
                    cases e173
                    replace p173 := eq_true p173
                    replace q173 := eq_true q173
                    go_wp2
                    go_loopg [5] k2 (fun kq v5 w' => ∃ (x5_3 : Int), v5 = .int .i64 x5_3 ∧ Aside0 (forebearlaw04_TextBack.l1 kq t169 x4_2 x5_3 = some r) ∧ Aside0 (kq ≤ k2) ∧ Aside0 (Kd.R Kd.string 9 w' w.heap.size (fun _ => True) (.slice (some ad173) t169.length co19) t169) ∧ Aside0 (Below w.heap.size w w'))
                    case atStart => exact ⟨(0), (by first | rfl | (simp; done) | (simp [*]; done)), H', ⟨Nat.le_refl _⟩, ⟨by (with_reducible repeat (first | apply Kd.R_alloc | apply Kd.R_drewN | apply Kd.R_drew)); exact HO_3.out⟩, ⟨by repeat (first | (with_reducible first | exact HB.out | apply below_alloc | apply pw_below_drewN | apply below_drew1) | exact HB.out)⟩⟩
                    case round =>
                      clear H'
                      try clear c1
                      try clear p1
                      try clear q1
                      try clear hx1
                      try clear c2
                      try clear p2
                      try clear c3
                      try clear c7
                      try clear c9
                      try clear c9b0
                      try clear c9b1
                      try clear c14
                      try clear c15
                      try clear c15b0
                      try clear c16
                      try clear c16b0
                      try clear c17
                      try clear c17b0
                      try clear c17b1
                      try clear p17
                      try clear q17
                      try clear hx17
                      try clear hx173_0
                      try clear p173
                      try clear p2
                      try clear q173
                      obtain ⟨x5_3, rfl, HA, HK3, HO_3, HB⟩ := hrel
                      cases gk with
                      | zero => exact absurd HA.out (by simp [forebearlaw04_TextBack.l1])
                      | succ k3 =>
                        have H := HA.out
                        clear HA
                        simp only [forebearlaw04_TextBack.l1] at H
                        by_cases c20 : 0 ≤ x4_2
                        · rw [if_pos c20] at H
                          have c20b0 : decide (0 ≤ x4_2) = true := decide_eq_true c20
                          clear c20
                          by_cases c21 : x4_2 < (t169.length : Int)
                          · rw [if_pos c21] at H
                            have c21b0 : decide (x4_2 < (t169.length : Int)) = true := decide_eq_true c21
                            clear c21
                            by_cases c22 : x5_3 < ((rdOf ByteArray.empty t169 x4_2).size : Int)
                            · rw [if_pos c22] at H
                              have c22b0 : decide (x5_3 < ((rdOf ByteArray.empty t169 x4_2).size : Int)) = true := decide_eq_true c22
                              clear c22
                              by_cases c23 : 0 ≤ x5_3
                              · rw [if_pos c23] at H
                                have c23b0 : decide (0 ≤ x5_3) = true := decide_eq_true c23
                                clear c23
                                by_cases c25 : (bt (rdOf ByteArray.empty t169 x4_2) x5_3) = 10
                                · rw [if_pos c25] at H
                                  have c25b0 : ((bt (rdOf ByteArray.empty t169 x4_2) x5_3) == 10) = true := beq_iff_eq.mpr c25
                                  have c25b1 : ((bt (rdOf ByteArray.empty t169 x4_2) x5_3) != 10) = false := bne_eq_false_iff_eq.mpr c25
                                  clear c25
                                  by_cases c26 : (x5_3 = (wrap64 (((rdOf ByteArray.empty t169 x4_2).size : Int) - 1)))
                                  · rw [if_pos c26] at H
                                    have c26b0 : (x5_3 == (wrap64 (((rdOf ByteArray.empty t169 x4_2).size : Int) - 1))) = true := beq_iff_eq.mpr c26
                                    have c26b1 : (x5_3 != (wrap64 (((rdOf ByteArray.empty t169 x4_2).size : Int) - 1))) = false := bne_eq_false_iff_eq.mpr c26
                                    clear c26
                                    by_cases c27 : x5_3 = (wrap64 (((rdOf ByteArray.empty t169 x4_2).size : Int) - 1))
                                    · rw [if_pos c27] at H
                                      have c27b0 : (x5_3 == (wrap64 (((rdOf ByteArray.empty t169 x4_2).size : Int) - 1))) = true := beq_iff_eq.mpr c27
                                      have c27b1 : (x5_3 != (wrap64 (((rdOf ByteArray.empty t169 x4_2).size : Int) - 1))) = false := bne_eq_false_iff_eq.mpr c27
                                      clear c27
                                      by_cases c28 : x4_2 < (wrap64 ((t169.length : Int) - 1))
                                      · rw [if_pos c28] at H
                                        have c28b0 : decide (x4_2 < (wrap64 ((t169.length : Int) - 1))) = true := decide_eq_true c28
                                        clear c28
                                        have H' := Aside0.mk H
                                        clear H
                                        have p174 : 0 ≤ (x4_2 : Int) := of_decide_eq_true (by first | (with_reducible assumption) | assumption)
                                        have q174 : x4_2 < (t169.length : Int) := of_decide_eq_true (by first | (with_reducible assumption) | assumption)
                                        obtain ⟨ad174, e174, hx174_0⟩ := Kd.at_string (Kd.R_reads' HO_3.out).2.2 x4_2 p174 q174
                                        obtain rfl : ad173 = ad174 := (by injection e174)
                                        replace p174 := eq_true p174
                                        replace q174 := eq_true q174
                                        have p175 : 0 ≤ (x4_2 : Int) := of_decide_eq_true (by first | (with_reducible assumption) | assumption)
                                        have q175 : x4_2 < (t169.length : Int) := of_decide_eq_true (by first | (with_reducible assumption) | assumption)
                                        obtain ⟨ad175, e175, hx175_0⟩ := Kd.at_string (Kd.R_reads' HO_3.out).2.2 x4_2 p175 q175
                                        obtain rfl : ad173 = ad175 := (by injection e175)
                                        replace p175 := eq_true p175
                                        replace q175 := eq_true q175
                                        have p176 : 0 ≤ (x4_2 : Int) := of_decide_eq_true (by first | (with_reducible assumption) | assumption)
                                        have q176 : x4_2 < (t169.length : Int) := of_decide_eq_true (by first | (with_reducible assumption) | assumption)
                                        obtain ⟨ad176, e176, hx176_0⟩ := Kd.at_string (Kd.R_reads' HO_3.out).2.2 x4_2 p176 q176
                                        obtain rfl : ad173 = ad176 := (by injection e176)
                                        replace p176 := eq_true p176
                                        replace q176 := eq_true q176
                                        have p24 : 0 ≤ (x5_3 : Int) := of_decide_eq_true (by first | (with_reducible assumption) | assumption)
                                        have q24 : x5_3 < ((rdOf ByteArray.empty t169 x4_2).size : Int) := of_decide_eq_true (by first | (with_reducible assumption) | assumption)
                                        have hx24 := bt_at (rdOf ByteArray.empty t169 x4_2) x5_3
                                        replace p24 := eq_true p24
                                        replace q24 := eq_true q24
                                        have p177 : 0 ≤ (x4_2 : Int) := of_decide_eq_true (by first | (with_reducible assumption) | assumption)
                                        have q177 : x4_2 < (t169.length : Int) := of_decide_eq_true (by first | (with_reducible assumption) | assumption)
                                        obtain ⟨ad177, e177, hx177_0⟩ := Kd.at_string (Kd.R_reads' HO_3.out).2.2 x4_2 p177 q177
                                        obtain rfl : ad173 = ad177 := (by injection e177)
                                        replace p177 := eq_true p177
                                        replace q177 := eq_true q177
                                        have p29 : 0 ≤ (x5_3 : Int) := of_decide_eq_true (by first | (with_reducible assumption) | assumption)
                                        have q29 : x5_3 < ((rdOf ByteArray.empty t169 x4_2).size : Int) := of_decide_eq_true (by first | (with_reducible assumption) | assumption)
                                        have hx29 := bt_at (rdOf ByteArray.empty t169 x4_2) x5_3
                                        replace p29 := eq_true p29
                                        replace q29 := eq_true q29
                                        go_wp2
                                        go_roundg k3
                                        case measure => have := HJ4.out; have := HK2.out; have := HK3.out; omega
                                        case rel => exact ⟨(wrap64 (x5_3 + 1)), (by first | rfl | (simp; done) | (simp [*]; done)), H', ⟨by have := HJ4.out; have := HK2.out; have := HK3.out; omega⟩, ⟨by (with_reducible repeat (first | apply Kd.R_alloc | apply Kd.R_drewN | apply Kd.R_drew)); exact HO_3.out⟩, ⟨by repeat (first | (with_reducible first | exact HB.out | apply below_alloc | apply pw_below_drewN | apply below_drew1) | exact HB.out)⟩⟩
                                      · rw [if_neg c28] at H
                                        have c28b0 : decide (x4_2 < (wrap64 ((t169.length : Int) - 1))) = false := decide_eq_false c28
                                        clear c28
                                        have H' := Aside0.mk H
                                        clear H
                                        have p174 : 0 ≤ (x4_2 : Int) := of_decide_eq_true (by first | (with_reducible assumption) | assumption)
                                        have q174 : x4_2 < (t169.length : Int) := of_decide_eq_true (by first | (with_reducible assumption) | assumption)
                                        obtain ⟨ad174, e174, hx174_0⟩ := Kd.at_string (Kd.R_reads' HO_3.out).2.2 x4_2 p174 q174
                                        obtain rfl : ad173 = ad174 := (by injection e174)
                                        replace p174 := eq_true p174
                                        replace q174 := eq_true q174
                                        have p175 : 0 ≤ (x4_2 : Int) := of_decide_eq_true (by first | (with_reducible assumption) | assumption)
                                        have q175 : x4_2 < (t169.length : Int) := of_decide_eq_true (by first | (with_reducible assumption) | assumption)
                                        obtain ⟨ad175, e175, hx175_0⟩ := Kd.at_string (Kd.R_reads' HO_3.out).2.2 x4_2 p175 q175
                                        obtain rfl : ad173 = ad175 := (by injection e175)
                                        replace p175 := eq_true p175
                                        replace q175 := eq_true q175
                                        have p176 : 0 ≤ (x4_2 : Int) := of_decide_eq_true (by first | (with_reducible assumption) | assumption)
                                        have q176 : x4_2 < (t169.length : Int) := of_decide_eq_true (by first | (with_reducible assumption) | assumption)
                                        obtain ⟨ad176, e176, hx176_0⟩ := Kd.at_string (Kd.R_reads' HO_3.out).2.2 x4_2 p176 q176
                                        obtain rfl : ad173 = ad176 := (by injection e176)
                                        replace p176 := eq_true p176
                                        replace q176 := eq_true q176
                                        have p24 : 0 ≤ (x5_3 : Int) := of_decide_eq_true (by first | (with_reducible assumption) | assumption)
                                        have q24 : x5_3 < ((rdOf ByteArray.empty t169 x4_2).size : Int) := of_decide_eq_true (by first | (with_reducible assumption) | assumption)
                                        have hx24 := bt_at (rdOf ByteArray.empty t169 x4_2) x5_3
                                        replace p24 := eq_true p24
                                        replace q24 := eq_true q24
                                        go_wp2
                                        go_roundg k3
                                        case measure => have := HJ4.out; have := HK2.out; have := HK3.out; omega
                                        case rel => exact ⟨(wrap64 (x5_3 + 1)), (by first | rfl | (simp; done) | (simp [*]; done)), H', ⟨by have := HJ4.out; have := HK2.out; have := HK3.out; omega⟩, ⟨by (with_reducible repeat (first | apply Kd.R_alloc | apply Kd.R_drewN | apply Kd.R_drew)); exact HO_3.out⟩, ⟨by repeat (first | (with_reducible first | exact HB.out | apply below_alloc | apply pw_below_drewN | apply below_drew1) | exact HB.out)⟩⟩
                                    · rw [if_neg c27] at H
                                      exact absurd (beq_iff_eq.mp c26b0) c27
                                  · rw [if_neg c26] at H
                                    have c26b0 : (x5_3 == (wrap64 (((rdOf ByteArray.empty t169 x4_2).size : Int) - 1))) = false := beq_eq_false_iff_ne.mpr c26
                                    have c26b1 : (x5_3 != (wrap64 (((rdOf ByteArray.empty t169 x4_2).size : Int) - 1))) = true := bne_iff_ne.mpr c26
                                    obtain rfl := Option.some.inj H
                                    have p174 : 0 ≤ (x4_2 : Int) := of_decide_eq_true (by first | (with_reducible assumption) | assumption)
                                    have q174 : x4_2 < (t169.length : Int) := of_decide_eq_true (by first | (with_reducible assumption) | assumption)
                                    obtain ⟨ad174, e174, hx174_0⟩ := Kd.at_string (Kd.R_reads' HO_3.out).2.2 x4_2 p174 q174
                                    obtain rfl : ad173 = ad174 := (by injection e174)
                                    replace p174 := eq_true p174
                                    replace q174 := eq_true q174
                                    have p175 : 0 ≤ (x4_2 : Int) := of_decide_eq_true (by first | (with_reducible assumption) | assumption)
                                    have q175 : x4_2 < (t169.length : Int) := of_decide_eq_true (by first | (with_reducible assumption) | assumption)
                                    obtain ⟨ad175, e175, hx175_0⟩ := Kd.at_string (Kd.R_reads' HO_3.out).2.2 x4_2 p175 q175
                                    obtain rfl : ad173 = ad175 := (by injection e175)
                                    replace p175 := eq_true p175
                                    replace q175 := eq_true q175
                                    have p176 : 0 ≤ (x4_2 : Int) := of_decide_eq_true (by first | (with_reducible assumption) | assumption)
                                    have q176 : x4_2 < (t169.length : Int) := of_decide_eq_true (by first | (with_reducible assumption) | assumption)
                                    obtain ⟨ad176, e176, hx176_0⟩ := Kd.at_string (Kd.R_reads' HO_3.out).2.2 x4_2 p176 q176
                                    obtain rfl : ad173 = ad176 := (by injection e176)
                                    replace p176 := eq_true p176
                                    replace q176 := eq_true q176
                                    have p24 : 0 ≤ (x5_3 : Int) := of_decide_eq_true (by first | (with_reducible assumption) | assumption)
                                    have q24 : x5_3 < ((rdOf ByteArray.empty t169 x4_2).size : Int) := of_decide_eq_true (by first | (with_reducible assumption) | assumption)
                                    have hx24 := bt_at (rdOf ByteArray.empty t169 x4_2) x5_3
                                    replace p24 := eq_true p24
                                    replace q24 := eq_true q24
                                    go_wp2
                                    go_ret
                                    exact ⟨by first | rfl | (simp [errW_none, errW_some] <;> rfl) | (simp [*, errW_none, errW_some] <;> rfl), by repeat (first | (with_reducible first | exact HB.out | apply below_alloc | apply pw_below_drewN | apply below_drew1) | exact HB.out)⟩
                                · rw [if_neg c25] at H
                                  have c25b0 : ((bt (rdOf ByteArray.empty t169 x4_2) x5_3) == 10) = false := beq_eq_false_iff_ne.mpr c25
                                  have c25b1 : ((bt (rdOf ByteArray.empty t169 x4_2) x5_3) != 10) = true := bne_iff_ne.mpr c25
                                  by_cases c30 : x5_3 = (wrap64 (((rdOf ByteArray.empty t169 x4_2).size : Int) - 1))
                                  · rw [if_pos c30] at H
                                    have c30b0 : (x5_3 == (wrap64 (((rdOf ByteArray.empty t169 x4_2).size : Int) - 1))) = true := beq_iff_eq.mpr c30
                                    have c30b1 : (x5_3 != (wrap64 (((rdOf ByteArray.empty t169 x4_2).size : Int) - 1))) = false := bne_eq_false_iff_eq.mpr c30
                                    clear c30
                                    by_cases c31 : x4_2 < (wrap64 ((t169.length : Int) - 1))
                                    · rw [if_pos c31] at H
                                      have c31b0 : decide (x4_2 < (wrap64 ((t169.length : Int) - 1))) = true := decide_eq_true c31
                                      clear c31
                                      obtain rfl := Option.some.inj H
                                      have p174 : 0 ≤ (x4_2 : Int) := of_decide_eq_true (by first | (with_reducible assumption) | assumption)
                                      have q174 : x4_2 < (t169.length : Int) := of_decide_eq_true (by first | (with_reducible assumption) | assumption)
                                      obtain ⟨ad174, e174, hx174_0⟩ := Kd.at_string (Kd.R_reads' HO_3.out).2.2 x4_2 p174 q174
                                      obtain rfl : ad173 = ad174 := (by injection e174)
                                      replace p174 := eq_true p174
                                      replace q174 := eq_true q174
                                      have p175 : 0 ≤ (x4_2 : Int) := of_decide_eq_true (by first | (with_reducible assumption) | assumption)
                                      have q175 : x4_2 < (t169.length : Int) := of_decide_eq_true (by first | (with_reducible assumption) | assumption)
                                      obtain ⟨ad175, e175, hx175_0⟩ := Kd.at_string (Kd.R_reads' HO_3.out).2.2 x4_2 p175 q175
                                      obtain rfl : ad173 = ad175 := (by injection e175)
                                      replace p175 := eq_true p175
                                      replace q175 := eq_true q175
                                      have p176 : 0 ≤ (x4_2 : Int) := of_decide_eq_true (by first | (with_reducible assumption) | assumption)
                                      have q176 : x4_2 < (t169.length : Int) := of_decide_eq_true (by first | (with_reducible assumption) | assumption)
                                      obtain ⟨ad176, e176, hx176_0⟩ := Kd.at_string (Kd.R_reads' HO_3.out).2.2 x4_2 p176 q176
                                      obtain rfl : ad173 = ad176 := (by injection e176)
                                      replace p176 := eq_true p176
                                      replace q176 := eq_true q176
                                      have p24 : 0 ≤ (x5_3 : Int) := of_decide_eq_true (by first | (with_reducible assumption) | assumption)
                                      have q24 : x5_3 < ((rdOf ByteArray.empty t169 x4_2).size : Int) := of_decide_eq_true (by first | (with_reducible assumption) | assumption)
                                      have hx24 := bt_at (rdOf ByteArray.empty t169 x4_2) x5_3
                                      replace p24 := eq_true p24
                                      replace q24 := eq_true q24
                                      have p178 : 0 ≤ (x4_2 : Int) := of_decide_eq_true (by first | (with_reducible assumption) | assumption)
                                      have q178 : x4_2 < (t169.length : Int) := of_decide_eq_true (by first | (with_reducible assumption) | assumption)
                                      obtain ⟨ad178, e178, hx178_0⟩ := Kd.at_string (Kd.R_reads' HO_3.out).2.2 x4_2 p178 q178
                                      obtain rfl : ad173 = ad178 := (by injection e178)
                                      replace p178 := eq_true p178
                                      replace q178 := eq_true q178
                                      have p32 : 0 ≤ (x5_3 : Int) := of_decide_eq_true (by first | (with_reducible assumption) | assumption)
                                      have q32 : x5_3 < ((rdOf ByteArray.empty t169 x4_2).size : Int) := of_decide_eq_true (by first | (with_reducible assumption) | assumption)
                                      have hx32 := bt_at (rdOf ByteArray.empty t169 x4_2) x5_3
                                      replace p32 := eq_true p32
                                      replace q32 := eq_true q32
                                      go_wp2
                                      go_ret
                                      exact ⟨by first | rfl | (simp [errW_none, errW_some] <;> rfl) | (simp [*, errW_none, errW_some] <;> rfl), by repeat (first | (with_reducible first | exact HB.out | apply below_alloc | apply pw_below_drewN | apply below_drew1) | exact HB.out)⟩
                                    · rw [if_neg c31] at H
                                      have c31b0 : decide (x4_2 < (wrap64 ((t169.length : Int) - 1))) = false := decide_eq_false c31
                                      clear c31
                                      have H' := Aside0.mk H
                                      clear H
                                      have p174 : 0 ≤ (x4_2 : Int) := of_decide_eq_true (by first | (with_reducible assumption) | assumption)
                                      have q174 : x4_2 < (t169.length : Int) := of_decide_eq_true (by first | (with_reducible assumption) | assumption)
                                      obtain ⟨ad174, e174, hx174_0⟩ := Kd.at_string (Kd.R_reads' HO_3.out).2.2 x4_2 p174 q174
                                      obtain rfl : ad173 = ad174 := (by injection e174)
                                      replace p174 := eq_true p174
                                      replace q174 := eq_true q174
                                      have p175 : 0 ≤ (x4_2 : Int) := of_decide_eq_true (by first | (with_reducible assumption) | assumption)
                                      have q175 : x4_2 < (t169.length : Int) := of_decide_eq_true (by first | (with_reducible assumption) | assumption)
                                      obtain ⟨ad175, e175, hx175_0⟩ := Kd.at_string (Kd.R_reads' HO_3.out).2.2 x4_2 p175 q175
                                      obtain rfl : ad173 = ad175 := (by injection e175)
                                      replace p175 := eq_true p175
                                      replace q175 := eq_true q175
                                      have p176 : 0 ≤ (x4_2 : Int) := of_decide_eq_true (by first | (with_reducible assumption) | assumption)
                                      have q176 : x4_2 < (t169.length : Int) := of_decide_eq_true (by first | (with_reducible assumption) | assumption)
                                      obtain ⟨ad176, e176, hx176_0⟩ := Kd.at_string (Kd.R_reads' HO_3.out).2.2 x4_2 p176 q176
                                      obtain rfl : ad173 = ad176 := (by injection e176)
                                      replace p176 := eq_true p176
                                      replace q176 := eq_true q176
                                      have p24 : 0 ≤ (x5_3 : Int) := of_decide_eq_true (by first | (with_reducible assumption) | assumption)
                                      have q24 : x5_3 < ((rdOf ByteArray.empty t169 x4_2).size : Int) := of_decide_eq_true (by first | (with_reducible assumption) | assumption)
                                      have hx24 := bt_at (rdOf ByteArray.empty t169 x4_2) x5_3
                                      replace p24 := eq_true p24
                                      replace q24 := eq_true q24
                                      go_wp2
                                      go_roundg k3
                                      case measure => have := HJ4.out; have := HK2.out; have := HK3.out; omega
                                      case rel => exact ⟨(wrap64 (x5_3 + 1)), (by first | rfl | (simp; done) | (simp [*]; done)), H', ⟨by have := HJ4.out; have := HK2.out; have := HK3.out; omega⟩, ⟨by (with_reducible repeat (first | apply Kd.R_alloc | apply Kd.R_drewN | apply Kd.R_drew)); exact HO_3.out⟩, ⟨by repeat (first | (with_reducible first | exact HB.out | apply below_alloc | apply pw_below_drewN | apply below_drew1) | exact HB.out)⟩⟩
                                  · rw [if_neg c30] at H
                                    have c30b0 : (x5_3 == (wrap64 (((rdOf ByteArray.empty t169 x4_2).size : Int) - 1))) = false := beq_eq_false_iff_ne.mpr c30
                                    have c30b1 : (x5_3 != (wrap64 (((rdOf ByteArray.empty t169 x4_2).size : Int) - 1))) = true := bne_iff_ne.mpr c30
                                    have H' := Aside0.mk H
                                    clear H
                                    have p174 : 0 ≤ (x4_2 : Int) := of_decide_eq_true (by first | (with_reducible assumption) | assumption)
                                    have q174 : x4_2 < (t169.length : Int) := of_decide_eq_true (by first | (with_reducible assumption) | assumption)
                                    obtain ⟨ad174, e174, hx174_0⟩ := Kd.at_string (Kd.R_reads' HO_3.out).2.2 x4_2 p174 q174
                                    obtain rfl : ad173 = ad174 := (by injection e174)
                                    replace p174 := eq_true p174
                                    replace q174 := eq_true q174
                                    have p175 : 0 ≤ (x4_2 : Int) := of_decide_eq_true (by first | (with_reducible assumption) | assumption)
                                    have q175 : x4_2 < (t169.length : Int) := of_decide_eq_true (by first | (with_reducible assumption) | assumption)
                                    obtain ⟨ad175, e175, hx175_0⟩ := Kd.at_string (Kd.R_reads' HO_3.out).2.2 x4_2 p175 q175
                                    obtain rfl : ad173 = ad175 := (by injection e175)
                                    replace p175 := eq_true p175
                                    replace q175 := eq_true q175
                                    have p176 : 0 ≤ (x4_2 : Int) := of_decide_eq_true (by first | (with_reducible assumption) | assumption)
                                    have q176 : x4_2 < (t169.length : Int) := of_decide_eq_true (by first | (with_reducible assumption) | assumption)
                                    obtain ⟨ad176, e176, hx176_0⟩ := Kd.at_string (Kd.R_reads' HO_3.out).2.2 x4_2 p176 q176
                                    obtain rfl : ad173 = ad176 := (by injection e176)
                                    replace p176 := eq_true p176
                                    replace q176 := eq_true q176
                                    have p24 : 0 ≤ (x5_3 : Int) := of_decide_eq_true (by first | (with_reducible assumption) | assumption)
                                    have q24 : x5_3 < ((rdOf ByteArray.empty t169 x4_2).size : Int) := of_decide_eq_true (by first | (with_reducible assumption) | assumption)
                                    have hx24 := bt_at (rdOf ByteArray.empty t169 x4_2) x5_3
                                    replace p24 := eq_true p24
                                    replace q24 := eq_true q24
                                    go_wp2
                                    go_roundg k3
                                    case measure => have := HJ4.out; have := HK2.out; have := HK3.out; omega
                                    case rel => exact ⟨(wrap64 (x5_3 + 1)), (by first | rfl | (simp; done) | (simp [*]; done)), H', ⟨by have := HJ4.out; have := HK2.out; have := HK3.out; omega⟩, ⟨by (with_reducible repeat (first | apply Kd.R_alloc | apply Kd.R_drewN | apply Kd.R_drew)); exact HO_3.out⟩, ⟨by repeat (first | (with_reducible first | exact HB.out | apply below_alloc | apply pw_below_drewN | apply below_drew1) | exact HB.out)⟩⟩
                              · rw [if_neg c23] at H
                                exact absurd H (by simp)
                            · rw [if_neg c22] at H
                              have c22b0 : decide (x5_3 < ((rdOf ByteArray.empty t169 x4_2).size : Int)) = false := decide_eq_false c22
                              clear c22
                              have H' := Aside0.mk H
                              clear H
                              have p174 : 0 ≤ (x4_2 : Int) := of_decide_eq_true (by first | (with_reducible assumption) | assumption)
                              have q174 : x4_2 < (t169.length : Int) := of_decide_eq_true (by first | (with_reducible assumption) | assumption)
                              obtain ⟨ad174, e174, hx174_0⟩ := Kd.at_string (Kd.R_reads' HO_3.out).2.2 x4_2 p174 q174
                              obtain rfl : ad173 = ad174 := (by injection e174)
                              replace p174 := eq_true p174
                              replace q174 := eq_true q174
                              go_wp2
                              go_roundg k3
                              case measure => have := HJ4.out; have := HK2.out; have := HK3.out; omega
                              case rel => exact ⟨(wrap64 (x4_2 + 1)), (by first | rfl | (simp; done) | (simp [*]; done)), H', ⟨by have := HJ4.out; have := HK2.out; have := HK3.out; omega⟩, ⟨by (with_reducible repeat (first | apply Kd.R_alloc | apply Kd.R_drewN | apply Kd.R_drew)); exact HO_3.out⟩, ⟨by repeat (first | (with_reducible first | exact HB.out | apply below_alloc | apply pw_below_drewN | apply below_drew1) | exact HB.out)⟩⟩
                          · rw [if_neg c21] at H
                            exact absurd H (by simp)
                        · rw [if_neg c20] at H
                          exact absurd H (by simp)
                · rw [if_neg c16] at H
                  exact absurd H (by simp)
              · rw [if_neg c15] at H
                have c15b0 : decide (x4_2 < (t169.length : Int)) = false := decide_eq_false c15
                clear c15
                obtain rfl := Option.some.inj H
                obtain ⟨Ao33, co33, eo33⟩ := Kd.R_slice HO_3.out
                subst eo33
                go_wp2
                go_ret
                exact ⟨by first | rfl | (simp [errW_none, errW_some] <;> rfl) | (simp [*, errW_none, errW_some] <;> rfl), by repeat (first | (with_reducible first | exact HB.out | apply below_alloc | apply pw_below_drewN | apply below_drew1) | exact HB.out)⟩
  · replace c3 := Bool.eq_false_iff.mpr c3
    subst c3
    have H1 : (some false) = some r := by rw [if_neg (show ¬ (false = true) by decide)] at H; exact H
    clear H
    have H := H1
    clear H1
    obtain rfl := Option.some.inj H
    go_enter Try.func7, Try.ntmps7
    go_wp2_with (first | ((with_reducible refine gate_callee (f := 23) rfl ?_); refine goesL_ (some 7) rfl rfl Try.func23 (by kernel_rfl) rfl #[] rfl (by (try simp only [List.map_toArray, List.map_cons, List.map_nil]); first | done | rfl | (simp only [List.length_drop, List.length_take]; rfl)) ?_; (with_reducible refine (forebearlaw04_awake.calls k  false _ A2.out).mono ?_); rintro e w34 ⟨rfl, hb⟩; refine ⟨_, rfl, ?_⟩; have n0_ := Aside0.mk (below_step (by repeat (first | (with_reducible first | exact HB.out | apply below_alloc | apply pw_below_drewN | apply below_drew1) | exact HB.out)) hb); clear HB; have HB := n0_; clear n0_; (try clear hb); (try clear hb2); (try clear hk); (try clear hi)))
    go_ret
    exact ⟨by first | rfl | (simp [errW_none, errW_some] <;> rfl) | (simp [*, errW_none, errW_some] <;> rfl), by repeat (first | (with_reducible first | exact HB.out | apply below_alloc | apply pw_below_drewN | apply below_drew1) | exact HB.out)⟩

/-- THE ONE PURE STATEMENT of forebearlaw04_TextBack. -/
def forebearlaw04_TextBack.Pure : Prop := ∀ (a0 : ByteArray), a0.size ≤ 140737488351232 → (a0.size + 1) ≤ 1048576 → ∃ k, forebearlaw04_TextBack.f k a0 = some true
theorem forebearlaw04_TextBack.walk (P : forebearlaw04_TextBack.Pure) (a0 : ByteArray)  (w : World) (g0 : a0.size ≤ 140737488351232) (g1 : (a0.size + 1) ≤ 1048576)  :
    Calls Try.prog 7 #[.string a0] w fun e w' => e = .returned (.bool true) ∧ Below w.heap.size w w' := by
  obtain ⟨k, h⟩ := P a0 g0 g1
  refine (forebearlaw04_TextBack.calls k a0 true w  h).mono ?_
  rintro e w' ⟨rfl, hd⟩
  exact ⟨rfl, hd⟩

end Go.Proofs.Ytlbkobiphfaafaa.MT

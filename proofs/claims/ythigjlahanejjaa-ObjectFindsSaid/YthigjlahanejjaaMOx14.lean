/- Laid by this claim's own program (myprint) out of the translation: functions that the laws of the group O reach, each as a plain function, with the proof that the Go code comes to it. No condition. -/
import Derived.Test.YthigjlahanejjaaMOx0
import Derived.Test.YthigjlahanejjaaMOx4
import Derived.Test.YthigjlahanejjaaMOx7
import Derived.Test.YthigjlahanejjaaMOx10
import Derived.Test.YthigjlahanejjaaMOx12
import Derived.Test.YthigjlahanejjaaMOx13
namespace Go.Proofs.Ythigjlahanejjaa.MO
open Go.Proofs.Ythigjlahanejjaa.Opening
open Go.RowKit Go.Proofs.YthigjlahanejjaaW.PrintWords Go.Proofs.YthigjlahanejjaaW.PrintLast Go.Proofs.YthigjlahanejjaaW.PrintMore
attribute [local go_sem] max2_int min2_int max_two min_two max_three min_three max_four min_four   -- for this text's walks alone
set_option linter.unusedVariables false
set_option linter.unusedSimpArgs false

/-! ### forebearlaw08_ObjectFinds: function 9 -/
mutual
def forebearlaw08_ObjectFinds.j0 : Nat → List (S67) → Bool → Option (Bool)
  | 0, _, _ => none
  | k + 1, x0, x34 => if x34 = true then (some false) else ((object_Tree.f k x0).bind fun bt274 => (if bt274.2 = 0 then (forebearlaw08_ObjectFinds.l0 k x0 0) else (some true)))
def forebearlaw08_ObjectFinds.l0 : Nat → List (S67) → Int → Option (Bool)
  | 0, _, _ => none
  | k + 1, x0, x11 => if x11 < (x0.length : Int) then (if 0 ≤ x11 then ((object_Find.f k x0 ((rd_T67 x0 x11).f0)).bind fun bt279 => (if bt279.2 = true then (if bt279.1 = ((rd_T67 x0 x11).f1) then (forebearlaw08_ObjectFinds.l0 k x0 (wrap64 (x11 + 1))) else (some false)) else (some false))) else (none)) else (some true)
end
def forebearlaw08_ObjectFinds.f (k : Nat) (l0 : List (S67)) (a1 : ByteArray) : Option (Bool) := (forebearlaw08_awake.f k).bind fun t266 => (if t266 = true then ((object_Find.f k l0 a1).bind fun bt267 => ((forebearlaw08_Entries.f k l0).bind fun t269 => ((forebearref08_Find.f k t269 a1).bind fun bt272 => (if bt267.1 = bt272.1 then (forebearlaw08_ObjectFinds.j0 k l0 (bt267.2 != bt272.2)) else (forebearlaw08_ObjectFinds.j0 k l0 true))))) else (some false))
theorem forebearlaw08_ObjectFinds.mono_l : ∀ k, (∀ y0 y1, LeO (forebearlaw08_ObjectFinds.j0 k y0 y1) (forebearlaw08_ObjectFinds.j0 (k + 1) y0 y1)) ∧ (∀ y0 y1, LeO (forebearlaw08_ObjectFinds.l0 k y0 y1) (forebearlaw08_ObjectFinds.l0 (k + 1) y0 y1))
  | 0 => ⟨fun _ _ r h => by simp [forebearlaw08_ObjectFinds.j0] at h, fun _ _ r h => by simp [forebearlaw08_ObjectFinds.l0] at h⟩
  | k + 1 => by
    obtain ⟨ih0, ih1⟩ := forebearlaw08_ObjectFinds.mono_l k
    refine ⟨?_, ?_⟩
    · intro y0 y1
      unfold forebearlaw08_ObjectFinds.j0
      repeat' first
      | (with_reducible exact ih0 _ _)
      | (with_reducible exact ih1 _ _)
      | (with_reducible exact forebearlaw08_Entries.mono _ _)
      | (with_reducible exact forebearlaw08_awake.mono _)
      | (with_reducible exact forebearref08_Find.mono _ _ _)
      | (with_reducible exact object_Find.mono _ _ _)
      | (with_reducible exact object_Tree.mono _ _)
      | (with_reducible exact LeO.refl _)
      | (with_reducible exact LeO.none _)
      | (with_reducible refine LeO.ite ?_ ?_)
      | (with_reducible refine LeO.bind ?_ (fun _ => ?_))
      | exact ih0 _ _
      | exact ih1 _ _
      | exact forebearlaw08_Entries.mono _ _
      | exact forebearlaw08_awake.mono _
      | exact forebearref08_Find.mono _ _ _
      | exact object_Find.mono _ _ _
      | exact object_Tree.mono _ _
      | exact LeO.none _
      | refine LeO.ite ?_ ?_
      | refine LeO.bind ?_ (fun _ => ?_)
    · intro y0 y1
      unfold forebearlaw08_ObjectFinds.l0
      repeat' first
      | (with_reducible exact ih0 _ _)
      | (with_reducible exact ih1 _ _)
      | (with_reducible exact forebearlaw08_Entries.mono _ _)
      | (with_reducible exact forebearlaw08_awake.mono _)
      | (with_reducible exact forebearref08_Find.mono _ _ _)
      | (with_reducible exact object_Find.mono _ _ _)
      | (with_reducible exact object_Tree.mono _ _)
      | (with_reducible exact LeO.refl _)
      | (with_reducible exact LeO.none _)
      | (with_reducible refine LeO.ite ?_ ?_)
      | (with_reducible refine LeO.bind ?_ (fun _ => ?_))
      | exact ih0 _ _
      | exact ih1 _ _
      | exact forebearlaw08_Entries.mono _ _
      | exact forebearlaw08_awake.mono _
      | exact forebearref08_Find.mono _ _ _
      | exact object_Find.mono _ _ _
      | exact object_Tree.mono _ _
      | exact LeO.none _
      | refine LeO.ite ?_ ?_
      | refine LeO.bind ?_ (fun _ => ?_)
theorem forebearlaw08_ObjectFinds.mono : ∀ a0 a1 k, LeO (forebearlaw08_ObjectFinds.f k a0 a1) (forebearlaw08_ObjectFinds.f (k + 1) a0 a1) := by
  intro a0 a1 k
  obtain ⟨ih0, ih1⟩ := forebearlaw08_ObjectFinds.mono_l k
  unfold forebearlaw08_ObjectFinds.f
  repeat' first
      | (with_reducible exact ih0 _ _)
      | (with_reducible exact ih1 _ _)
      | (with_reducible exact forebearlaw08_Entries.mono _ _)
      | (with_reducible exact forebearlaw08_awake.mono _)
      | (with_reducible exact forebearref08_Find.mono _ _ _)
      | (with_reducible exact object_Find.mono _ _ _)
      | (with_reducible exact object_Tree.mono _ _)
      | (with_reducible exact LeO.refl _)
      | (with_reducible exact LeO.none _)
      | (with_reducible refine LeO.ite ?_ ?_)
      | (with_reducible refine LeO.bind ?_ (fun _ => ?_))
      | exact ih0 _ _
      | exact ih1 _ _
      | exact forebearlaw08_Entries.mono _ _
      | exact forebearlaw08_awake.mono _
      | exact forebearref08_Find.mono _ _ _
      | exact object_Find.mono _ _ _
      | exact object_Tree.mono _ _
      | exact LeO.none _
      | refine LeO.ite ?_ ?_
      | refine LeO.bind ?_ (fun _ => ?_)
set_option maxHeartbeats 8000000 in
set_option maxRecDepth 100000 in
theorem forebearlaw08_ObjectFinds.calls (k : Nat) (A0 : Option Addr) (c0 : Nat) (l0 : List (S67)) (a1 : ByteArray) (r : Bool) (w : World) (hr0 : Kd.C k67 w A0 l0.length l0) (hc0 : l0.length ≤ c0) (h : forebearlaw08_ObjectFinds.f k l0 a1 = some r) (hr_ : r = true := by rfl) :
    Calls Try.prog 9 #[.slice A0 l0.length c0, .string a1] w fun e w' => e = .returned (.bool r) ∧ Below w.heap.size w w' := by
  have HR0 := Aside0.mk hr0
  have HC0 := Aside0.mk hc0
  clear hr0 hc0
  have HB := Aside0.mk (Below.refl w.heap.size w)
  have HR_ := Aside0.mk hr_
  clear hr_
  have H : ((forebearlaw08_awake.f k).bind fun t266 => (if t266 = true then ((object_Find.f k l0 a1).bind fun bt267 => ((forebearlaw08_Entries.f k l0).bind fun t269 => ((forebearref08_Find.f k t269 a1).bind fun bt272 => (if bt267.1 = bt272.1 then (forebearlaw08_ObjectFinds.j0 k l0 (bt267.2 != bt272.2)) else (forebearlaw08_ObjectFinds.j0 k l0 true))))) else (some false))) = some r := h
  clear h
  replace H := Option.bind_eq_some_iff.mp H
  obtain ⟨t266, A30, H⟩ := H
  replace H : (if t266 = true then ((object_Find.f k l0 a1).bind fun bt267 => ((forebearlaw08_Entries.f k l0).bind fun t269 => ((forebearref08_Find.f k t269 a1).bind fun bt272 => (if bt267.1 = bt272.1 then (forebearlaw08_ObjectFinds.j0 k l0 (bt267.2 != bt272.2)) else (forebearlaw08_ObjectFinds.j0 k l0 true))))) else (some false)) = some r := H
  have A3 := Aside0.mk A30
  clear A30
  by_cases c4 : t266 = true
  · subst c4
    have H1 : ((object_Find.f k l0 a1).bind fun bt267 => ((forebearlaw08_Entries.f k l0).bind fun t269 => ((forebearref08_Find.f k t269 a1).bind fun bt272 => (if bt267.1 = bt272.1 then (forebearlaw08_ObjectFinds.j0 k l0 (bt267.2 != bt272.2)) else (forebearlaw08_ObjectFinds.j0 k l0 true))))) = some r := by rw [if_pos rfl] at H; exact H
    clear H
    have H := H1
    clear H1
    replace H := Option.bind_eq_some_iff.mp H
    obtain ⟨⟨t267, t268⟩, A50, H⟩ := H
    replace H : ((forebearlaw08_Entries.f k l0).bind fun t269 => ((forebearref08_Find.f k t269 a1).bind fun bt272 => (if t267 = bt272.1 then (forebearlaw08_ObjectFinds.j0 k l0 (t268 != bt272.2)) else (forebearlaw08_ObjectFinds.j0 k l0 true)))) = some r := H
    have A5 := Aside0.mk A50
    clear A50
    replace H := Option.bind_eq_some_iff.mp H
    obtain ⟨t269, A60, H⟩ := H
    replace H : ((forebearref08_Find.f k t269 a1).bind fun bt272 => (if t267 = bt272.1 then (forebearlaw08_ObjectFinds.j0 k l0 (t268 != bt272.2)) else (forebearlaw08_ObjectFinds.j0 k l0 true))) = some r := H
    have A6 := Aside0.mk A60
    clear A60
    replace H := Option.bind_eq_some_iff.mp H
    obtain ⟨⟨t272, t273⟩, A70, H⟩ := H
    replace H : (if t267 = t272 then (forebearlaw08_ObjectFinds.j0 k l0 (t268 != t273)) else (forebearlaw08_ObjectFinds.j0 k l0 true)) = some r := H
    have A7 := Aside0.mk A70
    clear A70
    have HC8 := Aside0.mk H
    clear H
    go_enter Try.func9, Try.ntmps9
    go_upto_region 5 with (first | ((with_reducible refine gate_callee (f := 21) rfl ?_); refine goesL_ (some 12) rfl rfl Try.func21 (by kernel_rfl) rfl #[] rfl (by (try simp only [List.map_toArray, List.map_cons, List.map_nil]); first | done | rfl | (simp only [List.length_drop, List.length_take]; rfl)) ?_; (with_reducible refine (forebearlaw08_awake.calls k  true _ A3.out).mono ?_); rintro e w9 ⟨rfl, hb⟩; refine ⟨_, rfl, ?_⟩; have n0_ := Aside0.mk (below_step (by repeat (first | (with_reducible first | exact HB.out | apply below_alloc | apply pw_below_drewN | apply below_drew1) | exact HB.out)) hb); clear HB; have HB := n0_; clear n0_; (try clear hb); (try clear hb2); (try clear hk); (try clear hi)) | ((with_reducible refine gate_callee (f := 28) rfl ?_); refine goesL_ (some 17) rfl rfl Try.func28 (by kernel_rfl) rfl #[.slice A0 l0.length c0, .string a1] rfl (by (try simp only [List.map_toArray, List.map_cons, List.map_nil]); first | done | rfl | (simp only [List.length_drop, List.length_take]; rfl)) ?_; (with_reducible refine (object_Find.calls k _ _ l0 a1 t267 t268 _ ?side1 ?side2 A5.out).mono ?_); (case side1 => repeat (first | exact (Kd.C_below HR0.out HB.out) | (with_reducible refine Kd.C_alloc ?_ _) | (with_reducible refine Kd.C_drewN ?_ _) | (with_reducible refine Kd.C_drew ?_))); (case side2 => exact HC0.out); rintro e w10 ⟨rfl, hb⟩; refine ⟨_, rfl, ?_⟩; have n0_ := Aside0.mk (below_step (by repeat (first | (with_reducible first | exact HB.out | apply below_alloc | apply pw_below_drewN | apply below_drew1) | exact HB.out)) hb); clear HB; have HB := n0_; clear n0_; (try clear hb); (try clear hb2); (try clear hk); (try clear hi)) | ((with_reducible refine gate_callee (f := 24) rfl ?_); refine goesL_ (some 22) rfl rfl Try.func24 (by kernel_rfl) rfl #[.slice A0 l0.length c0] rfl (by (try simp only [List.map_toArray, List.map_cons, List.map_nil]); first | done | rfl | (simp only [List.length_drop, List.length_take]; rfl)) ?_; (with_reducible refine (forebearlaw08_Entries.calls k _ _ l0 t269 _ ?side1 ?side2 A6.out).mono ?_); (case side1 => repeat (first | exact (Kd.C_below HR0.out HB.out) | (with_reducible refine Kd.C_alloc ?_ _) | (with_reducible refine Kd.C_drewN ?_ _) | (with_reducible refine Kd.C_drew ?_))); (case side2 => exact HC0.out); rintro e w11 ⟨v270, rfl, ho0, hb⟩; refine ⟨_, rfl, ?_⟩; have n0_ := Aside0.mk (Kd.R_lower ho0 (below_size (by repeat (first | (with_reducible first | exact HB.out | apply below_alloc | apply pw_below_drewN | apply below_drew1) | exact HB.out)))); have n1_ := Aside0.mk (below_step (by repeat (first | (with_reducible first | exact HB.out | apply below_alloc | apply pw_below_drewN | apply below_drew1) | exact HB.out)) hb); clear HB; have HO271 := n0_; have HB := n1_; clear n0_ n1_; (try clear hb); (try clear hb2); (try clear hk); (try clear hi); (try clear ho0); obtain ⟨Ao12, co12, eo12⟩ := Kd.R_slice HO271.out; subst eo12) | ((with_reducible refine gate_callee (f := 29) rfl ?_); refine goesL_ (some 24) rfl rfl Try.func29 (by kernel_rfl) rfl #[.slice Ao12 t269.length co12, .string a1] rfl (by (try simp only [List.map_toArray, List.map_cons, List.map_nil]); first | done | rfl | (simp only [List.length_drop, List.length_take]; rfl)) ?_; (with_reducible refine (forebearref08_Find.calls k _ _ t269 a1 t272 t273 _ ?side1 ?side2 A7.out).mono ?_); (case side1 => repeat (first | exact (Kd.R_reads' HO271.out).2.2 | (with_reducible refine Kd.C_alloc ?_ _) | (with_reducible refine Kd.C_drewN ?_ _) | (with_reducible refine Kd.C_drew ?_))); (case side2 => exact (Kd.R_reads' HO271.out).2.1); rintro e w' ⟨rfl, ⟨nd, rfl⟩⟩; refine ⟨_, rfl, ?_⟩))
    (try simp only [Act.put, List.setIfInBounds_toArray, List.set_cons_zero, List.set_cons_succ])
    go_cut [34] (fun v34 wc => ∃ (kq : Nat) (x34_7 : Bool), v34 = .bool x34_7 ∧ Aside0 (forebearlaw08_ObjectFinds.j0 kq l0 x34_7 = some r) ∧ Aside0 (kq ≤ k) ∧ Aside0 (Below w.heap.size w wc))
    case first =>
      have H := HC8.out
      clear HC8
      by_cases c13 : t267 = t272
      · rw [if_pos c13] at H
        have c13b0 : (t267 == t272) = true := beq_iff_eq.mpr c13
        have c13b1 : (t267 != t272) = false := bne_eq_false_iff_eq.mpr c13
        clear c13
        (first | rw [c13b0] | (simp only [i64_w, i32_w]; rw [c13b0]) | skip)
        have H' := Aside0.mk H
        clear H
        go_wp2
        go_meet
        case rel => exact ⟨_, ((t268 != t273)), (by first | rfl | (simp; done) | (simp [*]; done)), H', ⟨by first | omega | exact Nat.le_refl _⟩, ⟨by repeat (first | (with_reducible first | exact HB.out | apply below_alloc | apply pw_below_drewN | apply below_drew1) | exact HB.out)⟩⟩
      · rw [if_neg c13] at H
        have c13b0 : (t267 == t272) = false := beq_eq_false_iff_ne.mpr c13
        have c13b1 : (t267 != t272) = true := bne_iff_ne.mpr c13
        (first | rw [c13b0] | (simp only [i64_w, i32_w]; rw [c13b0]) | skip)
        have H' := Aside0.mk H
        clear H
        go_wp2
        go_meet
        case rel => exact ⟨_, (true), (by first | rfl | (simp; done) | (simp [*]; done)), H', ⟨by first | omega | exact Nat.le_refl _⟩, ⟨by repeat (first | (with_reducible first | exact HB.out | apply below_alloc | apply pw_below_drewN | apply below_drew1) | exact HB.out)⟩⟩
    case rest =>
      clear HC8
      try clear c1
      try clear c2
      try clear p2
      try clear c4
      try clear c9
      try clear c13
      try clear c13b0
      try clear c13b1
      obtain ⟨kq, x34_7, rfl, HA, HJ7, HB⟩ := hcut
      cases kq with
      | zero => exact absurd HA.out (by simp [forebearlaw08_ObjectFinds.j0])
      | succ kj7 =>
        have H := HA.out
        clear HA
        simp only [forebearlaw08_ObjectFinds.j0] at H
        by_cases c14 : x34_7 = true
        · subst c14
          have H1 : (some false) = some r := by rw [if_pos rfl] at H; exact H
          clear H
          have H := H1
          clear H1
          exact absurd (Option.some.inj H) (by rw [HR_.out]; decide)
        · replace c14 := Bool.eq_false_iff.mpr c14
          subst c14
          have H1 : ((object_Tree.f kj7 l0).bind fun bt274 => (if bt274.2 = 0 then (forebearlaw08_ObjectFinds.l0 kj7 l0 0) else (some true))) = some r := by rw [if_neg (show ¬ (false = true) by decide)] at H; exact H
          clear H
          have H := H1
          clear H1
          replace H := Option.bind_eq_some_iff.mp H
          obtain ⟨⟨t274, t275⟩, A150, H⟩ := H
          replace H : (if t275 = 0 then (forebearlaw08_ObjectFinds.l0 kj7 l0 0) else (some true)) = some r := H
          have A15 := Aside0.mk A150
          clear A150
          by_cases c16 : t275 = 0
          · rw [if_pos c16] at H
            have c16b0 : (t275 == 0) = true := beq_iff_eq.mpr c16
            have c16b1 : (t275 != 0) = false := bne_eq_false_iff_eq.mpr c16
            clear c16
            have H' := Aside0.mk H
            clear H
            go_wp2_with (first | ((with_reducible refine gate_callee (f := 22) rfl ?_); refine goesL_ (some 37) rfl rfl Try.func22 (by kernel_rfl) rfl #[.slice A0 l0.length c0] rfl (by (try simp only [List.map_toArray, List.map_cons, List.map_nil]); first | done | rfl | (simp only [List.length_drop, List.length_take]; rfl)) ?_; (with_reducible refine (object_Tree.calls kj7 _ _ l0 t274 t275 _ ?side1 ?side2 A15.out).mono ?_); (case side1 => repeat (first | exact (Kd.C_below HR0.out HB.out) | (with_reducible refine Kd.C_alloc ?_ _) | (with_reducible refine Kd.C_drewN ?_ _) | (with_reducible refine Kd.C_drew ?_))); (case side2 => exact HC0.out); rintro e w17 ⟨v276, rfl, ho0, hb⟩; refine ⟨_, rfl, ?_⟩; have n0_ := Aside0.mk (Kd.R_lower ho0 (below_size (by repeat (first | (with_reducible first | exact HB.out | apply below_alloc | apply pw_below_drewN | apply below_drew1) | exact HB.out)))); have n1_ := Aside0.mk (below_step (by repeat (first | (with_reducible first | exact HB.out | apply below_alloc | apply pw_below_drewN | apply below_drew1) | exact HB.out)) hb); clear HB; have HO277 := n0_; have HB := n1_; clear n0_ n1_; (try clear hb); (try clear hb2); (try clear hk); (try clear hi); (try clear ho0)))
            go_loopg [11] kj7 (fun kq v11 w' => ∃ (x11_2 : Int), v11 = .int .i64 x11_2 ∧ Aside0 (forebearlaw08_ObjectFinds.l0 kq l0 x11_2 = some r) ∧ Aside0 (kq ≤ kj7) ∧ Aside0 (Below w.heap.size w w'))
            case atStart => exact ⟨(0), (by first | rfl | (simp; done) | (simp [*]; done)), H', ⟨Nat.le_refl _⟩, ⟨by repeat (first | (with_reducible first | exact HB.out | apply below_alloc | apply pw_below_drewN | apply below_drew1) | exact HB.out)⟩⟩
            case round =>
              clear H'
              try clear c1
              try clear c2
              try clear p2
              try clear c4
              try clear c9
              try clear c13
              try clear c13b0
              try clear c13b1
              try clear c14
              try clear c16
              try clear c16b0
              try clear c16b1
              try clear p2
              obtain ⟨x11_2, rfl, HA, HK2, HB⟩ := hrel
              cases gk with
              | zero => exact absurd HA.out (by simp [forebearlaw08_ObjectFinds.l0])
              | succ k2 =>
                have H := HA.out
                clear HA
                simp only [forebearlaw08_ObjectFinds.l0] at H
                by_cases c18 : x11_2 < (l0.length : Int)
                · rw [if_pos c18] at H
                  have c18b0 : decide (x11_2 < (l0.length : Int)) = true := decide_eq_true c18
                  clear c18
                  by_cases c19 : 0 ≤ x11_2
                  · rw [if_pos c19] at H
                    have c19b0 : decide (0 ≤ x11_2) = true := decide_eq_true c19
                    clear c19
                    replace H := Option.bind_eq_some_iff.mp H
                    obtain ⟨⟨t279, t280⟩, A200, H⟩ := H
                    replace H : (if t280 = true then (if t279 = ((rd_T67 l0 x11_2).f1) then (forebearlaw08_ObjectFinds.l0 k2 l0 (wrap64 (x11_2 + 1))) else (some false)) else (some false)) = some r := H
                    have A20 := Aside0.mk A200
                    clear A200
                    by_cases c21 : t280 = true
                    · subst c21
                      have H1 : (if t279 = ((rd_T67 l0 x11_2).f1) then (forebearlaw08_ObjectFinds.l0 k2 l0 (wrap64 (x11_2 + 1))) else (some false)) = some r := by rw [if_pos rfl] at H; exact H
                      clear H
                      have H := H1
                      clear H1
                      by_cases c22 : t279 = ((rd_T67 l0 x11_2).f1)
                      · rw [if_pos c22] at H
                        have c22b0 : (t279 == ((rd_T67 l0 x11_2).f1)) = true := beq_iff_eq.mpr c22
                        have c22b1 : (t279 != ((rd_T67 l0 x11_2).f1)) = false := bne_eq_false_iff_eq.mpr c22
                        clear c22
                        have H' := Aside0.mk H
                        clear H
                        have p278 : 0 ≤ (x11_2 : Int) := of_decide_eq_true (by first | (with_reducible assumption) | assumption)
                        have q278 : x11_2 < (l0.length : Int) := of_decide_eq_true (by first | (with_reducible assumption) | assumption)
                        obtain ⟨ad278, e278, hx278_0, hx278_1⟩ := at_T67 HR0.out x11_2 p278 q278
                        cases e278
                        try replace hx278_0 := (HB.out.cell (World.block_lt_of_cell? w _ hx278_0)).trans hx278_0
                        try replace hx278_1 := (HB.out.cell (World.block_lt_of_cell? w _ hx278_1)).trans hx278_1
                        replace p278 := eq_true p278
                        replace q278 := eq_true q278
                        go_wp2_with (first | ((with_reducible refine gate_callee (f := 28) rfl ?_); refine goesL_ (some 55) rfl rfl Try.func28 (by kernel_rfl) rfl #[.slice (some ad278) l0.length c0, .string ((rd_T67 l0 x11_2).f0)] rfl (by (try simp only [List.map_toArray, List.map_cons, List.map_nil]); first | done | rfl | (simp only [List.length_drop, List.length_take]; rfl)) ?_; (with_reducible refine (object_Find.calls k2 _ _ l0 ((rd_T67 l0 x11_2).f0) t279 true _ ?side1 ?side2 A20.out).mono ?_); (case side1 => repeat (first | exact (Kd.C_below HR0.out HB.out) | (with_reducible refine Kd.C_alloc ?_ _) | (with_reducible refine Kd.C_drewN ?_ _) | (with_reducible refine Kd.C_drew ?_))); (case side2 => exact HC0.out); rintro e w23 ⟨rfl, hb⟩; refine ⟨_, rfl, ?_⟩; have n0_ := Aside0.mk (below_step (by repeat (first | (with_reducible first | exact HB.out | apply below_alloc | apply pw_below_drewN | apply below_drew1) | exact HB.out)) hb); clear HB; have HB := n0_; clear n0_; (try clear hb); (try clear hb2); (try clear hk); (try clear hi); have p281 : 0 ≤ (x11_2 : Int) := of_decide_eq_true (by first | (with_reducible assumption) | assumption); have q281 : x11_2 < (l0.length : Int) := of_decide_eq_true (by first | (with_reducible assumption) | assumption); obtain ⟨ad281, e281, hx281_0, hx281_1⟩ := at_T67 HR0.out x11_2 p281 q281; obtain rfl : ad278 = ad281 := (by injection e281); try replace hx281_0 := (HB.out.cell (World.block_lt_of_cell? w _ hx281_0)).trans hx281_0; try replace hx281_1 := (HB.out.cell (World.block_lt_of_cell? w _ hx281_1)).trans hx281_1; replace p281 := eq_true p281; replace q281 := eq_true q281))
                        go_roundg k2
                        case measure => have := HJ7.out; have := HK2.out; omega
                        case rel => exact ⟨(wrap64 (x11_2 + 1)), (by first | rfl | (simp; done) | (simp [*]; done)), H', ⟨by have := HJ7.out; have := HK2.out; omega⟩, ⟨by repeat (first | (with_reducible first | exact HB.out | apply below_alloc | apply pw_below_drewN | apply below_drew1) | exact HB.out)⟩⟩
                      · rw [if_neg c22] at H
                        have c22b0 : (t279 == ((rd_T67 l0 x11_2).f1)) = false := beq_eq_false_iff_ne.mpr c22
                        have c22b1 : (t279 != ((rd_T67 l0 x11_2).f1)) = true := bne_iff_ne.mpr c22
                        exact absurd (Option.some.inj H) (by rw [HR_.out]; decide)
                    · replace c21 := Bool.eq_false_iff.mpr c21
                      subst c21
                      have H1 : (some false) = some r := by rw [if_neg (show ¬ (false = true) by decide)] at H; exact H
                      clear H
                      have H := H1
                      clear H1
                      exact absurd (Option.some.inj H) (by rw [HR_.out]; decide)
                  · rw [if_neg c19] at H
                    exact absurd H (by simp)
                · rw [if_neg c18] at H
                  have c18b0 : decide (x11_2 < (l0.length : Int)) = false := decide_eq_false c18
                  clear c18
                  obtain rfl := Option.some.inj H
                  go_wp2
                  go_ret
                  exact ⟨by first | rfl | (simp [errW_none, errW_some] <;> rfl) | (simp [*, errW_none, errW_some] <;> rfl), by repeat (first | (with_reducible first | exact HB.out | apply below_alloc | apply pw_below_drewN | apply below_drew1) | exact HB.out)⟩
          · rw [if_neg c16] at H
            have c16b0 : (t275 == 0) = false := beq_eq_false_iff_ne.mpr c16
            have c16b1 : (t275 != 0) = true := bne_iff_ne.mpr c16
            obtain rfl := Option.some.inj H
            go_wp2_with (first | ((with_reducible refine gate_callee (f := 22) rfl ?_); refine goesL_ (some 37) rfl rfl Try.func22 (by kernel_rfl) rfl #[.slice A0 l0.length c0] rfl (by (try simp only [List.map_toArray, List.map_cons, List.map_nil]); first | done | rfl | (simp only [List.length_drop, List.length_take]; rfl)) ?_; (with_reducible refine (object_Tree.calls kj7 _ _ l0 t274 t275 _ ?side1 ?side2 A15.out).mono ?_); (case side1 => repeat (first | exact (Kd.C_below HR0.out HB.out) | (with_reducible refine Kd.C_alloc ?_ _) | (with_reducible refine Kd.C_drewN ?_ _) | (with_reducible refine Kd.C_drew ?_))); (case side2 => exact HC0.out); rintro e w26 ⟨v276, rfl, ho0, hb⟩; refine ⟨_, rfl, ?_⟩; have n0_ := Aside0.mk (Kd.R_lower ho0 (below_size (by repeat (first | (with_reducible first | exact HB.out | apply below_alloc | apply pw_below_drewN | apply below_drew1) | exact HB.out)))); have n1_ := Aside0.mk (below_step (by repeat (first | (with_reducible first | exact HB.out | apply below_alloc | apply pw_below_drewN | apply below_drew1) | exact HB.out)) hb); clear HB; have HO277 := n0_; have HB := n1_; clear n0_ n1_; (try clear hb); (try clear hb2); (try clear hk); (try clear hi); (try clear ho0)))
            go_ret
            exact ⟨by first | rfl | (simp [errW_none, errW_some] <;> rfl) | (simp [*, errW_none, errW_some] <;> rfl), by repeat (first | (with_reducible first | exact HB.out | apply below_alloc | apply pw_below_drewN | apply below_drew1) | exact HB.out)⟩
  · replace c4 := Bool.eq_false_iff.mpr c4
    subst c4
    have H1 : (some false) = some r := by rw [if_neg (show ¬ (false = true) by decide)] at H; exact H
    clear H
    have H := H1
    clear H1
    exact absurd (Option.some.inj H) (by rw [HR_.out]; decide)
/-- THE ONE PURE STATEMENT of forebearlaw08_ObjectFinds. -/
def forebearlaw08_ObjectFinds.Pure : Prop := ∀ (l0 : List (S67)) (a1 : ByteArray), (l0.length * 24 ≤ 140737488351232 ∧ l0.length ≤ 9223372036854775807 ∧ ∀ y_l0 ∈ l0, gS67 y_l0) → a1.size ≤ 140737488351232 → ∃ k, forebearlaw08_ObjectFinds.f k l0 a1 = some true
theorem forebearlaw08_ObjectFinds.walk (P : forebearlaw08_ObjectFinds.Pure) (l0 : List (S67)) (a1 : ByteArray) (A0 : Option Addr) (c0 : Nat) (w : World) (g0 : (l0.length * 24 ≤ 140737488351232 ∧ l0.length ≤ 9223372036854775807 ∧ ∀ y_l0 ∈ l0, gS67 y_l0)) (g1 : a1.size ≤ 140737488351232) (hc0 : l0.length ≤ c0) (hr0 : Kd.C k67 w A0 l0.length l0) :
    Calls Try.prog 9 #[.slice A0 l0.length c0, .string a1] w fun e w' => e = .returned (.bool true) ∧ Below w.heap.size w w' := by
  obtain ⟨k, h⟩ := P l0 a1 g0 g1
  refine (forebearlaw08_ObjectFinds.calls k _ _ l0 a1 true w hr0 hc0 h).mono ?_
  rintro e w' ⟨rfl, hd⟩
  exact ⟨rfl, hd⟩

end Go.Proofs.Ythigjlahanejjaa.MO

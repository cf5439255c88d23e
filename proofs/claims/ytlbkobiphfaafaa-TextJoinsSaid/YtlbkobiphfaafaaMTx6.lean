/- Laid by this claim's own program (myprint) out of the translation: functions that the laws of the group T reach, each as a plain function, with the proof that the Go code comes to it. No condition. -/
import Derived.Test.YtlbkobiphfaafaaMTx0
import Derived.Test.YtlbkobiphfaafaaMTx2
import Derived.Test.YtlbkobiphfaafaaMTx3
namespace Go.Proofs.Ytlbkobiphfaafaa.MT
open Go.Proofs.Ytlbkobiphfaafaa.Opening
open Go.RowKit Go.Proofs.YtlbkobiphfaafaaW.PrintWords Go.Proofs.YtlbkobiphfaafaaW.PrintLast Go.Proofs.YtlbkobiphfaafaaW.PrintMore
attribute [local go_sem] max2_int min2_int max_two min_two max_three min_three max_four min_four   -- for this text's walks alone
set_option linter.unusedVariables false
set_option linter.unusedSimpArgs false

/-! ### forebearlaw04_TextJoins: function 8 -/
mutual
def forebearlaw04_TextJoins.l0 : Nat → List ByteArray → ByteArray → Bool → Int → Option (Bool)
  | 0, _, _, _, _ => none
  | k + 1, x0, x3, x4, x5 => if x5 < (x0.length : Int) then (if 0 ≤ x5 then (if ((rdOf ByteArray.empty x0 x5).size : Int) > (wrap64 (100000 - (x3.size : Int))) then (some true) else (if x3.size + (rdOf ByteArray.empty x0 x5).size ≤ 9223372036854775807 then (if x4 = true then (if ((rdOf ByteArray.empty x0 x5).size : Int) > 0 then (if 0 ≤ (wrap64 (((rdOf ByteArray.empty x0 x5).size : Int) - 1)) then (if (wrap64 (((rdOf ByteArray.empty x0 x5).size : Int) - 1)) < ((rdOf ByteArray.empty x0 x5).size : Int) then (forebearlaw04_TextJoins.j1 k x0 (x3 ++ (rdOf ByteArray.empty x0 x5)) ((bt (rdOf ByteArray.empty x0 x5) (wrap64 (((rdOf ByteArray.empty x0 x5).size : Int) - 1))) == 10) x5 ((rdOf ByteArray.empty x0 x5).size : Int)) else (none)) else (none)) else (forebearlaw04_TextJoins.j1 k x0 (x3 ++ (rdOf ByteArray.empty x0 x5)) false x5 ((rdOf ByteArray.empty x0 x5).size : Int))) else (forebearlaw04_TextJoins.j1 k x0 (x3 ++ (rdOf ByteArray.empty x0 x5)) false x5 ((rdOf ByteArray.empty x0 x5).size : Int))) else (none))) else (none)) else ((text_Join.f x0).bind fun t180 => (if t180.toList = x3.toList then (if x4 = true then ((text_Lines.f k x3).bind fun t181 => ((forebearref03_Same.f k t181 x0).bind fun t184 => (some t184))) else (some true)) else (some false)))
def forebearlaw04_TextJoins.j1 : Nat → List ByteArray → ByteArray → Bool → Int → Int → Option (Bool)
  | 0, _, _, _, _, _ => none
  | k + 1, x0, x3, x4, x5, x6 => forebearlaw04_TextJoins.l1 k x0 x3 x4 x5 x6 0
def forebearlaw04_TextJoins.l1 : Nat → List ByteArray → ByteArray → Bool → Int → Int → Int → Option (Bool)
  | 0, _, _, _, _, _, _ => none
  | k + 1, x0, x3, x4, x5, x6, x7 => if x7 < (wrap64 (x6 - 1)) then (if x4 = true then (if 0 ≤ x5 then (if x5 < (x0.length : Int) then (if 0 ≤ x7 then (if x7 < ((rdOf ByteArray.empty x0 x5).size : Int) then (forebearlaw04_TextJoins.l1 k x0 x3 ((bt (rdOf ByteArray.empty x0 x5) x7) != 10) x5 x6 (wrap64 (x7 + 1))) else (none)) else (none)) else (none)) else (none)) else (forebearlaw04_TextJoins.l1 k x0 x3 false x5 x6 (wrap64 (x7 + 1)))) else (forebearlaw04_TextJoins.l0 k x0 x3 x4 (wrap64 (x5 + 1)))
end
def forebearlaw04_TextJoins.f (k : Nat) (l0 : List ByteArray) : Option (Bool) := (forebearlaw04_awake.f k).bind fun t179 => (if t179 = true then (if (l0.length : Int) > 300 then (some true) else (forebearlaw04_TextJoins.l0 k l0 (⟨#[]⟩ : ByteArray) true 0)) else (some false))
theorem forebearlaw04_TextJoins.mono_l : ∀ k, (∀ y0 y1 y2 y3, LeO (forebearlaw04_TextJoins.l0 k y0 y1 y2 y3) (forebearlaw04_TextJoins.l0 (k + 1) y0 y1 y2 y3)) ∧ (∀ y0 y1 y2 y3 y4, LeO (forebearlaw04_TextJoins.j1 k y0 y1 y2 y3 y4) (forebearlaw04_TextJoins.j1 (k + 1) y0 y1 y2 y3 y4)) ∧ (∀ y0 y1 y2 y3 y4 y5, LeO (forebearlaw04_TextJoins.l1 k y0 y1 y2 y3 y4 y5) (forebearlaw04_TextJoins.l1 (k + 1) y0 y1 y2 y3 y4 y5))
  | 0 => ⟨fun _ _ _ _ r h => by simp [forebearlaw04_TextJoins.l0] at h, fun _ _ _ _ _ r h => by simp [forebearlaw04_TextJoins.j1] at h, fun _ _ _ _ _ _ r h => by simp [forebearlaw04_TextJoins.l1] at h⟩
  | k + 1 => by
    obtain ⟨ih0, ih1, ih2⟩ := forebearlaw04_TextJoins.mono_l k
    refine ⟨?_, ?_, ?_⟩
    · intro y0 y1 y2 y3
      unfold forebearlaw04_TextJoins.l0
      repeat' first
      | (with_reducible exact ih0 _ _ _ _)
      | (with_reducible exact ih1 _ _ _ _ _)
      | (with_reducible exact ih2 _ _ _ _ _ _)
      | (with_reducible exact forebearlaw04_awake.mono _)
      | (with_reducible exact forebearref03_Same.mono _ _ _)
      | (with_reducible exact text_Lines.mono _ _)
      | (with_reducible exact LeO.refl _)
      | (with_reducible exact LeO.none _)
      | (with_reducible refine LeO.ite ?_ ?_)
      | (with_reducible refine LeO.bind ?_ (fun _ => ?_))
      | exact ih0 _ _ _ _
      | exact ih1 _ _ _ _ _
      | exact ih2 _ _ _ _ _ _
      | exact forebearlaw04_awake.mono _
      | exact forebearref03_Same.mono _ _ _
      | exact text_Lines.mono _ _
      | exact LeO.none _
      | refine LeO.ite ?_ ?_
      | refine LeO.bind ?_ (fun _ => ?_)
    · intro y0 y1 y2 y3 y4
      unfold forebearlaw04_TextJoins.j1
      repeat' first
      | (with_reducible exact ih0 _ _ _ _)
      | (with_reducible exact ih1 _ _ _ _ _)
      | (with_reducible exact ih2 _ _ _ _ _ _)
      | (with_reducible exact forebearlaw04_awake.mono _)
      | (with_reducible exact forebearref03_Same.mono _ _ _)
      | (with_reducible exact text_Lines.mono _ _)
      | (with_reducible exact LeO.refl _)
      | (with_reducible exact LeO.none _)
      | (with_reducible refine LeO.ite ?_ ?_)
      | (with_reducible refine LeO.bind ?_ (fun _ => ?_))
      | exact ih0 _ _ _ _
      | exact ih1 _ _ _ _ _
      | exact ih2 _ _ _ _ _ _
      | exact forebearlaw04_awake.mono _
      | exact forebearref03_Same.mono _ _ _
      | exact text_Lines.mono _ _
      | exact LeO.none _
      | refine LeO.ite ?_ ?_
      | refine LeO.bind ?_ (fun _ => ?_)
    · intro y0 y1 y2 y3 y4 y5
      unfold forebearlaw04_TextJoins.l1
      repeat' first
      | (with_reducible exact ih0 _ _ _ _)
      | (with_reducible exact ih1 _ _ _ _ _)
      | (with_reducible exact ih2 _ _ _ _ _ _)
      | (with_reducible exact forebearlaw04_awake.mono _)
      | (with_reducible exact forebearref03_Same.mono _ _ _)
      | (with_reducible exact text_Lines.mono _ _)
      | (with_reducible exact LeO.refl _)
      | (with_reducible exact LeO.none _)
      | (with_reducible refine LeO.ite ?_ ?_)
      | (with_reducible refine LeO.bind ?_ (fun _ => ?_))
      | exact ih0 _ _ _ _
      | exact ih1 _ _ _ _ _
      | exact ih2 _ _ _ _ _ _
      | exact forebearlaw04_awake.mono _
      | exact forebearref03_Same.mono _ _ _
      | exact text_Lines.mono _ _
      | exact LeO.none _
      | refine LeO.ite ?_ ?_
      | refine LeO.bind ?_ (fun _ => ?_)
theorem forebearlaw04_TextJoins.mono : ∀ a0 k, LeO (forebearlaw04_TextJoins.f k a0) (forebearlaw04_TextJoins.f (k + 1) a0) := by
  intro a0 k
  obtain ⟨ih0, ih1, ih2⟩ := forebearlaw04_TextJoins.mono_l k
  unfold forebearlaw04_TextJoins.f
  repeat' first
      | (with_reducible exact ih0 _ _ _ _)
      | (with_reducible exact ih1 _ _ _ _ _)
      | (with_reducible exact ih2 _ _ _ _ _ _)
      | (with_reducible exact forebearlaw04_awake.mono _)
      | (with_reducible exact forebearref03_Same.mono _ _ _)
      | (with_reducible exact text_Lines.mono _ _)
      | (with_reducible exact LeO.refl _)
      | (with_reducible exact LeO.none _)
      | (with_reducible refine LeO.ite ?_ ?_)
      | (with_reducible refine LeO.bind ?_ (fun _ => ?_))
      | exact ih0 _ _ _ _
      | exact ih1 _ _ _ _ _
      | exact ih2 _ _ _ _ _ _
      | exact forebearlaw04_awake.mono _
      | exact forebearref03_Same.mono _ _ _
      | exact text_Lines.mono _ _
      | exact LeO.none _
      | refine LeO.ite ?_ ?_
      | refine LeO.bind ?_ (fun _ => ?_)
set_option maxHeartbeats 8000000 in
set_option maxRecDepth 100000 in
theorem forebearlaw04_TextJoins.calls (k : Nat) (A0 : Option Addr) (c0 : Nat) (l0 : List ByteArray) (r : Bool) (w : World) (hr0 : Kd.C Kd.string w A0 l0.length l0) (hc0 : l0.length ≤ c0) (h : forebearlaw04_TextJoins.f k l0 = some r) :
    Calls Try.prog 8 #[.slice A0 l0.length c0] w fun e w' => e = .returned (.bool r) ∧ Below w.heap.size w w' := by
  have HR0 := Aside0.mk hr0
  have HC0 := Aside0.mk hc0
  clear hr0 hc0
  have HB := Aside0.mk (Below.refl w.heap.size w)
  have H : ((forebearlaw04_awake.f k).bind fun t179 => (if t179 = true then (if (l0.length : Int) > 300 then (some true) else (forebearlaw04_TextJoins.l0 k l0 (⟨#[]⟩ : ByteArray) true 0)) else (some false))) = some r := h
  clear h
  replace H := Option.bind_eq_some_iff.mp H
  obtain ⟨t179, A20, H⟩ := H
  replace H : (if t179 = true then (if (l0.length : Int) > 300 then (some true) else (forebearlaw04_TextJoins.l0 k l0 (⟨#[]⟩ : ByteArray) true 0)) else (some false)) = some r := H
  have A2 := Aside0.mk A20
  clear A20
  by_cases c3 : t179 = true
  · subst c3
    have H1 : (if (l0.length : Int) > 300 then (some true) else (forebearlaw04_TextJoins.l0 k l0 (⟨#[]⟩ : ByteArray) true 0)) = some r := by rw [if_pos rfl] at H; exact H
    clear H
    have H := H1
    clear H1
    by_cases c4 : (l0.length : Int) > 300
    · rw [if_pos c4] at H
      have c4b0 : decide (300 < (l0.length : Int)) = true := decide_eq_true c4
      have c4b1 : decide (300 < l0.length) = true := decide_eq_true (by omega)
      clear c4
      obtain rfl := Option.some.inj H
      go_enter Try.func8, Try.ntmps8
      go_wp2_with (first | ((with_reducible refine gate_callee (f := 23) rfl ?_); refine goesL_ (some 8) rfl rfl Try.func23 (by kernel_rfl) rfl #[] rfl (by (try simp only [List.map_toArray, List.map_cons, List.map_nil]); first | done | rfl | (simp only [List.length_drop, List.length_take]; rfl)) ?_; (with_reducible refine (forebearlaw04_awake.calls k  true _ A2.out).mono ?_); rintro e w5 ⟨rfl, hb⟩; refine ⟨_, rfl, ?_⟩; have n0_ := Aside0.mk (below_step (by repeat (first | (with_reducible first | exact HB.out | apply below_alloc | apply pw_below_drewN | apply below_drew1) | exact HB.out)) hb); clear HB; have HB := n0_; clear n0_; (try clear hb); (try clear hb2); (try clear hk); (try clear hi)))
      go_ret
      exact ⟨by first | rfl | (simp [errW_none, errW_some] <;> rfl) | (simp [*, errW_none, errW_some] <;> rfl), by repeat (first | (with_reducible first | exact HB.out | apply below_alloc | apply pw_below_drewN | apply below_drew1) | exact HB.out)⟩
    · rw [if_neg c4] at H
      have c4b0 : decide (300 < (l0.length : Int)) = false := decide_eq_false c4
      have c4b1 : decide (300 < l0.length) = false := decide_eq_false (by omega)
      clear c4
      have H' := Aside0.mk H
      clear H
      go_enter Try.func8, Try.ntmps8
      go_wp2_with (first | ((with_reducible refine gate_callee (f := 23) rfl ?_); refine goesL_ (some 8) rfl rfl Try.func23 (by kernel_rfl) rfl #[] rfl (by (try simp only [List.map_toArray, List.map_cons, List.map_nil]); first | done | rfl | (simp only [List.length_drop, List.length_take]; rfl)) ?_; (with_reducible refine (forebearlaw04_awake.calls k  true _ A2.out).mono ?_); rintro e w6 ⟨rfl, hb⟩; refine ⟨_, rfl, ?_⟩; have n0_ := Aside0.mk (below_step (by repeat (first | (with_reducible first | exact HB.out | apply below_alloc | apply pw_below_drewN | apply below_drew1) | exact HB.out)) hb); clear HB; have HB := n0_; clear n0_; (try clear hb); (try clear hb2); (try clear hk); (try clear hi)))
      go_loopg [3, 4, 5] k (fun kq v3 v4 v5 w' => ∃ (x3_1 : ByteArray) (x4_1 : Bool) (x5_1 : Int), v3 = .string x3_1 ∧ v4 = .bool x4_1 ∧ v5 = .int .i64 x5_1 ∧ Aside0 (forebearlaw04_TextJoins.l0 kq l0 x3_1 x4_1 x5_1 = some r) ∧ Aside0 (kq ≤ k) ∧ Aside0 (Below w.heap.size w w'))
      case atStart => exact ⟨((⟨#[]⟩ : ByteArray)), (true), (0), (by first | rfl | (simp; done) | (simp [*]; done)), (by first | rfl | (simp; done) | (simp [*]; done)), (by first | rfl | (simp; done) | (simp [*]; done)), H', ⟨Nat.le_refl _⟩, ⟨by repeat (first | (with_reducible first | exact HB.out | apply below_alloc | apply pw_below_drewN | apply below_drew1) | exact HB.out)⟩⟩
      case round =>
        clear H'
        try clear c2
        try clear p2
        try clear c3
        try clear c4
        try clear c4b0
        try clear c4b1
        obtain ⟨x3_1, x4_1, x5_1, rfl, rfl, rfl, HA, HK1, HB⟩ := hrel
        cases gk with
        | zero => exact absurd HA.out (by simp [forebearlaw04_TextJoins.l0])
        | succ k1 =>
          have H := HA.out
          clear HA
          simp only [forebearlaw04_TextJoins.l0] at H
          by_cases c7 : x5_1 < (l0.length : Int)
          · rw [if_pos c7] at H
            have c7b0 : decide (x5_1 < (l0.length : Int)) = true := decide_eq_true c7
            clear c7
            by_cases c8 : 0 ≤ x5_1
            · rw [if_pos c8] at H
              have c8b0 : decide (0 ≤ x5_1) = true := decide_eq_true c8
              clear c8
              by_cases c9 : ((rdOf ByteArray.empty l0 x5_1).size : Int) > (wrap64 (100000 - (x3_1.size : Int)))
              · rw [if_pos c9] at H
                have c9b0 : decide ((wrap64 (100000 - (x3_1.size : Int))) < ((rdOf ByteArray.empty l0 x5_1).size : Int)) = true := decide_eq_true c9
                clear c9
                obtain rfl := Option.some.inj H
                have p185 : 0 ≤ (x5_1 : Int) := of_decide_eq_true (by first | (with_reducible assumption) | assumption)
                have q185 : x5_1 < (l0.length : Int) := of_decide_eq_true (by first | (with_reducible assumption) | assumption)
                obtain ⟨ad185, e185, hx185_0⟩ := Kd.at_string HR0.out x5_1 p185 q185
                cases e185
                try replace hx185_0 := (HB.out.cell (World.block_lt_of_cell? w _ hx185_0)).trans hx185_0
                replace p185 := eq_true p185
                replace q185 := eq_true q185
                go_wp2
                go_ret
                exact ⟨by first | rfl | (simp [errW_none, errW_some] <;> rfl) | (simp [*, errW_none, errW_some] <;> rfl), by repeat (first | (with_reducible first | exact HB.out | apply below_alloc | apply pw_below_drewN | apply below_drew1) | exact HB.out)⟩
              · rw [if_neg c9] at H
                have c9b0 : decide ((wrap64 (100000 - (x3_1.size : Int))) < ((rdOf ByteArray.empty l0 x5_1).size : Int)) = false := decide_eq_false c9
                clear c9
                by_cases c10 : x3_1.size + (rdOf ByteArray.empty l0 x5_1).size ≤ 9223372036854775807
                · rw [if_pos c10] at H
                  have c10b0 := eq_true c10
                  have c10b1 : decide (x3_1.size + (rdOf ByteArray.empty l0 x5_1).size ≤ 9223372036854775807) = true := decide_eq_true c10
                  try have c10b2 : (9223372036854775807 < x3_1.size + (rdOf ByteArray.empty l0 x5_1).size) = False := eq_false (Nat.not_lt.2 c10)
                  have c9b0n : decide ((100000 - (x3_1.size : Int)) < ((rdOf ByteArray.empty l0 x5_1).size : Int)) = false := by
                    have e_ : wrap64 (100000 - (x3_1.size : Int)) = 100000 - (x3_1.size : Int) := by
                      have h_ := c10
                      unfold wrap64; omega
                    rw [← e_]; exact c9b0
                  have HC11 := Aside0.mk H
                  clear H
                  have p185 : 0 ≤ (x5_1 : Int) := of_decide_eq_true (by first | (with_reducible assumption) | assumption)
                  have q185 : x5_1 < (l0.length : Int) := of_decide_eq_true (by first | (with_reducible assumption) | assumption)
                  obtain ⟨ad185, e185, hx185_0⟩ := Kd.at_string HR0.out x5_1 p185 q185
                  cases e185
                  try replace hx185_0 := (HB.out.cell (World.block_lt_of_cell? w _ hx185_0)).trans hx185_0
                  replace p185 := eq_true p185
                  replace q185 := eq_true q185
                  have p186 : 0 ≤ (x5_1 : Int) := of_decide_eq_true (by first | (with_reducible assumption) | assumption)
                  have q186 : x5_1 < (l0.length : Int) := of_decide_eq_true (by first | (with_reducible assumption) | assumption)
                  obtain ⟨ad186, e186, hx186_0⟩ := Kd.at_string HR0.out x5_1 p186 q186
                  obtain rfl : ad185 = ad186 := (by injection e186)
                  try replace hx186_0 := (HB.out.cell (World.block_lt_of_cell? w _ hx186_0)).trans hx186_0
                  replace p186 := eq_true p186
                  replace q186 := eq_true q186
                  have p187 : 0 ≤ (x5_1 : Int) := of_decide_eq_true (by first | (with_reducible assumption) | assumption)
                  have q187 : x5_1 < (l0.length : Int) := of_decide_eq_true (by first | (with_reducible assumption) | assumption)
                  obtain ⟨ad187, e187, hx187_0⟩ := Kd.at_string HR0.out x5_1 p187 q187
                  obtain rfl : ad185 = ad187 := (by injection e187)
                  try replace hx187_0 := (HB.out.cell (World.block_lt_of_cell? w _ hx187_0)).trans hx187_0
                  replace p187 := eq_true p187
                  replace q187 := eq_true q187
                  go_upto_region 14 with (fail)
                  go_cut [4] (fun v4 wc => ∃ (kq : Nat) (x4_10 : Bool), v4 = .bool x4_10 ∧ Aside0 (forebearlaw04_TextJoins.j1 kq l0 (x3_1 ++ (rdOf ByteArray.empty l0 x5_1)) x4_10 x5_1 ((rdOf ByteArray.empty l0 x5_1).size : Int) = some r) ∧ Aside0 (kq ≤ k1) ∧ Aside0 (Below w.heap.size w wc))
                  case first =>
                    have H := HC11.out
                    clear HC11
                    by_cases c12 : x4_1 = true
                    · subst c12
                      have H1 : (if ((rdOf ByteArray.empty l0 x5_1).size : Int) > 0 then (if 0 ≤ (wrap64 (((rdOf ByteArray.empty l0 x5_1).size : Int) - 1)) then (if (wrap64 (((rdOf ByteArray.empty l0 x5_1).size : Int) - 1)) < ((rdOf ByteArray.empty l0 x5_1).size : Int) then (forebearlaw04_TextJoins.j1 k1 l0 (x3_1 ++ (rdOf ByteArray.empty l0 x5_1)) ((bt (rdOf ByteArray.empty l0 x5_1) (wrap64 (((rdOf ByteArray.empty l0 x5_1).size : Int) - 1))) == 10) x5_1 ((rdOf ByteArray.empty l0 x5_1).size : Int)) else (none)) else (none)) else (forebearlaw04_TextJoins.j1 k1 l0 (x3_1 ++ (rdOf ByteArray.empty l0 x5_1)) false x5_1 ((rdOf ByteArray.empty l0 x5_1).size : Int))) = some r := by rw [if_pos rfl] at H; exact H
                      clear H
                      have H := H1
                      clear H1
                      by_cases c13 : ((rdOf ByteArray.empty l0 x5_1).size : Int) > 0
                      · rw [if_pos c13] at H
                        have c13b0 : decide (0 < ((rdOf ByteArray.empty l0 x5_1).size : Int)) = true := decide_eq_true c13
                        have c13b1 : decide (0 < (rdOf ByteArray.empty l0 x5_1).size) = true := decide_eq_true (by omega)
                        clear c13
                        (first | rw [c13b0] | (simp only [i64_w, i32_w]; rw [c13b0]) | skip)
                        obtain ⟨ji14, hji14⟩ : ∃ j_ : Int, (wrap64 (((rdOf ByteArray.empty l0 x5_1).size : Int) - 1)) = j_ := ⟨_, rfl⟩
                        replace H : (if 0 ≤ (ji14) then (if (ji14) < ((rdOf ByteArray.empty l0 x5_1).size : Int) then (forebearlaw04_TextJoins.j1 k1 l0 (x3_1 ++ (rdOf ByteArray.empty l0 x5_1)) ((bt (rdOf ByteArray.empty l0 x5_1) (ji14)) == 10) x5_1 ((rdOf ByteArray.empty l0 x5_1).size : Int)) else (none)) else (none)) = some r := by first | (rw [hji14] at H; exact H) | (simp only [hji14] at H ⊢; exact H)
                        have hji14w : (IntKind.i64.wrap (((rdOf ByteArray.empty l0 x5_1).size : Int) - 1)) = ji14 := (i64_w _).trans hji14
                        by_cases c15 : 0 ≤ (ji14)
                        · rw [if_pos c15] at H
                          have c15b0 : decide (0 ≤ (ji14)) = true := decide_eq_true c15
                          clear c15
                          by_cases c16 : (ji14) < ((rdOf ByteArray.empty l0 x5_1).size : Int)
                          · rw [if_pos c16] at H
                            have c16b0 : decide ((ji14) < ((rdOf ByteArray.empty l0 x5_1).size : Int)) = true := decide_eq_true c16
                            clear c16
                            have H' := Aside0.mk H
                            clear H
                            have p188 : 0 ≤ (x5_1 : Int) := of_decide_eq_true (by first | (with_reducible assumption) | assumption)
                            have q188 : x5_1 < (l0.length : Int) := of_decide_eq_true (by first | (with_reducible assumption) | assumption)
                            obtain ⟨ad188, e188, hx188_0⟩ := Kd.at_string HR0.out x5_1 p188 q188
                            obtain rfl : ad185 = ad188 := (by injection e188)
                            try replace hx188_0 := (HB.out.cell (World.block_lt_of_cell? w _ hx188_0)).trans hx188_0
                            replace p188 := eq_true p188
                            replace q188 := eq_true q188
                            have p17 : 0 ≤ ((ji14) : Int) := of_decide_eq_true (by first | (with_reducible assumption) | assumption)
                            have q17 : (ji14) < ((rdOf ByteArray.empty l0 x5_1).size : Int) := of_decide_eq_true (by first | (with_reducible assumption) | assumption)
                            have hx17 := bt_at (rdOf ByteArray.empty l0 x5_1) (ji14)
                            replace p17 := eq_true p17
                            replace q17 := eq_true q17
                            go_wp2
                            go_meet
                            case rel => exact ⟨_, (((bt (rdOf ByteArray.empty l0 x5_1) (ji14)) == 10)), (by first | rfl | (simp; done) | (simp only [← hji14] <;> (first | rfl | simp)) | (simp [*]; done)), H', ⟨by have := HK1.out; first | omega | exact Nat.le_refl _⟩, ⟨by repeat (first | (with_reducible first | exact HB.out | apply below_alloc | apply pw_below_drewN | apply below_drew1) | exact HB.out)⟩⟩
                          · rw [if_neg c16] at H
                            exact absurd H (by simp)
                        · rw [if_neg c15] at H
                          exact absurd H (by simp)
                      · rw [if_neg c13] at H
                        have c13b0 : decide (0 < ((rdOf ByteArray.empty l0 x5_1).size : Int)) = false := decide_eq_false c13
                        have c13b1 : decide (0 < (rdOf ByteArray.empty l0 x5_1).size) = false := decide_eq_false (by omega)
                        clear c13
                        (first | rw [c13b0] | (simp only [i64_w, i32_w]; rw [c13b0]) | skip)
                        have H' := Aside0.mk H
                        clear H
                        go_wp2
                        go_meet
                        case rel => exact ⟨_, (false), (by first | rfl | (simp; done) | (simp [*]; done)), H', ⟨by have := HK1.out; first | omega | exact Nat.le_refl _⟩, ⟨by repeat (first | (with_reducible first | exact HB.out | apply below_alloc | apply pw_below_drewN | apply below_drew1) | exact HB.out)⟩⟩
                    · replace c12 := Bool.eq_false_iff.mpr c12
                      subst c12
                      have H1 : (forebearlaw04_TextJoins.j1 k1 l0 (x3_1 ++ (rdOf ByteArray.empty l0 x5_1)) false x5_1 ((rdOf ByteArray.empty l0 x5_1).size : Int)) = some r := by rw [if_neg (show ¬ (false = true) by decide)] at H; exact H
                      clear H
                      have H := H1
                      clear H1
                      have H' := Aside0.mk H
                      clear H
                      go_wp2
                      go_meet
                      case rel => exact ⟨_, (false), (by first | rfl | (simp; done) | (simp [*]; done)), H', ⟨by have := HK1.out; first | omega | exact Nat.le_refl _⟩, ⟨by repeat (first | (with_reducible first | exact HB.out | apply below_alloc | apply pw_below_drewN | apply below_drew1) | exact HB.out)⟩⟩
                  case rest =>
                    clear HC11
                    try clear c1
                    try clear p1
                    try clear q1
                    try clear hx1
                    try clear c2
                    try clear p2
                    try clear c3
                    try clear c4
                    try clear c4b0
                    try clear c4b1
                    try clear p6
                    try clear c7
                    try clear c7b0
                    try clear c8
                    try clear c8b0
                    try clear c9
                    try clear c9b0
                    try clear c10
                    try clear c10b0
                    try clear c10b1
                    try clear c10b2
                    try clear c12
                    try clear c13
                    try clear c13b0
                    try clear c13b1
                    try clear c15
                    try clear c15b0
                    try clear c16
                    try clear c16b0
                    try clear p17
                    try clear q17
                    try clear hx17
                    try clear hx185_0
                    try clear hx186_0
                    try clear hx187_0
                    try clear hx188_0
                    try clear p17
                    try clear p185
                    try clear p186
                    try clear p187
                    try clear p188
                    try clear p2
                    try clear q17
                    try clear q185
                    try clear q186
                    try clear q187
                    try clear q188
                    obtain ⟨kq, x4_10, rfl, HA, HJ10, HB⟩ := hcut
                    cases kq with
                    | zero => exact absurd HA.out (by simp [forebearlaw04_TextJoins.j1])
                    | succ kj10 =>
                      have H := HA.out
                      clear HA
                      simp only [forebearlaw04_TextJoins.j1] at H
                      have H' := Aside0.mk H
                      clear H
                      go_wp2
                      go_loopg [4, 7] kj10 (fun kq v4 v7 w' => ∃ (x4_3 : Bool) (x7_3 : Int), v4 = .bool x4_3 ∧ v7 = .int .i64 x7_3 ∧ Aside0 (forebearlaw04_TextJoins.l1 kq l0 (x3_1 ++ (rdOf ByteArray.empty l0 x5_1)) x4_3 x5_1 ((rdOf ByteArray.empty l0 x5_1).size : Int) x7_3 = some r) ∧ Aside0 (kq ≤ kj10) ∧ Aside0 (Below w.heap.size w w'))
                      case atStart => exact ⟨(x4_10), (0), (by first | rfl | (simp; done) | (simp [*]; done)), (by first | rfl | (simp; done) | (simp [*]; done)), H', ⟨Nat.le_refl _⟩, ⟨by repeat (first | (with_reducible first | exact HB.out | apply below_alloc | apply pw_below_drewN | apply below_drew1) | exact HB.out)⟩⟩
                      case round =>
                        clear H'
                        try clear c1
                        try clear p1
                        try clear q1
                        try clear hx1
                        try clear c2
                        try clear p2
                        try clear c3
                        try clear c4
                        try clear c4b0
                        try clear c4b1
                        try clear p6
                        try clear c7
                        try clear c7b0
                        try clear c8
                        try clear c8b0
                        try clear c9
                        try clear c9b0
                        try clear c10
                        try clear c10b0
                        try clear c10b1
                        try clear c10b2
                        try clear c12
                        try clear c13
                        try clear c13b0
                        try clear c13b1
                        try clear c15
                        try clear c15b0
                        try clear c16
                        try clear c16b0
                        try clear p17
                        try clear q17
                        try clear hx17
                        try clear hx185_0
                        try clear hx186_0
                        try clear hx187_0
                        try clear hx188_0
                        try clear p1
                        try clear p17
                        try clear p185
                        try clear p186
                        try clear p187
                        try clear p188
                        try clear p2
                        try clear p6
                        try clear q1
                        try clear q17
                        try clear q185
                        try clear q186
                        try clear q187
                        try clear q188
                        obtain ⟨x4_3, x7_3, rfl, rfl, HA, HK3, HB⟩ := hrel
                        cases gk with
                        | zero => exact absurd HA.out (by simp [forebearlaw04_TextJoins.l1])
                        | succ k3 =>
                          have H := HA.out
                          clear HA
                          simp only [forebearlaw04_TextJoins.l1] at H
                          by_cases c18 : x7_3 < (wrap64 (((rdOf ByteArray.empty l0 x5_1).size : Int) - 1))
                          · rw [if_pos c18] at H
                            have c18b0 : decide (x7_3 < (wrap64 (((rdOf ByteArray.empty l0 x5_1).size : Int) - 1))) = true := decide_eq_true c18
                            clear c18
                            by_cases c19 : x4_3 = true
                            · subst c19
                              have H1 : (if 0 ≤ x5_1 then (if x5_1 < (l0.length : Int) then (if 0 ≤ x7_3 then (if x7_3 < ((rdOf ByteArray.empty l0 x5_1).size : Int) then (forebearlaw04_TextJoins.l1 k3 l0 (x3_1 ++ (rdOf ByteArray.empty l0 x5_1)) ((bt (rdOf ByteArray.empty l0 x5_1) x7_3) != 10) x5_1 ((rdOf ByteArray.empty l0 x5_1).size : Int) (wrap64 (x7_3 + 1))) else (none)) else (none)) else (none)) else (none)) = some r := by rw [if_pos rfl] at H; exact H
                              clear H
                              have H := H1
                              clear H1
                              by_cases c20 : 0 ≤ x5_1
                              · rw [if_pos c20] at H
                                have c20b0 : decide (0 ≤ x5_1) = true := decide_eq_true c20
                                clear c20
                                by_cases c21 : x5_1 < (l0.length : Int)
                                · rw [if_pos c21] at H
                                  have c21b0 : decide (x5_1 < (l0.length : Int)) = true := decide_eq_true c21
                                  clear c21
                                  by_cases c22 : 0 ≤ x7_3
                                  · rw [if_pos c22] at H
                                    have c22b0 : decide (0 ≤ x7_3) = true := decide_eq_true c22
                                    clear c22
                                    by_cases c23 : x7_3 < ((rdOf ByteArray.empty l0 x5_1).size : Int)
                                    · rw [if_pos c23] at H
                                      have c23b0 : decide (x7_3 < ((rdOf ByteArray.empty l0 x5_1).size : Int)) = true := decide_eq_true c23
                                      clear c23
                                      have H' := Aside0.mk H
                                      clear H
                                      have p189 : 0 ≤ (x5_1 : Int) := of_decide_eq_true (by first | (with_reducible assumption) | assumption)
                                      have q189 : x5_1 < (l0.length : Int) := of_decide_eq_true (by first | (with_reducible assumption) | assumption)
                                      obtain ⟨ad189, e189, hx189_0⟩ := Kd.at_string HR0.out x5_1 p189 q189
                                      obtain rfl : ad185 = ad189 := (by injection e189)
                                      try replace hx189_0 := (HB.out.cell (World.block_lt_of_cell? w _ hx189_0)).trans hx189_0
                                      replace p189 := eq_true p189
                                      replace q189 := eq_true q189
                                      have p24 : 0 ≤ (x7_3 : Int) := of_decide_eq_true (by first | (with_reducible assumption) | assumption)
                                      have q24 : x7_3 < ((rdOf ByteArray.empty l0 x5_1).size : Int) := of_decide_eq_true (by first | (with_reducible assumption) | assumption)
                                      have hx24 := bt_at (rdOf ByteArray.empty l0 x5_1) x7_3
                                      replace p24 := eq_true p24
                                      replace q24 := eq_true q24
                                      go_wp2
                                      go_roundg k3
                                      case measure => have := HK1.out; have := HJ10.out; have := HK3.out; omega
                                      case rel => exact ⟨(((bt (rdOf ByteArray.empty l0 x5_1) x7_3) != 10)), (wrap64 (x7_3 + 1)), (by first | rfl | (simp; done) | (simp [*]; done)), (by first | rfl | (simp; done) | (simp [*]; done)), H', ⟨by have := HK1.out; have := HJ10.out; have := HK3.out; omega⟩, ⟨by repeat (first | (with_reducible first | exact HB.out | apply below_alloc | apply pw_below_drewN | apply below_drew1) | exact HB.out)⟩⟩
                                    · rw [if_neg c23] at H
                                      exact absurd H (by simp)
                                  · rw [if_neg c22] at H
                                    exact absurd H (by simp)
                                · rw [if_neg c21] at H
                                  exact absurd H (by simp)
                              · rw [if_neg c20] at H
                                exact absurd H (by simp)
                            · replace c19 := Bool.eq_false_iff.mpr c19
                              subst c19
                              have H1 : (forebearlaw04_TextJoins.l1 k3 l0 (x3_1 ++ (rdOf ByteArray.empty l0 x5_1)) false x5_1 ((rdOf ByteArray.empty l0 x5_1).size : Int) (wrap64 (x7_3 + 1))) = some r := by rw [if_neg (show ¬ (false = true) by decide)] at H; exact H
                              clear H
                              have H := H1
                              clear H1
                              have H' := Aside0.mk H
                              clear H
                              go_wp2
                              go_roundg k3
                              case measure => have := HK1.out; have := HJ10.out; have := HK3.out; omega
                              case rel => exact ⟨(false), (wrap64 (x7_3 + 1)), (by first | rfl | (simp; done) | (simp [*]; done)), (by first | rfl | (simp; done) | (simp [*]; done)), H', ⟨by have := HK1.out; have := HJ10.out; have := HK3.out; omega⟩, ⟨by repeat (first | (with_reducible first | exact HB.out | apply below_alloc | apply pw_below_drewN | apply below_drew1) | exact HB.out)⟩⟩
                          · rw [if_neg c18] at H
                            have c18b0 : decide (x7_3 < (wrap64 (((rdOf ByteArray.empty l0 x5_1).size : Int) - 1))) = false := decide_eq_false c18
                            clear c18
                            have H' := Aside0.mk H
                            clear H
                            go_wp2
                            go_roundg k3
                            case measure => have := HK1.out; have := HJ10.out; have := HK3.out; omega
                            case rel => exact ⟨((x3_1 ++ (rdOf ByteArray.empty l0 x5_1))), (x4_3), (wrap64 (x5_1 + 1)), (by first | rfl | (simp; done) | (simp [*]; done)), (by first | rfl | (simp; done) | (simp [*]; done)), (by first | rfl | (simp; done) | (simp [*]; done)), H', ⟨by have := HK1.out; have := HJ10.out; have := HK3.out; omega⟩, ⟨by repeat (first | (with_reducible first | exact HB.out | apply below_alloc | apply pw_below_drewN | apply below_drew1) | exact HB.out)⟩⟩
                · rw [if_neg c10] at H
                  exact absurd H (by simp)
            · rw [if_neg c8] at H
              exact absurd H (by simp)
          · rw [if_neg c7] at H
            have c7b0 : decide (x5_1 < (l0.length : Int)) = false := decide_eq_false c7
            clear c7
            replace H := Option.bind_eq_some_iff.mp H
            obtain ⟨t180, A250, H⟩ := H
            replace H : (if t180.toList = x3_1.toList then (if x4_1 = true then ((text_Lines.f k1 x3_1).bind fun t181 => ((forebearref03_Same.f k1 t181 l0).bind fun t184 => (some t184))) else (some true)) else (some false)) = some r := H
            have A25 := Aside0.mk A250
            clear A250
            by_cases c26 : t180.toList = x3_1.toList
            · rw [if_pos c26] at H
              have c26b0 : (t180.toList == x3_1.toList) = true := beq_iff_eq.mpr c26
              have c26b1 : (t180.toList != x3_1.toList) = false := bne_eq_false_iff_eq.mpr c26
              clear c26
              by_cases c27 : x4_1 = true
              · subst c27
                have H1 : ((text_Lines.f k1 x3_1).bind fun t181 => ((forebearref03_Same.f k1 t181 l0).bind fun t184 => (some t184))) = some r := by rw [if_pos rfl] at H; exact H
                clear H
                have H := H1
                clear H1
                replace H := Option.bind_eq_some_iff.mp H
                obtain ⟨t181, A280, H⟩ := H
                replace H : ((forebearref03_Same.f k1 t181 l0).bind fun t184 => (some t184)) = some r := H
                have A28 := Aside0.mk A280
                clear A280
                replace H := Option.bind_eq_some_iff.mp H
                obtain ⟨t184, A290, H⟩ := H
                replace H : (some t184) = some r := H
                have A29 := Aside0.mk A290
                clear A290
                obtain rfl := Option.some.inj H
                go_wp2_with (first | ((with_reducible refine gate_callee (f := 26) rfl ?_); refine goesL_ (some 71) rfl rfl Try.func26 (by kernel_rfl) rfl #[.slice A0 l0.length c0] rfl (by (try simp only [List.map_toArray, List.map_cons, List.map_nil]); first | done | rfl | (simp only [List.length_drop, List.length_take]; rfl)) ?_; (with_reducible refine (text_Join.calls _ _ l0 t180 _ ?side1 ?side2 A25.out).mono ?_); (case side1 => repeat (first | exact (Kd.C_below HR0.out HB.out) | (with_reducible refine Kd.C_alloc ?_ _) | (with_reducible refine Kd.C_drewN ?_ _) | (with_reducible refine Kd.C_drew ?_))); (case side2 => exact HC0.out); rintro e w30 ⟨rfl, hb⟩; refine ⟨_, rfl, ?_⟩; have n0_ := Aside0.mk (below_step (by repeat (first | (with_reducible first | exact HB.out | apply below_alloc | apply pw_below_drewN | apply below_drew1) | exact HB.out)) hb); clear HB; have HB := n0_; clear n0_; (try clear hb); (try clear hb2); (try clear hk); (try clear hi)) | (go_at_call 24; (with_reducible refine (text_Lines.calls k1 x3_1 t181 _ A28.out).mono ?_); rintro e w31 ⟨v182, rfl, ho0, hb⟩; have n0_ := Aside0.mk (Kd.R_lower ho0 (below_size (by repeat (first | (with_reducible first | exact HB.out | apply below_alloc | apply pw_below_drewN | apply below_drew1) | exact HB.out)))); have n1_ := Aside0.mk (below_step (by repeat (first | (with_reducible first | exact HB.out | apply below_alloc | apply pw_below_drewN | apply below_drew1) | exact HB.out)) hb); clear HB; have HO183 := n0_; have HB := n1_; clear n0_ n1_; (try clear hb); (try clear hb2); (try clear hk); (try clear hi); (try clear ho0); obtain ⟨Ao32, co32, eo32⟩ := Kd.R_slice HO183.out; subst eo32) | (go_at_call 18; (with_reducible refine (forebearref03_Same.calls k1 _ _ t181 _ _ l0 t184 _ ?side1 ?side2 ?side3 ?side4 A29.out).mono ?_); (case side1 => repeat (first | exact (Kd.R_reads' HO183.out).2.2 | (with_reducible refine Kd.C_alloc ?_ _) | (with_reducible refine Kd.C_drewN ?_ _) | (with_reducible refine Kd.C_drew ?_))); (case side2 => exact (Kd.R_reads' HO183.out).2.1); (case side3 => repeat (first | exact (Kd.C_below HR0.out HB.out) | (with_reducible refine Kd.C_alloc ?_ _) | (with_reducible refine Kd.C_drewN ?_ _) | (with_reducible refine Kd.C_drew ?_))); (case side4 => exact HC0.out); rintro e w' ⟨rfl, ⟨nd, rfl⟩⟩))
                go_ret
                exact ⟨by first | rfl | (simp [errW_none, errW_some] <;> rfl) | (simp [*, errW_none, errW_some] <;> rfl), by repeat (first | (with_reducible first | exact HB.out | apply below_alloc | apply pw_below_drewN | apply below_drew1) | exact HB.out)⟩
              · replace c27 := Bool.eq_false_iff.mpr c27
                subst c27
                have H1 : (some true) = some r := by rw [if_neg (show ¬ (false = true) by decide)] at H; exact H
                clear H
                have H := H1
                clear H1
                obtain rfl := Option.some.inj H
                go_wp2_with (first | ((with_reducible refine gate_callee (f := 26) rfl ?_); refine goesL_ (some 71) rfl rfl Try.func26 (by kernel_rfl) rfl #[.slice A0 l0.length c0] rfl (by (try simp only [List.map_toArray, List.map_cons, List.map_nil]); first | done | rfl | (simp only [List.length_drop, List.length_take]; rfl)) ?_; (with_reducible refine (text_Join.calls _ _ l0 t180 _ ?side1 ?side2 A25.out).mono ?_); (case side1 => repeat (first | exact (Kd.C_below HR0.out HB.out) | (with_reducible refine Kd.C_alloc ?_ _) | (with_reducible refine Kd.C_drewN ?_ _) | (with_reducible refine Kd.C_drew ?_))); (case side2 => exact HC0.out); rintro e w33 ⟨rfl, hb⟩; refine ⟨_, rfl, ?_⟩; have n0_ := Aside0.mk (below_step (by repeat (first | (with_reducible first | exact HB.out | apply below_alloc | apply pw_below_drewN | apply below_drew1) | exact HB.out)) hb); clear HB; have HB := n0_; clear n0_; (try clear hb); (try clear hb2); (try clear hk); (try clear hi)))
                go_ret
                exact ⟨by first | rfl | (simp [errW_none, errW_some] <;> rfl) | (simp [*, errW_none, errW_some] <;> rfl), by repeat (first | (with_reducible first | exact HB.out | apply below_alloc | apply pw_below_drewN | apply below_drew1) | exact HB.out)⟩
            · rw [if_neg c26] at H
              have c26b0 : (t180.toList == x3_1.toList) = false := beq_eq_false_iff_ne.mpr c26
              have c26b1 : (t180.toList != x3_1.toList) = true := bne_iff_ne.mpr c26
              obtain rfl := Option.some.inj H
              go_wp2_with (first | ((with_reducible refine gate_callee (f := 26) rfl ?_); refine goesL_ (some 71) rfl rfl Try.func26 (by kernel_rfl) rfl #[.slice A0 l0.length c0] rfl (by (try simp only [List.map_toArray, List.map_cons, List.map_nil]); first | done | rfl | (simp only [List.length_drop, List.length_take]; rfl)) ?_; (with_reducible refine (text_Join.calls _ _ l0 t180 _ ?side1 ?side2 A25.out).mono ?_); (case side1 => repeat (first | exact (Kd.C_below HR0.out HB.out) | (with_reducible refine Kd.C_alloc ?_ _) | (with_reducible refine Kd.C_drewN ?_ _) | (with_reducible refine Kd.C_drew ?_))); (case side2 => exact HC0.out); rintro e w34 ⟨rfl, hb⟩; refine ⟨_, rfl, ?_⟩; have n0_ := Aside0.mk (below_step (by repeat (first | (with_reducible first | exact HB.out | apply below_alloc | apply pw_below_drewN | apply below_drew1) | exact HB.out)) hb); clear HB; have HB := n0_; clear n0_; (try clear hb); (try clear hb2); (try clear hk); (try clear hi)))
              go_ret
              exact ⟨by first | rfl | (simp [errW_none, errW_some] <;> rfl) | (simp [*, errW_none, errW_some] <;> rfl), by repeat (first | (with_reducible first | exact HB.out | apply below_alloc | apply pw_below_drewN | apply below_drew1) | exact HB.out)⟩
  · replace c3 := Bool.eq_false_iff.mpr c3
    subst c3
    have H1 : (some false) = some r := by rw [if_neg (show ¬ (false = true) by decide)] at H; exact H
    clear H
    have H := H1
    clear H1
    obtain rfl := Option.some.inj H
    go_enter Try.func8, Try.ntmps8
    go_wp2_with (first | ((with_reducible refine gate_callee (f := 23) rfl ?_); refine goesL_ (some 8) rfl rfl Try.func23 (by kernel_rfl) rfl #[] rfl (by (try simp only [List.map_toArray, List.map_cons, List.map_nil]); first | done | rfl | (simp only [List.length_drop, List.length_take]; rfl)) ?_; (with_reducible refine (forebearlaw04_awake.calls k  false _ A2.out).mono ?_); rintro e w35 ⟨rfl, hb⟩; refine ⟨_, rfl, ?_⟩; have n0_ := Aside0.mk (below_step (by repeat (first | (with_reducible first | exact HB.out | apply below_alloc | apply pw_below_drewN | apply below_drew1) | exact HB.out)) hb); clear HB; have HB := n0_; clear n0_; (try clear hb); (try clear hb2); (try clear hk); (try clear hi)))
    go_ret
    exact ⟨by first | rfl | (simp [errW_none, errW_some] <;> rfl) | (simp [*, errW_none, errW_some] <;> rfl), by repeat (first | (with_reducible first | exact HB.out | apply below_alloc | apply pw_below_drewN | apply below_drew1) | exact HB.out)⟩

/-- THE ONE PURE STATEMENT of forebearlaw04_TextJoins. -/
def forebearlaw04_TextJoins.Pure : Prop := ∀ (l0 : List ByteArray), (l0.length * 16 ≤ 140737488351232 ∧ l0.length ≤ 9223372036854775807 ∧ ∀ y_l0 ∈ l0, y_l0.size ≤ 140737488351232) → ∃ k, forebearlaw04_TextJoins.f k l0 = some true
theorem forebearlaw04_TextJoins.walk (P : forebearlaw04_TextJoins.Pure) (l0 : List ByteArray) (A0 : Option Addr) (c0 : Nat) (w : World) (g0 : (l0.length * 16 ≤ 140737488351232 ∧ l0.length ≤ 9223372036854775807 ∧ ∀ y_l0 ∈ l0, y_l0.size ≤ 140737488351232)) (hc0 : l0.length ≤ c0) (hr0 : Kd.C Kd.string w A0 l0.length l0) :
    Calls Try.prog 8 #[.slice A0 l0.length c0] w fun e w' => e = .returned (.bool true) ∧ Below w.heap.size w w' := by
  obtain ⟨k, h⟩ := P l0 g0
  refine (forebearlaw04_TextJoins.calls k _ _ l0 true w hr0 hc0 h).mono ?_
  rintro e w' ⟨rfl, hd⟩
  exact ⟨rfl, hd⟩

end Go.Proofs.Ytlbkobiphfaafaa.MT

/- Laid by this claim's own program (myprint) out of the translation: functions that the laws of the group D reach, each as a plain function, with the proof that the Go code comes to it. No condition. -/
import Derived.Test.YthigjlahanejjaaMDx0
namespace Go.Proofs.Ythigjlahanejjaa.MD
open Go.Proofs.Ythigjlahanejjaa.Opening
open Go.RowKit Go.Proofs.YthigjlahanejjaaW.PrintWords Go.Proofs.YthigjlahanejjaaW.PrintLast Go.Proofs.YthigjlahanejjaaW.PrintMore
attribute [local go_sem] max2_int min2_int max_two min_two max_three min_three max_four min_four   -- for this text's walks alone
set_option linter.unusedVariables false
set_option linter.unusedSimpArgs false

/-! ### forebearref05_Apply: function 20 -/
mutual
def forebearref05_Apply.l0 : Nat → List ByteArray → List (S47) → List ByteArray → Int → Int → Option (List ByteArray × Int)
 | 0, _, _, _, _, _ => none
 | k + 1, x0, x1, x6, x7, x8 => if x8 < (x1.length : Int) then (if 0 ≤ x8 then (if ((rd_T47 x1 x8).f0) < x7 then (forebearref05_Apply.j1 k x0 x1 x6 x7 x8 true ((rd_T47 x1 x8).f0) ((rd_T47 x1 x8).f1) ((rd_T47 x1 x8).f2) ((rd_T47 x1 x8).f3)) else (if ((rd_T47 x1 x8).f0) > (x0.length : Int) then (forebearref05_Apply.j1 k x0 x1 x6 x7 x8 true ((rd_T47 x1 x8).f0) ((rd_T47 x1 x8).f1) ((rd_T47 x1 x8).f2) ((rd_T47 x1 x8).f3)) else (forebearref05_Apply.j1 k x0 x1 x6 x7 x8 (decide ((((rd_T47 x1 x8).f2).length : Int) > (x0.length : Int))) ((rd_T47 x1 x8).f0) ((rd_T47 x1 x8).f1) ((rd_T47 x1 x8).f2) ((rd_T47 x1 x8).f3)))) else (none)) else (forebearref05_Apply.l3 k x0 x6 x7)
def forebearref05_Apply.j1 : Nat → List ByteArray → List (S47) → List ByteArray → Int → Int → Bool → Int → Int → List ByteArray → List ByteArray → Option (List ByteArray × Int)
 | 0, _, _, _, _, _, _, _, _, _, _ => none
 | k + 1, x0, x1, x6, x7, x8, x44, x372000, x372001, x372002, x372003 => if x44 = true then (some (([] : List ByteArray), 9)) else (forebearref05_Apply.l1 k x0 x1 x6 x8 x7 x372000 x372001 x372002 x372003)
def forebearref05_Apply.l1 : Nat → List ByteArray → List (S47) → List ByteArray → Int → Int → Int → Int → List ByteArray → List ByteArray → Option (List ByteArray × Int)
 | 0, _, _, _, _, _, _, _, _, _ => none
 | k + 1, x0, x1, x6, x8, x10, x372000, x372001, x372002, x372003 => if x10 < x372000 then (if 0 ≤ x10 then (if x10 < (x0.length : Int) then (if x6.length < 8796093022208 then (forebearref05_Apply.l1 k x0 x1 (x6 ++ [rdOf ByteArray.empty x0 x10]) x8 (wrap64 (x10 + 1)) x372000 x372001 x372002 x372003) else (none)) else (none)) else (none)) else (if x372001 = (x6.length : Int) then (forebearref05_Apply.l2 k x0 x1 x6 x8 0 x372000 x372001 x372002 x372003) else (some (([] : List ByteArray), 9)))
def forebearref05_Apply.l2 : Nat → List ByteArray → List (S47) → List ByteArray → Int → Int → Int → Int → List ByteArray → List ByteArray → Option (List ByteArray × Int)
 | 0, _, _, _, _, _, _, _, _, _ => none
 | k + 1, x0, x1, x6, x8, x11, x372000, x372001, x372002, x372003 => if x11 < (x372002.length : Int) then (if (wrap64 (x372000 + x11)) ≥ (x0.length : Int) then (some (([] : List ByteArray), 9)) else (if 0 ≤ (wrap64 (x372000 + x11)) then (if (wrap64 (x372000 + x11)) < (x0.length : Int) then (if 0 ≤ x11 then (if (rdOf ByteArray.empty x0 (wrap64 (x372000 + x11))).toList = (rdOf ByteArray.empty x372002 x11).toList then (forebearref05_Apply.l2 k x0 x1 x6 x8 (wrap64 (x11 + 1)) x372000 x372001 x372002 x372003) else (some (([] : List ByteArray), 9))) else (none)) else (none)) else (none))) else (if x6.length + x372003.length < 8796093022208 then (forebearref05_Apply.l0 k x0 x1 (x6 ++ x372003) (wrap64 (x372000 + (x372002.length : Int))) (wrap64 (x8 + 1))) else (none))
def forebearref05_Apply.l3 : Nat → List ByteArray → List ByteArray → Int → Option (List ByteArray × Int)
 | 0, _, _, _ => none
 | k + 1, x0, x6, x12 => if x12 < (x0.length : Int) then (if 0 ≤ x12 then (if x6.length < 8796093022208 then (forebearref05_Apply.l3 k x0 (x6 ++ [rdOf ByteArray.empty x0 x12]) (wrap64 (x12 + 1))) else (none)) else (none)) else (if (x6.length : Int) > 256 then (some (([] : List ByteArray), 4)) else (some (x6, 0)))
end
def forebearref05_Apply.f (k : Nat) (l0 : List ByteArray) (l1 : List (S47)) : Option (List ByteArray × Int) := if (l0.length : Int) > 256 then (some (([] : List ByteArray), 4)) else (forebearref05_Apply.l0 k l0 l1 ([] : List ByteArray) 0 0)
theorem forebearref05_Apply.mono_l : ∀ k, (∀ y0 y1 y2 y3 y4, LeO (forebearref05_Apply.l0 k y0 y1 y2 y3 y4) (forebearref05_Apply.l0 (k + 1) y0 y1 y2 y3 y4)) ∧ (∀ y0 y1 y2 y3 y4 y5 y6 y7 y8 y9, LeO (forebearref05_Apply.j1 k y0 y1 y2 y3 y4 y5 y6 y7 y8 y9) (forebearref05_Apply.j1 (k + 1) y0 y1 y2 y3 y4 y5 y6 y7 y8 y9)) ∧ (∀ y0 y1 y2 y3 y4 y5 y6 y7 y8, LeO (forebearref05_Apply.l1 k y0 y1 y2 y3 y4 y5 y6 y7 y8) (forebearref05_Apply.l1 (k + 1) y0 y1 y2 y3 y4 y5 y6 y7 y8)) ∧ (∀ y0 y1 y2 y3 y4 y5 y6 y7 y8, LeO (forebearref05_Apply.l2 k y0 y1 y2 y3 y4 y5 y6 y7 y8) (forebearref05_Apply.l2 (k + 1) y0 y1 y2 y3 y4 y5 y6 y7 y8)) ∧ (∀ y0 y1 y2, LeO (forebearref05_Apply.l3 k y0 y1 y2) (forebearref05_Apply.l3 (k + 1) y0 y1 y2))
 | 0 => ⟨fun _ _ _ _ _ r h => by simp [forebearref05_Apply.l0] at h, fun _ _ _ _ _ _ _ _ _ _ r h => by simp [forebearref05_Apply.j1] at h, fun _ _ _ _ _ _ _ _ _ r h => by simp [forebearref05_Apply.l1] at h, fun _ _ _ _ _ _ _ _ _ r h => by simp [forebearref05_Apply.l2] at h, fun _ _ _ r h => by simp [forebearref05_Apply.l3] at h⟩
 | k + 1 => by
  obtain ⟨ih0, ih1, ih2, ih3, ih4⟩ := forebearref05_Apply.mono_l k
  refine ⟨?_, ?_, ?_, ?_, ?_⟩
  ·intro y0 y1 y2 y3 y4
   unfold forebearref05_Apply.l0
   repeat' first
   | (with_reducible exact ih0 _ _ _ _ _)
   | (with_reducible exact ih1 _ _ _ _ _ _ _ _ _ _)
   | (with_reducible exact ih2 _ _ _ _ _ _ _ _ _)
   | (with_reducible exact ih3 _ _ _ _ _ _ _ _ _)
   | (with_reducible exact ih4 _ _ _)
   | (with_reducible exact LeO.refl _)
   | (with_reducible exact LeO.none _)
   | (with_reducible refine LeO.ite ?_ ?_)
   | (with_reducible refine LeO.bind ?_ (fun _ => ?_))
   | exact ih0 _ _ _ _ _
   | exact ih1 _ _ _ _ _ _ _ _ _ _
   | exact ih2 _ _ _ _ _ _ _ _ _
   | exact ih3 _ _ _ _ _ _ _ _ _
   | exact ih4 _ _ _
   | exact LeO.none _
   | refine LeO.ite ?_ ?_
   | refine LeO.bind ?_ (fun _ => ?_)
  ·intro y0 y1 y2 y3 y4 y5 y6 y7 y8 y9
   unfold forebearref05_Apply.j1
   repeat' first
   | (with_reducible exact ih0 _ _ _ _ _)
   | (with_reducible exact ih1 _ _ _ _ _ _ _ _ _ _)
   | (with_reducible exact ih2 _ _ _ _ _ _ _ _ _)
   | (with_reducible exact ih3 _ _ _ _ _ _ _ _ _)
   | (with_reducible exact ih4 _ _ _)
   | (with_reducible exact LeO.refl _)
   | (with_reducible exact LeO.none _)
   | (with_reducible refine LeO.ite ?_ ?_)
   | (with_reducible refine LeO.bind ?_ (fun _ => ?_))
   | exact ih0 _ _ _ _ _
   | exact ih1 _ _ _ _ _ _ _ _ _ _
   | exact ih2 _ _ _ _ _ _ _ _ _
   | exact ih3 _ _ _ _ _ _ _ _ _
   | exact ih4 _ _ _
   | exact LeO.none _
   | refine LeO.ite ?_ ?_
   | refine LeO.bind ?_ (fun _ => ?_)
  ·intro y0 y1 y2 y3 y4 y5 y6 y7 y8
   unfold forebearref05_Apply.l1
   repeat' first
   | (with_reducible exact ih0 _ _ _ _ _)
   | (with_reducible exact ih1 _ _ _ _ _ _ _ _ _ _)
   | (with_reducible exact ih2 _ _ _ _ _ _ _ _ _)
   | (with_reducible exact ih3 _ _ _ _ _ _ _ _ _)
   | (with_reducible exact ih4 _ _ _)
   | (with_reducible exact LeO.refl _)
   | (with_reducible exact LeO.none _)
   | (with_reducible refine LeO.ite ?_ ?_)
   | (with_reducible refine LeO.bind ?_ (fun _ => ?_))
   | exact ih0 _ _ _ _ _
   | exact ih1 _ _ _ _ _ _ _ _ _ _
   | exact ih2 _ _ _ _ _ _ _ _ _
   | exact ih3 _ _ _ _ _ _ _ _ _
   | exact ih4 _ _ _
   | exact LeO.none _
   | refine LeO.ite ?_ ?_
   | refine LeO.bind ?_ (fun _ => ?_)
  ·intro y0 y1 y2 y3 y4 y5 y6 y7 y8
   unfold forebearref05_Apply.l2
   repeat' first
   | (with_reducible exact ih0 _ _ _ _ _)
   | (with_reducible exact ih1 _ _ _ _ _ _ _ _ _ _)
   | (with_reducible exact ih2 _ _ _ _ _ _ _ _ _)
   | (with_reducible exact ih3 _ _ _ _ _ _ _ _ _)
   | (with_reducible exact ih4 _ _ _)
   | (with_reducible exact LeO.refl _)
   | (with_reducible exact LeO.none _)
   | (with_reducible refine LeO.ite ?_ ?_)
   | (with_reducible refine LeO.bind ?_ (fun _ => ?_))
   | exact ih0 _ _ _ _ _
   | exact ih1 _ _ _ _ _ _ _ _ _ _
   | exact ih2 _ _ _ _ _ _ _ _ _
   | exact ih3 _ _ _ _ _ _ _ _ _
   | exact ih4 _ _ _
   | exact LeO.none _
   | refine LeO.ite ?_ ?_
   | refine LeO.bind ?_ (fun _ => ?_)
  ·intro y0 y1 y2
   unfold forebearref05_Apply.l3
   repeat' first
   | (with_reducible exact ih0 _ _ _ _ _)
   | (with_reducible exact ih1 _ _ _ _ _ _ _ _ _ _)
   | (with_reducible exact ih2 _ _ _ _ _ _ _ _ _)
   | (with_reducible exact ih3 _ _ _ _ _ _ _ _ _)
   | (with_reducible exact ih4 _ _ _)
   | (with_reducible exact LeO.refl _)
   | (with_reducible exact LeO.none _)
   | (with_reducible refine LeO.ite ?_ ?_)
   | (with_reducible refine LeO.bind ?_ (fun _ => ?_))
   | exact ih0 _ _ _ _ _
   | exact ih1 _ _ _ _ _ _ _ _ _ _
   | exact ih2 _ _ _ _ _ _ _ _ _
   | exact ih3 _ _ _ _ _ _ _ _ _
   | exact ih4 _ _ _
   | exact LeO.none _
   | refine LeO.ite ?_ ?_
   | refine LeO.bind ?_ (fun _ => ?_)
theorem forebearref05_Apply.mono : ∀ a0 a1 k, LeO (forebearref05_Apply.f k a0 a1) (forebearref05_Apply.f (k + 1) a0 a1) := by
 intro a0 a1 k
 obtain ⟨ih0, ih1, ih2, ih3, ih4⟩ := forebearref05_Apply.mono_l k
 unfold forebearref05_Apply.f
 repeat' first
   | (with_reducible exact ih0 _ _ _ _ _)
   | (with_reducible exact ih1 _ _ _ _ _ _ _ _ _ _)
   | (with_reducible exact ih2 _ _ _ _ _ _ _ _ _)
   | (with_reducible exact ih3 _ _ _ _ _ _ _ _ _)
   | (with_reducible exact ih4 _ _ _)
   | (with_reducible exact LeO.refl _)
   | (with_reducible exact LeO.none _)
   | (with_reducible refine LeO.ite ?_ ?_)
   | (with_reducible refine LeO.bind ?_ (fun _ => ?_))
   | exact ih0 _ _ _ _ _
   | exact ih1 _ _ _ _ _ _ _ _ _ _
   | exact ih2 _ _ _ _ _ _ _ _ _
   | exact ih3 _ _ _ _ _ _ _ _ _
   | exact ih4 _ _ _
   | exact LeO.none _
   | refine LeO.ite ?_ ?_
   | refine LeO.bind ?_ (fun _ => ?_)
set_option maxHeartbeats 8000000 in
set_option maxRecDepth 100000 in
theorem forebearref05_Apply.calls (k : Nat) (A0 : Option Addr) (c0 : Nat) (l0 : List ByteArray) (A1 : Option Addr) (c1 : Nat) (l1 : List (S47)) (r1 : List ByteArray) (r2 : Int) (w : World) (hr0 : Kd.C Kd.string w A0 l0.length l0) (hc0 : l0.length ≤ c0) (hr1 : Kd.C k47 w A1 l1.length l1) (hc1 : l1.length ≤ c1) (h : forebearref05_Apply.f k l0 l1 = some (r1, r2)) :
  Calls Try.prog 20 #[.slice A0 l0.length c0, .slice A1 l1.length c1] w fun e w' => ∃ v0_ : Value, e = .returned (.tuple #[v0_, .int .i64 r2]) ∧ Kd.R Kd.string 9 w' w.heap.size (fun _ => True) v0_ r1 ∧ Below w.heap.size w w' := by
 have hu47 := Try.underlying47
 have HR0 := Aside0.mk hr0
 have HC0 := Aside0.mk hc0
 clear hr0 hc0
 have HR1 := Aside0.mk hr1
 have HC1 := Aside0.mk hc1
 clear hr1 hc1
 have HB := Aside0.mk (Below.refl w.heap.size w)
 have H : (if (l0.length : Int) > 256 then (some (([] : List ByteArray), 4)) else (forebearref05_Apply.l0 k l0 l1 ([] : List ByteArray) 0 0)) = some (r1, r2) := h
 clear h
 by_cases c3 : (l0.length : Int) > 256
 ·rw [if_pos c3] at H
  have c3b0 : decide (256 < (l0.length : Int)) = true := decide_eq_true c3
  have c3b1 : decide (256 < l0.length) = true := decide_eq_true (by omega)
  clear c3
  simp only [Option.some.injEq, Prod.mk.injEq] at H
  obtain ⟨rfl, rfl⟩ := H
  go_enter Try.func20, Try.ntmps20
  go_wp2
  repeat (go_quiet (fail); try go_wp2)
  go_ret2
  exact ⟨_, by first | rfl | (simp [errW_none, errW_some] <;> rfl) | (simp [*, errW_none, errW_some] <;> rfl), by first | exact Kd.R_nil _ _ _ _ _ | exact Kd.N_nil _ _ _ _ _ | exact Kd.V_nil _ _ _ _ _ | exact Kd.Q_nil _ _ _ _ _ | exact Kd.S_nil _ _ _ _ _, by repeat (first | (with_reducible first | exact HB.out | apply below_alloc | apply pw_below_drewN | apply below_drew1) | exact HB.out)⟩
 ·rw [if_neg c3] at H
  have c3b0 : decide (256 < (l0.length : Int)) = false := decide_eq_false c3
  have c3b1 : decide (256 < l0.length) = false := decide_eq_false (by omega)
  clear c3
  have H' := Aside0.mk H
  clear H
  go_enter Try.func20, Try.ntmps20
  go_wp2
  repeat (go_quiet (fail); try go_wp2)
  go_loopg [6, 7, 8] k (fun kq v6 v7 v8 w' => ∃ (x6_1 : List ByteArray) (x7_1 : Int) (x8_1 : Int), v7 = .int .i64 x7_1 ∧ v8 = .int .i64 x8_1 ∧ Aside0 (forebearref05_Apply.l0 kq l0 l1 x6_1 x7_1 x8_1 = some (r1, r2)) ∧ Aside0 (kq ≤ k) ∧ Aside0 (Kd.R Kd.string 9 w' w.heap.size (fun _ => True) v6 x6_1) ∧ Aside0 (Below w.heap.size w w'))
  case atStart => exact ⟨(([] : List ByteArray)), (0), (0), (by first | rfl | (simp; done) | (simp [*]; done)), (by first | rfl | (simp; done) | (simp [*]; done)), H', ⟨Nat.le_refl _⟩, ⟨by first | exact Kd.R_nil _ _ _ _ _ | exact Kd.N_nil _ _ _ _ _ | exact Kd.V_nil _ _ _ _ _ | exact Kd.Q_nil _ _ _ _ _ | exact Kd.S_nil _ _ _ _ _⟩, ⟨by repeat (first | (with_reducible first | exact HB.out | apply below_alloc | apply pw_below_drewN | apply below_drew1) | exact HB.out)⟩⟩
  case round =>
   clear H'
   try clear c1
   try clear c2
   try clear p2
   try clear c3
   try clear c3b0
   try clear c3b1
   obtain ⟨x6_1, x7_1, x8_1, rfl, rfl, HA, HK1, HO_6, HB⟩ := hrel
   cases gk with
   | zero => exact absurd HA.out (by simp [forebearref05_Apply.l0])
   | succ k1 =>
    have H := HA.out
    clear HA
    simp only [forebearref05_Apply.l0] at H
    by_cases c4 : x8_1 < (l1.length : Int)
    ·rw [if_pos c4] at H
     have c4b0 : decide (x8_1 < (l1.length : Int)) = true := decide_eq_true c4
     clear c4
     by_cases c5 : 0 ≤ x8_1
     ·rw [if_pos c5] at H
      have c5b0 : decide (0 ≤ x8_1) = true := decide_eq_true c5
      clear c5
      have HC6 := Aside0.mk H
      clear H
      have p370 : 0 ≤ (x8_1 : Int) := of_decide_eq_true (by first | (with_reducible assumption) | assumption)
      have q370 : x8_1 < (l1.length : Int) := of_decide_eq_true (by first | (with_reducible assumption) | assumption)
      obtain ⟨ad370, A370_2, c370_2, A370_3, c370_3, e370, hx370_0, hx370_1, hx370_2, hx370_3, hl370_2, hi370_2, hl370_3, hi370_3⟩ := at_T47 HR1.out x8_1 p370 q370
      cases e370
      try replace hx370_0 := (HB.out.cell (World.block_lt_of_cell? w _ hx370_0)).trans hx370_0
      try replace hx370_1 := (HB.out.cell (World.block_lt_of_cell? w _ hx370_1)).trans hx370_1
      try replace hx370_2 := (HB.out.cell (World.block_lt_of_cell? w _ hx370_2)).trans hx370_2
      try replace hx370_3 := (HB.out.cell (World.block_lt_of_cell? w _ hx370_3)).trans hx370_3
      have HR370_2 := Aside0.mk hi370_2
      have HC370_2 := Aside0.mk hl370_2
      clear hi370_2 hl370_2
      have HR370_3 := Aside0.mk hi370_3
      have HC370_3 := Aside0.mk hl370_3
      clear hi370_3 hl370_3
      replace p370 := eq_true p370
      replace q370 := eq_true q370
      go_upto_region 9 with (first | ((with_reducible refine gate_dst (N := 9) rfl ?_); (try (refine gate_guard (by rfl) ?_; dsimp only)); refine box_event ?hg (N := 9) ?hd (cs := #[.int .i64 0, .int .i64 0, .slice none 0 0, .slice none 0 0]) (t := 47) ?hr ?_; (case hd => rfl); (case hg => rfl); (case hr => first | (go_simp; done) | (go_simp; rfl)); intro gb371 hg w7 hbox hb; have n0_ := Aside0.mk (Kd.R_below (by (with_reducible repeat (first | apply Kd.R_alloc | apply Kd.R_drewN | apply Kd.R_drew)); exact HO_6.out) hb); have n1_ := Aside0.mk (below_step (by repeat (first | (with_reducible first | exact HB.out | apply below_alloc | apply pw_below_drewN | apply below_drew1) | exact HB.out)) hb); have n2_ := Aside0.mk (hbox); have n3_ := Aside0.mk ((by rw [hg]; exact (below_size (by repeat (first | (with_reducible first | exact HB.out | apply below_alloc | apply pw_below_drewN | apply below_drew1) | exact HB.out))) : w.heap.size ≤ gb371)); have n4_ := Aside0.mk ((by rw [hg]; exact (below_size (by repeat (first | (with_reducible first | exact HB.out | apply below_alloc | apply pw_below_drewN | apply below_drew1) | exact HB.out))) : w.heap.size ≤ gb371)); clear HO_6; clear HB; have HO_6 := n0_; have HB := n1_; have BK371 := n2_; have GW371 := n3_; have GE371 := n4_; clear n0_ n1_ n2_ n3_ n4_; clear hb hbox hg; have hcz8_0 : w7.cell? ⟨gb371, 0, none⟩ = some (.int .i64 0) := (blk_cell BK371.out 0).trans rfl; have hcz8_1 : w7.cell? ⟨gb371, 1, none⟩ = some (.int .i64 0) := (blk_cell BK371.out 1).trans rfl; have hcz8_2 : w7.cell? ⟨gb371, 2, none⟩ = some (.slice none 0 0) := (blk_cell BK371.out 2).trans rfl; have hcz8_3 : w7.cell? ⟨gb371, 3, none⟩ = some (.slice none 0 0) := (blk_cell BK371.out 3).trans rfl; have hfz8_0 := blk_frozen BK371.out 0; have hfz8_1 := blk_frozen BK371.out 1; have hfz8_2 := blk_frozen BK371.out 2; have hfz8_3 := blk_frozen BK371.out 3))
      repeat (go_quiet (first | ((with_reducible refine gate_dst (N := 9) rfl ?_); (try (refine gate_guard (by rfl) ?_; dsimp only)); refine box_event ?hg (N := 9) ?hd (cs := #[.int .i64 0, .int .i64 0, .slice none 0 0, .slice none 0 0]) (t := 47) ?hr ?_; (case hd => rfl); (case hg => rfl); (case hr => first | (go_simp; done) | (go_simp; rfl)); intro gb371 hg w7 hbox hb; have n0_ := Aside0.mk (Kd.R_below (by (with_reducible repeat (first | apply Kd.R_alloc | apply Kd.R_drewN | apply Kd.R_drew)); exact HO_6.out) hb); have n1_ := Aside0.mk (below_step (by repeat (first | (with_reducible first | exact HB.out | apply below_alloc | apply pw_below_drewN | apply below_drew1) | exact HB.out)) hb); have n2_ := Aside0.mk (hbox); have n3_ := Aside0.mk ((by rw [hg]; exact (below_size (by repeat (first | (with_reducible first | exact HB.out | apply below_alloc | apply pw_below_drewN | apply below_drew1) | exact HB.out))) : w.heap.size ≤ gb371)); have n4_ := Aside0.mk ((by rw [hg]; exact (below_size (by repeat (first | (with_reducible first | exact HB.out | apply below_alloc | apply pw_below_drewN | apply below_drew1) | exact HB.out))) : w.heap.size ≤ gb371)); clear HO_6; clear HB; have HO_6 := n0_; have HB := n1_; have BK371 := n2_; have GW371 := n3_; have GE371 := n4_; clear n0_ n1_ n2_ n3_ n4_; clear hb hbox hg; have hcz8_0 : w7.cell? ⟨gb371, 0, none⟩ = some (.int .i64 0) := (blk_cell BK371.out 0).trans rfl; have hcz8_1 : w7.cell? ⟨gb371, 1, none⟩ = some (.int .i64 0) := (blk_cell BK371.out 1).trans rfl; have hcz8_2 : w7.cell? ⟨gb371, 2, none⟩ = some (.slice none 0 0) := (blk_cell BK371.out 2).trans rfl; have hcz8_3 : w7.cell? ⟨gb371, 3, none⟩ = some (.slice none 0 0) := (blk_cell BK371.out 3).trans rfl; have hfz8_0 := blk_frozen BK371.out 0; have hfz8_1 := blk_frozen BK371.out 1; have hfz8_2 := blk_frozen BK371.out 2; have hfz8_3 := blk_frozen BK371.out 3)); go_upto_region 9 with (first | ((with_reducible refine gate_dst (N := 9) rfl ?_); (try (refine gate_guard (by rfl) ?_; dsimp only)); refine box_event ?hg (N := 9) ?hd (cs := #[.int .i64 0, .int .i64 0, .slice none 0 0, .slice none 0 0]) (t := 47) ?hr ?_; (case hd => rfl); (case hg => rfl); (case hr => first | (go_simp; done) | (go_simp; rfl)); intro gb371 hg w7 hbox hb; have n0_ := Aside0.mk (Kd.R_below (by (with_reducible repeat (first | apply Kd.R_alloc | apply Kd.R_drewN | apply Kd.R_drew)); exact HO_6.out) hb); have n1_ := Aside0.mk (below_step (by repeat (first | (with_reducible first | exact HB.out | apply below_alloc | apply pw_below_drewN | apply below_drew1) | exact HB.out)) hb); have n2_ := Aside0.mk (hbox); have n3_ := Aside0.mk ((by rw [hg]; exact (below_size (by repeat (first | (with_reducible first | exact HB.out | apply below_alloc | apply pw_below_drewN | apply below_drew1) | exact HB.out))) : w.heap.size ≤ gb371)); have n4_ := Aside0.mk ((by rw [hg]; exact (below_size (by repeat (first | (with_reducible first | exact HB.out | apply below_alloc | apply pw_below_drewN | apply below_drew1) | exact HB.out))) : w.heap.size ≤ gb371)); clear HO_6; clear HB; have HO_6 := n0_; have HB := n1_; have BK371 := n2_; have GW371 := n3_; have GE371 := n4_; clear n0_ n1_ n2_ n3_ n4_; clear hb hbox hg; have hcz8_0 : w7.cell? ⟨gb371, 0, none⟩ = some (.int .i64 0) := (blk_cell BK371.out 0).trans rfl; have hcz8_1 : w7.cell? ⟨gb371, 1, none⟩ = some (.int .i64 0) := (blk_cell BK371.out 1).trans rfl; have hcz8_2 : w7.cell? ⟨gb371, 2, none⟩ = some (.slice none 0 0) := (blk_cell BK371.out 2).trans rfl; have hcz8_3 : w7.cell? ⟨gb371, 3, none⟩ = some (.slice none 0 0) := (blk_cell BK371.out 3).trans rfl; have hfz8_0 := blk_frozen BK371.out 0; have hfz8_1 := blk_frozen BK371.out 1; have hfz8_2 := blk_frozen BK371.out 2; have hfz8_3 := blk_frozen BK371.out 3)))
      (try simp only [Act.put, List.setIfInBounds_toArray, List.set_cons_zero, List.set_cons_succ])
      go_cut [44] (fun v44 wc => ∃ (kq : Nat) (x44_5 : Bool), v44 = .bool x44_5 ∧ Aside0 (forebearref05_Apply.j1 kq l0 l1 x6_1 x7_1 x8_1 x44_5 ((rd_T47 l1 x8_1).f0) ((rd_T47 l1 x8_1).f1) ((rd_T47 l1 x8_1).f2) ((rd_T47 l1 x8_1).f3) = some (r1, r2)) ∧ Aside0 (kq ≤ k1) ∧ Aside0 (Kd.R Kd.string 9 wc w.heap.size (fun _ => True) u6 x6_1) ∧ Aside0 (wc.heap[gb371]? = some (.cells #[.int .i64 ((rd_T47 l1 x8_1).f0), .int .i64 ((rd_T47 l1 x8_1).f1), (.slice A370_2 ((rd_T47 l1 x8_1).f2).length c370_2), (.slice A370_3 ((rd_T47 l1 x8_1).f3).length c370_3)] 47 (0, 0))) ∧ Aside0 (Below w.heap.size w wc))
      case first =>
       have H := HC6.out
       clear HC6
       by_cases c9 : ((rd_T47 l1 x8_1).f0) < x7_1
       ·rw [if_pos c9] at H
        have c9b0 : decide (((rd_T47 l1 x8_1).f0) < x7_1) = true := decide_eq_true c9
        clear c9
        (first | rw [c9b0] | (simp only [i64_w, i32_w]; rw [c9b0]) | skip)
        have H' := Aside0.mk H
        clear H
        have hcz10_0 : w7.cell? ⟨gb371, 0, none⟩ = some (.int .i64 0) := (blk_cell BK371.out 0).trans rfl
        have hcz10_1 : w7.cell? ⟨gb371, 1, none⟩ = some (.int .i64 0) := (blk_cell BK371.out 1).trans rfl
        have hcz10_2 : w7.cell? ⟨gb371, 2, none⟩ = some (.slice none 0 0) := (blk_cell BK371.out 2).trans rfl
        have hcz10_3 : w7.cell? ⟨gb371, 3, none⟩ = some (.slice none 0 0) := (blk_cell BK371.out 3).trans rfl
        have hfz10_0 := blk_frozen BK371.out 0
        have hfz10_1 := blk_frozen BK371.out 1
        have hfz10_2 := blk_frozen BK371.out 2
        have hfz10_3 := blk_frozen BK371.out 3
        go_wp2
        repeat (go_quiet (fail); try go_wp2)
        go_meet
        case rel => exact ⟨_, (true), (by first | rfl | (simp; done) | (simp [*]; done)), H', ⟨by have := HK1.out; first | omega | exact Nat.le_refl _⟩, ⟨by (with_reducible repeat (first | apply Kd.R_alloc | apply Kd.R_drewN | apply Kd.R_drew)); exact Kd.R_mono (Kd.R_far (p := ⟨gb371, 3, none⟩) (Kd.R_far (p := ⟨gb371, 2, none⟩) (Kd.R_far (p := ⟨gb371, 1, none⟩) (Kd.R_far (p := ⟨gb371, 0, none⟩) (Kd.R_types HO_6.out BK371.out (by decide)) (fun _ hk => hk.2) (.int .i64 ((rd_T47 l1 x8_1).f0))) (fun _ hk => hk.2) (.int .i64 ((rd_T47 l1 x8_1).f1))) (fun _ hk => hk.2) (.slice A370_2 ((rd_T47 l1 x8_1).f2).length c370_2)) (fun _ hk => hk.2) (.slice A370_3 ((rd_T47 l1 x8_1).f3).length c370_3)) (fun _ hk => trivial)⟩, ⟨by (with_reducible repeat (first | refine blk_drewN ?_ _ | refine blk_drew ?_ | refine blk_alloc ?_ _)); refine blk_put (cs := #[.int .i64 ((rd_T47 l1 x8_1).f0), .int .i64 ((rd_T47 l1 x8_1).f1), .slice A370_2 ((rd_T47 l1 x8_1).f2).length c370_2, .slice none 0 0]) ?_ 3 _ rfl; (with_reducible repeat (first | refine blk_drewN ?_ _ | refine blk_drew ?_ | refine blk_alloc ?_ _)); refine blk_put (cs := #[.int .i64 ((rd_T47 l1 x8_1).f0), .int .i64 ((rd_T47 l1 x8_1).f1), .slice none 0 0, .slice none 0 0]) ?_ 2 _ rfl; (with_reducible repeat (first | refine blk_drewN ?_ _ | refine blk_drew ?_ | refine blk_alloc ?_ _)); refine blk_put (cs := #[.int .i64 ((rd_T47 l1 x8_1).f0), .int .i64 0, .slice none 0 0, .slice none 0 0]) ?_ 1 _ rfl; (with_reducible repeat (first | refine blk_drewN ?_ _ | refine blk_drew ?_ | refine blk_alloc ?_ _)); refine blk_put (cs := #[.int .i64 0, .int .i64 0, .slice none 0 0, .slice none 0 0]) ?_ 0 _ rfl; (with_reducible repeat (first | refine blk_drewN ?_ _ | refine blk_drew ?_ | refine blk_alloc ?_ _)); exact BK371.out⟩, ⟨by repeat (first | (with_reducible first | exact HB.out | apply below_alloc | apply pw_below_drewN | apply below_drew1 | refine below_set ?_ GE371.out) | exact HB.out)⟩⟩
       ·rw [if_neg c9] at H
        have c9b0 : decide (((rd_T47 l1 x8_1).f0) < x7_1) = false := decide_eq_false c9
        clear c9
        (first | rw [c9b0] | (simp only [i64_w, i32_w]; rw [c9b0]) | skip)
        by_cases c11 : ((rd_T47 l1 x8_1).f0) > (l0.length : Int)
        ·rw [if_pos c11] at H
         have c11b0 : decide ((l0.length : Int) < ((rd_T47 l1 x8_1).f0)) = true := decide_eq_true c11
         clear c11
         have H' := Aside0.mk H
         clear H
         have hcz12_0 : w7.cell? ⟨gb371, 0, none⟩ = some (.int .i64 0) := (blk_cell BK371.out 0).trans rfl
         have hcz12_1 : w7.cell? ⟨gb371, 1, none⟩ = some (.int .i64 0) := (blk_cell BK371.out 1).trans rfl
         have hcz12_2 : w7.cell? ⟨gb371, 2, none⟩ = some (.slice none 0 0) := (blk_cell BK371.out 2).trans rfl
         have hcz12_3 : w7.cell? ⟨gb371, 3, none⟩ = some (.slice none 0 0) := (blk_cell BK371.out 3).trans rfl
         have hfz12_0 := blk_frozen BK371.out 0
         have hfz12_1 := blk_frozen BK371.out 1
         have hfz12_2 := blk_frozen BK371.out 2
         have hfz12_3 := blk_frozen BK371.out 3
         go_wp2
         repeat (go_quiet (fail); try go_wp2)
         go_meet
         case rel => exact ⟨_, (true), (by first | rfl | (simp; done) | (simp [*]; done)), H', ⟨by have := HK1.out; first | omega | exact Nat.le_refl _⟩, ⟨by (with_reducible repeat (first | apply Kd.R_alloc | apply Kd.R_drewN | apply Kd.R_drew)); exact Kd.R_mono (Kd.R_far (p := ⟨gb371, 3, none⟩) (Kd.R_far (p := ⟨gb371, 2, none⟩) (Kd.R_far (p := ⟨gb371, 1, none⟩) (Kd.R_far (p := ⟨gb371, 0, none⟩) (Kd.R_types HO_6.out BK371.out (by decide)) (fun _ hk => hk.2) (.int .i64 ((rd_T47 l1 x8_1).f0))) (fun _ hk => hk.2) (.int .i64 ((rd_T47 l1 x8_1).f1))) (fun _ hk => hk.2) (.slice A370_2 ((rd_T47 l1 x8_1).f2).length c370_2)) (fun _ hk => hk.2) (.slice A370_3 ((rd_T47 l1 x8_1).f3).length c370_3)) (fun _ hk => trivial)⟩, ⟨by (with_reducible repeat (first | refine blk_drewN ?_ _ | refine blk_drew ?_ | refine blk_alloc ?_ _)); refine blk_put (cs := #[.int .i64 ((rd_T47 l1 x8_1).f0), .int .i64 ((rd_T47 l1 x8_1).f1), .slice A370_2 ((rd_T47 l1 x8_1).f2).length c370_2, .slice none 0 0]) ?_ 3 _ rfl; (with_reducible repeat (first | refine blk_drewN ?_ _ | refine blk_drew ?_ | refine blk_alloc ?_ _)); refine blk_put (cs := #[.int .i64 ((rd_T47 l1 x8_1).f0), .int .i64 ((rd_T47 l1 x8_1).f1), .slice none 0 0, .slice none 0 0]) ?_ 2 _ rfl; (with_reducible repeat (first | refine blk_drewN ?_ _ | refine blk_drew ?_ | refine blk_alloc ?_ _)); refine blk_put (cs := #[.int .i64 ((rd_T47 l1 x8_1).f0), .int .i64 0, .slice none 0 0, .slice none 0 0]) ?_ 1 _ rfl; (with_reducible repeat (first | refine blk_drewN ?_ _ | refine blk_drew ?_ | refine blk_alloc ?_ _)); refine blk_put (cs := #[.int .i64 0, .int .i64 0, .slice none 0 0, .slice none 0 0]) ?_ 0 _ rfl; (with_reducible repeat (first | refine blk_drewN ?_ _ | refine blk_drew ?_ | refine blk_alloc ?_ _)); exact BK371.out⟩, ⟨by repeat (first | (with_reducible first | exact HB.out | apply below_alloc | apply pw_below_drewN | apply below_drew1 | refine below_set ?_ GE371.out) | exact HB.out)⟩⟩
        ·rw [if_neg c11] at H
         have c11b0 : decide ((l0.length : Int) < ((rd_T47 l1 x8_1).f0)) = false := decide_eq_false c11
         clear c11
         have H' := Aside0.mk H
         clear H
         have hcz13_0 : w7.cell? ⟨gb371, 0, none⟩ = some (.int .i64 0) := (blk_cell BK371.out 0).trans rfl
         have hcz13_1 : w7.cell? ⟨gb371, 1, none⟩ = some (.int .i64 0) := (blk_cell BK371.out 1).trans rfl
         have hcz13_2 : w7.cell? ⟨gb371, 2, none⟩ = some (.slice none 0 0) := (blk_cell BK371.out 2).trans rfl
         have hcz13_3 : w7.cell? ⟨gb371, 3, none⟩ = some (.slice none 0 0) := (blk_cell BK371.out 3).trans rfl
         have hfz13_0 := blk_frozen BK371.out 0
         have hfz13_1 := blk_frozen BK371.out 1
         have hfz13_2 := blk_frozen BK371.out 2
         have hfz13_3 := blk_frozen BK371.out 3
         go_wp2
         repeat (go_quiet (fail); try go_wp2)
         go_meet
         case rel => exact ⟨_, (decide ((((rd_T47 l1 x8_1).f2).length : Int) > (l0.length : Int))), (by first | rfl | (simp; done) | (simp [*]; done)), H', ⟨by have := HK1.out; first | omega | exact Nat.le_refl _⟩, ⟨by (with_reducible repeat (first | apply Kd.R_alloc | apply Kd.R_drewN | apply Kd.R_drew)); exact Kd.R_mono (Kd.R_far (p := ⟨gb371, 3, none⟩) (Kd.R_far (p := ⟨gb371, 2, none⟩) (Kd.R_far (p := ⟨gb371, 1, none⟩) (Kd.R_far (p := ⟨gb371, 0, none⟩) (Kd.R_types HO_6.out BK371.out (by decide)) (fun _ hk => hk.2) (.int .i64 ((rd_T47 l1 x8_1).f0))) (fun _ hk => hk.2) (.int .i64 ((rd_T47 l1 x8_1).f1))) (fun _ hk => hk.2) (.slice A370_2 ((rd_T47 l1 x8_1).f2).length c370_2)) (fun _ hk => hk.2) (.slice A370_3 ((rd_T47 l1 x8_1).f3).length c370_3)) (fun _ hk => trivial)⟩, ⟨by (with_reducible repeat (first | refine blk_drewN ?_ _ | refine blk_drew ?_ | refine blk_alloc ?_ _)); refine blk_put (cs := #[.int .i64 ((rd_T47 l1 x8_1).f0), .int .i64 ((rd_T47 l1 x8_1).f1), .slice A370_2 ((rd_T47 l1 x8_1).f2).length c370_2, .slice none 0 0]) ?_ 3 _ rfl; (with_reducible repeat (first | refine blk_drewN ?_ _ | refine blk_drew ?_ | refine blk_alloc ?_ _)); refine blk_put (cs := #[.int .i64 ((rd_T47 l1 x8_1).f0), .int .i64 ((rd_T47 l1 x8_1).f1), .slice none 0 0, .slice none 0 0]) ?_ 2 _ rfl; (with_reducible repeat (first | refine blk_drewN ?_ _ | refine blk_drew ?_ | refine blk_alloc ?_ _)); refine blk_put (cs := #[.int .i64 ((rd_T47 l1 x8_1).f0), .int .i64 0, .slice none 0 0, .slice none 0 0]) ?_ 1 _ rfl; (with_reducible repeat (first | refine blk_drewN ?_ _ | refine blk_drew ?_ | refine blk_alloc ?_ _)); refine blk_put (cs := #[.int .i64 0, .int .i64 0, .slice none 0 0, .slice none 0 0]) ?_ 0 _ rfl; (with_reducible repeat (first | refine blk_drewN ?_ _ | refine blk_drew ?_ | refine blk_alloc ?_ _)); exact BK371.out⟩, ⟨by repeat (first | (with_reducible first | exact HB.out | apply below_alloc | apply pw_below_drewN | apply below_drew1 | refine below_set ?_ GE371.out) | exact HB.out)⟩⟩
      case rest =>
       clear HC6
       try clear c1
       try clear c2
       try clear p2
       try clear c3
       try clear c3b0
       try clear c3b1
       try clear p3
       try clear q3
       try clear hx3
       try clear c4
       try clear c4b0
       try clear c5
       try clear c5b0
       try clear c9
       try clear c9b0
       try clear c11
       try clear c11b0
       try clear hcz10_0
       try clear hcz10_1
       try clear hcz10_2
       try clear hcz10_3
       try clear hcz12_0
       try clear hcz12_1
       try clear hcz12_2
       try clear hcz12_3
       try clear hcz13_0
       try clear hcz13_1
       try clear hcz13_2
       try clear hcz13_3
       try clear hcz8_0
       try clear hcz8_1
       try clear hcz8_2
       try clear hcz8_3
       try clear hfz10_0
       try clear hfz10_1
       try clear hfz10_2
       try clear hfz10_3
       try clear hfz12_0
       try clear hfz12_1
       try clear hfz12_2
       try clear hfz12_3
       try clear hfz13_0
       try clear hfz13_1
       try clear hfz13_2
       try clear hfz13_3
       try clear hfz8_0
       try clear hfz8_1
       try clear hfz8_2
       try clear hfz8_3
       try clear hx370_0
       try clear hx370_1
       try clear hx370_2
       try clear hx370_3
       try clear p2
       try clear p370
       try clear q370
       obtain ⟨kq, x44_5, rfl, HA, HJ5, HO_6, BK371, HB⟩ := hcut
       cases kq with
       | zero => exact absurd HA.out (by simp [forebearref05_Apply.j1])
       | succ kj5 =>
        have H := HA.out
        clear HA
        simp only [forebearref05_Apply.j1] at H
        by_cases c14 : x44_5 = true
        ·subst c14
         have H1 : (some (([] : List ByteArray), 9)) = some (r1, r2) := by rw [if_pos rfl] at H; exact H
         clear H
         have H := H1
         clear H1
         simp only [Option.some.injEq, Prod.mk.injEq] at H
         obtain ⟨rfl, rfl⟩ := H
         go_wp2
         repeat (go_quiet (fail); try go_wp2)
         go_ret2
         exact ⟨_, by first | rfl | (simp [errW_none, errW_some] <;> rfl) | (simp [*, errW_none, errW_some] <;> rfl), by first | exact Kd.R_nil _ _ _ _ _ | exact Kd.N_nil _ _ _ _ _ | exact Kd.V_nil _ _ _ _ _ | exact Kd.Q_nil _ _ _ _ _ | exact Kd.S_nil _ _ _ _ _, by repeat (first | (with_reducible first | exact HB.out | apply below_alloc | apply pw_below_drewN | apply below_drew1 | refine below_set ?_ GE371.out) | exact HB.out)⟩
        ·replace c14 := Bool.eq_false_iff.mpr c14
         subst c14
         have H1 : (forebearref05_Apply.l1 kj5 l0 l1 x6_1 x8_1 x7_1 ((rd_T47 l1 x8_1).f0) ((rd_T47 l1 x8_1).f1) ((rd_T47 l1 x8_1).f2) ((rd_T47 l1 x8_1).f3)) = some (r1, r2) := by rw [if_neg (show ¬ (false = true) by decide)] at H; exact H
         clear H
         have H := H1
         clear H1
         have H' := Aside0.mk H
         clear H
         go_wp2
         repeat (go_quiet (fail); try go_wp2)
         go_loopg [6, 10] kj5 (fun kq v6 v10 w' => ∃ (x6_3 : List ByteArray) (x10_3 : Int), v10 = .int .i64 x10_3 ∧ Aside0 (forebearref05_Apply.l1 kq l0 l1 x6_3 x8_1 x10_3 ((rd_T47 l1 x8_1).f0) ((rd_T47 l1 x8_1).f1) ((rd_T47 l1 x8_1).f2) ((rd_T47 l1 x8_1).f3) = some (r1, r2)) ∧ Aside0 (kq ≤ kj5) ∧ Aside0 (Kd.R Kd.string 9 w' w.heap.size (fun _ => True) v6 x6_3) ∧ Aside0 (w'.heap[gb371]? = some (.cells #[.int .i64 ((rd_T47 l1 x8_1).f0), .int .i64 ((rd_T47 l1 x8_1).f1), (.slice A370_2 ((rd_T47 l1 x8_1).f2).length c370_2), (.slice A370_3 ((rd_T47 l1 x8_1).f3).length c370_3)] 47 (0, 0))) ∧ Aside0 (Below w.heap.size w w'))
         case atStart => exact ⟨(x6_1), (x7_1), (by first | rfl | (simp; done) | (simp [*]; done)), H', ⟨Nat.le_refl _⟩, ⟨by (with_reducible repeat (first | apply Kd.R_alloc | apply Kd.R_drewN | apply Kd.R_drew)); exact HO_6.out⟩, ⟨by (with_reducible repeat (first | refine blk_drewN ?_ _ | refine blk_drew ?_ | refine blk_alloc ?_ _)); exact BK371.out⟩, ⟨by repeat (first | (with_reducible first | exact HB.out | apply below_alloc | apply pw_below_drewN | apply below_drew1 | refine below_set ?_ GE371.out) | exact HB.out)⟩⟩
         case round =>
          clear H'
          try clear c1
          try clear c2
          try clear p2
          try clear c3
          try clear c3b0
          try clear c3b1
          try clear p3
          try clear q3
          try clear hx3
          try clear c4
          try clear c4b0
          try clear c5
          try clear c5b0
          try clear c9
          try clear c9b0
          try clear c11
          try clear c11b0
          try clear c14
          try clear hcz10_0
          try clear hcz10_1
          try clear hcz10_2
          try clear hcz10_3
          try clear hcz12_0
          try clear hcz12_1
          try clear hcz12_2
          try clear hcz12_3
          try clear hcz13_0
          try clear hcz13_1
          try clear hcz13_2
          try clear hcz13_3
          try clear hcz8_0
          try clear hcz8_1
          try clear hcz8_2
          try clear hcz8_3
          try clear hfz10_0
          try clear hfz10_1
          try clear hfz10_2
          try clear hfz10_3
          try clear hfz12_0
          try clear hfz12_1
          try clear hfz12_2
          try clear hfz12_3
          try clear hfz13_0
          try clear hfz13_1
          try clear hfz13_2
          try clear hfz13_3
          try clear hfz8_0
          try clear hfz8_1
          try clear hfz8_2
          try clear hfz8_3
          try clear hx370_0
          try clear hx370_1
          try clear hx370_2
          try clear hx370_3
          try clear p2
          try clear p3
          try clear p370
          try clear q3
          try clear q370
          obtain ⟨x6_3, x10_3, rfl, HA, HK3, HO_6, BK371, HB⟩ := hrel
          cases gk with
          | zero => exact absurd HA.out (by simp [forebearref05_Apply.l1])
          | succ k3 =>
           have H := HA.out
           clear HA
           simp only [forebearref05_Apply.l1] at H
           by_cases c15 : x10_3 < ((rd_T47 l1 x8_1).f0)
           ·rw [if_pos c15] at H
            have c15b0 : decide (x10_3 < ((rd_T47 l1 x8_1).f0)) = true := decide_eq_true c15
            clear c15
            by_cases c16 : 0 ≤ x10_3
            ·rw [if_pos c16] at H
             have c16b0 : decide (0 ≤ x10_3) = true := decide_eq_true c16
             clear c16
             by_cases c17 : x10_3 < (l0.length : Int)
             ·rw [if_pos c17] at H
              have c17b0 : decide (x10_3 < (l0.length : Int)) = true := decide_eq_true c17
              clear c17
              by_cases c18 : x6_3.length < 8796093022208
              ·rw [if_pos c18] at H
               have LMc18 := Aside0.mk c18
               clear c18
               obtain ⟨y373, hy373⟩ : ∃ y_ : List ByteArray, y_ = (x6_3 ++ [rdOf ByteArray.empty l0 x10_3]) := ⟨_, rfl⟩
               replace H : (forebearref05_Apply.l1 k3 l0 l1 y373 x8_1 (wrap64 (x10_3 + 1)) ((rd_T47 l1 x8_1).f0) ((rd_T47 l1 x8_1).f1) ((rd_T47 l1 x8_1).f2) ((rd_T47 l1 x8_1).f3)) = some (r1, r2) := by first | (rw [hy373]; with_reducible exact H) | (have H2_ := (Option.bind_some _ _).symm.trans H; rw [hy373]; with_reducible exact H2_) | (have H2_ := (Option.bind_some _ _).symm.trans H; with_reducible exact H2_) | with_reducible exact H | (rw [hy373]; exact H) | exact H
               have Ny373 := Aside0.mk hy373
               clear hy373
               have H' := Aside0.mk H
               clear H
               have hcz19_0 : wr.cell? ⟨gb371, 0, none⟩ = some (.int .i64 ((rd_T47 l1 x8_1).f0)) := (blk_cell BK371.out 0).trans rfl
               have hcz19_1 : wr.cell? ⟨gb371, 1, none⟩ = some (.int .i64 ((rd_T47 l1 x8_1).f1)) := (blk_cell BK371.out 1).trans rfl
               have hcz19_2 : wr.cell? ⟨gb371, 2, none⟩ = some (.slice A370_2 ((rd_T47 l1 x8_1).f2).length c370_2) := (blk_cell BK371.out 2).trans rfl
               have hcz19_3 : wr.cell? ⟨gb371, 3, none⟩ = some (.slice A370_3 ((rd_T47 l1 x8_1).f3).length c370_3) := (blk_cell BK371.out 3).trans rfl
               have hfz19_0 := blk_frozen BK371.out 0
               have hfz19_1 := blk_frozen BK371.out 1
               have hfz19_2 := blk_frozen BK371.out 2
               have hfz19_3 := blk_frozen BK371.out 3
               have p372 : 0 ≤ (x10_3 : Int) := of_decide_eq_true (by first | (with_reducible assumption) | assumption)
               have q372 : x10_3 < (l0.length : Int) := of_decide_eq_true (by first | (with_reducible assumption) | assumption)
               obtain ⟨ad372, e372, hx372_0⟩ := Kd.at_string HR0.out x10_3 p372 q372
               cases e372
               try replace hx372_0 := (HB.out.cell (World.block_lt_of_cell? w _ hx372_0)).trans hx372_0
               replace p372 := eq_true p372
               replace q372 := eq_true q372
               go_wp2_with (first | ((with_reducible refine gate_builtin (b := .append) (xs := #[.tmp 52, .tmp 57]) rfl ?_); (try (refine gate_guard (by rfl) ?_; dsimp only)); at_builtin; refine Kd.R_append Kd.string (w0 := w) w.heap.size rfl (.tmp 52) (.tmp 57) 22 9 (.string ⟨#[]⟩) 16 rfl Try.underlying22 info9 rfl (by decide) (by omega) u6 x6_3 (rdOf ByteArray.empty l0 x10_3) [.string (rdOf ByteArray.empty l0 x10_3)] (fun _ => True) (fun _ => False) rfl rfl ?aP (fun _ hk => hk.elim) ?aF ?aO ?aB ?aS ?aL ?_; (case aP => exact rfl); (case aB => exact (by repeat (first | (with_reducible first | exact HB.out | apply below_alloc | apply pw_below_drewN | apply below_drew1 | refine below_set ?_ GE371.out) | exact HB.out))); (case aF => exact (fun _ _ => trivial)); (case aO => exact (by (with_reducible repeat (first | apply Kd.R_alloc | apply Kd.R_drewN | apply Kd.R_drew)); exact HO_6.out)); (case aS => exact (below_size (by repeat (first | (with_reducible first | exact HB.out | apply below_alloc | apply pw_below_drewN | apply below_drew1 | refine below_set ?_ GE371.out) | exact HB.out)))); (case aL => have := LMc18.out; omega); intro v374 w20 ho hb hg hat; rw [← Ny373.out] at ho; have n0_ := Aside0.mk (blk_grown (g := gb371) (o := .cells #[.int .i64 ((rd_T47 l1 x8_1).f0), .int .i64 ((rd_T47 l1 x8_1).f1), .slice A370_2 ((rd_T47 l1 x8_1).f2).length c370_2, .slice A370_3 ((rd_T47 l1 x8_1).f3).length c370_3] 47 (0, 0)) (by (with_reducible repeat (first | refine blk_drewN ?_ _ | refine blk_drew ?_ | refine blk_alloc ?_ _)); exact BK371.out) hg (Kd.R_ne HO_6.out BK371.out (by decide))); have n1_ := Aside0.mk (hb); have n2_ := Aside0.mk (ho); clear BK371; clear HB; clear HO_6; have BK371 := n0_; have HB := n1_; have HO375 := n2_; clear n0_ n1_ n2_; clear ho hb hg hat))
               repeat (go_quiet (fail); try go_wp2_with (first | ((with_reducible refine gate_builtin (b := .append) (xs := #[.tmp 52, .tmp 57]) rfl ?_); (try (refine gate_guard (by rfl) ?_; dsimp only)); at_builtin; refine Kd.R_append Kd.string (w0 := w) w.heap.size rfl (.tmp 52) (.tmp 57) 22 9 (.string ⟨#[]⟩) 16 rfl Try.underlying22 info9 rfl (by decide) (by omega) u6 x6_3 (rdOf ByteArray.empty l0 x10_3) [.string (rdOf ByteArray.empty l0 x10_3)] (fun _ => True) (fun _ => False) rfl rfl ?aP (fun _ hk => hk.elim) ?aF ?aO ?aB ?aS ?aL ?_; (case aP => exact rfl); (case aB => exact (by repeat (first | (with_reducible first | exact HB.out | apply below_alloc | apply pw_below_drewN | apply below_drew1 | refine below_set ?_ GE371.out) | exact HB.out))); (case aF => exact (fun _ _ => trivial)); (case aO => exact (by (with_reducible repeat (first | apply Kd.R_alloc | apply Kd.R_drewN | apply Kd.R_drew)); exact HO_6.out)); (case aS => exact (below_size (by repeat (first | (with_reducible first | exact HB.out | apply below_alloc | apply pw_below_drewN | apply below_drew1 | refine below_set ?_ GE371.out) | exact HB.out)))); (case aL => have := LMc18.out; omega); intro v374 w20 ho hb hg hat; rw [← Ny373.out] at ho; have n0_ := Aside0.mk (blk_grown (g := gb371) (o := .cells #[.int .i64 ((rd_T47 l1 x8_1).f0), .int .i64 ((rd_T47 l1 x8_1).f1), .slice A370_2 ((rd_T47 l1 x8_1).f2).length c370_2, .slice A370_3 ((rd_T47 l1 x8_1).f3).length c370_3] 47 (0, 0)) (by (with_reducible repeat (first | refine blk_drewN ?_ _ | refine blk_drew ?_ | refine blk_alloc ?_ _)); exact BK371.out) hg (Kd.R_ne HO_6.out BK371.out (by decide))); have n1_ := Aside0.mk (hb); have n2_ := Aside0.mk (ho); clear BK371; clear HB; clear HO_6; have BK371 := n0_; have HB := n1_; have HO375 := n2_; clear n0_ n1_ n2_; clear ho hb hg hat)))
               go_roundg k3
               case measure => have := HK1.out; have := HJ5.out; have := HK3.out; omega
               case rel => exact ⟨(y373), (wrap64 (x10_3 + 1)), (by first | rfl | (simp; done) | (simp [*]; done)), H', ⟨by have := HK1.out; have := HJ5.out; have := HK3.out; omega⟩, ⟨by (with_reducible repeat (first | apply Kd.R_alloc | apply Kd.R_drewN | apply Kd.R_drew)); exact HO375.out⟩, ⟨by (with_reducible repeat (first | refine blk_drewN ?_ _ | refine blk_drew ?_ | refine blk_alloc ?_ _)); exact BK371.out⟩, ⟨by repeat (first | (with_reducible first | exact HB.out | apply below_alloc | apply pw_below_drewN | apply below_drew1 | refine below_set ?_ GE371.out) | exact HB.out)⟩⟩
              ·rw [if_neg c18] at H
               exact absurd H (by simp)
             ·rw [if_neg c17] at H
              exact absurd H (by simp)
            ·rw [if_neg c16] at H
             exact absurd H (by simp)
           ·rw [if_neg c15] at H
            have c15b0 : decide (x10_3 < ((rd_T47 l1 x8_1).f0)) = false := decide_eq_false c15
            clear c15
            by_cases c21 : ((rd_T47 l1 x8_1).f1) = (x6_3.length : Int)
            ·rw [if_pos c21] at H
             have c21b0 : (((rd_T47 l1 x8_1).f1) == (x6_3.length : Int)) = true := beq_iff_eq.mpr c21
             have c21b1 : (((rd_T47 l1 x8_1).f1) != (x6_3.length : Int)) = false := bne_eq_false_iff_eq.mpr c21
             clear c21
             have H' := Aside0.mk H
             clear H
             have hcz22_0 : wr.cell? ⟨gb371, 0, none⟩ = some (.int .i64 ((rd_T47 l1 x8_1).f0)) := (blk_cell BK371.out 0).trans rfl
             have hcz22_1 : wr.cell? ⟨gb371, 1, none⟩ = some (.int .i64 ((rd_T47 l1 x8_1).f1)) := (blk_cell BK371.out 1).trans rfl
             have hcz22_2 : wr.cell? ⟨gb371, 2, none⟩ = some (.slice A370_2 ((rd_T47 l1 x8_1).f2).length c370_2) := (blk_cell BK371.out 2).trans rfl
             have hcz22_3 : wr.cell? ⟨gb371, 3, none⟩ = some (.slice A370_3 ((rd_T47 l1 x8_1).f3).length c370_3) := (blk_cell BK371.out 3).trans rfl
             have hfz22_0 := blk_frozen BK371.out 0
             have hfz22_1 := blk_frozen BK371.out 1
             have hfz22_2 := blk_frozen BK371.out 2
             have hfz22_3 := blk_frozen BK371.out 3
             obtain ⟨Ao23, co23, eo23⟩ := Kd.R_slice HO_6.out
             subst eo23
             go_wp2
             repeat (go_quiet (fail); try go_wp2)
             go_loopg [11] k3 (fun kq v11 w' => ∃ (x11_4 : Int), v11 = .int .i64 x11_4 ∧ Aside0 (forebearref05_Apply.l2 kq l0 l1 x6_3 x8_1 x11_4 ((rd_T47 l1 x8_1).f0) ((rd_T47 l1 x8_1).f1) ((rd_T47 l1 x8_1).f2) ((rd_T47 l1 x8_1).f3) = some (r1, r2)) ∧ Aside0 (kq ≤ k3) ∧ Aside0 (Kd.R Kd.string 9 w' w.heap.size (fun _ => True) (.slice Ao23 x6_3.length co23) x6_3) ∧ Aside0 (w'.heap[gb371]? = some (.cells #[.int .i64 ((rd_T47 l1 x8_1).f0), .int .i64 ((rd_T47 l1 x8_1).f1), (.slice A370_2 ((rd_T47 l1 x8_1).f2).length c370_2), (.slice A370_3 ((rd_T47 l1 x8_1).f3).length c370_3)] 47 (0, 0))) ∧ Aside0 (Below w.heap.size w w'))
             case atStart => exact ⟨(0), (by first | rfl | (simp; done) | (simp [*]; done)), H', ⟨Nat.le_refl _⟩, ⟨by (with_reducible repeat (first | apply Kd.R_alloc | apply Kd.R_drewN | apply Kd.R_drew)); exact HO_6.out⟩, ⟨by (with_reducible repeat (first | refine blk_drewN ?_ _ | refine blk_drew ?_ | refine blk_alloc ?_ _)); exact BK371.out⟩, ⟨by repeat (first | (with_reducible first | exact HB.out | apply below_alloc | apply pw_below_drewN | apply below_drew1 | refine below_set ?_ GE371.out) | exact HB.out)⟩⟩
             case round =>
              clear H'
              try clear c1
              try clear c2
              try clear p2
              try clear c3
              try clear c3b0
              try clear c3b1
              try clear p3
              try clear q3
              try clear hx3
              try clear c4
              try clear c4b0
              try clear c5
              try clear c5b0
              try clear p6
              try clear c9
              try clear c9b0
              try clear c11
              try clear c11b0
              try clear c14
              try clear c15
              try clear c15b0
              try clear c16
              try clear c16b0
              try clear c17
              try clear c17b0
              try clear c18
              try clear c20
              try clear c21
              try clear c21b0
              try clear c21b1
              try clear hcz10_0
              try clear hcz10_1
              try clear hcz10_2
              try clear hcz10_3
              try clear hcz12_0
              try clear hcz12_1
              try clear hcz12_2
              try clear hcz12_3
              try clear hcz13_0
              try clear hcz13_1
              try clear hcz13_2
              try clear hcz13_3
              try clear hcz19_0
              try clear hcz19_1
              try clear hcz19_2
              try clear hcz19_3
              try clear hcz22_0
              try clear hcz22_1
              try clear hcz22_2
              try clear hcz22_3
              try clear hcz8_0
              try clear hcz8_1
              try clear hcz8_2
              try clear hcz8_3
              try clear hfz10_0
              try clear hfz10_1
              try clear hfz10_2
              try clear hfz10_3
              try clear hfz12_0
              try clear hfz12_1
              try clear hfz12_2
              try clear hfz12_3
              try clear hfz13_0
              try clear hfz13_1
              try clear hfz13_2
              try clear hfz13_3
              try clear hfz19_0
              try clear hfz19_1
              try clear hfz19_2
              try clear hfz19_3
              try clear hfz22_0
              try clear hfz22_1
              try clear hfz22_2
              try clear hfz22_3
              try clear hfz8_0
              try clear hfz8_1
              try clear hfz8_2
              try clear hfz8_3
              try clear hx370_0
              try clear hx370_1
              try clear hx370_2
              try clear hx370_3
              try clear hx372_0
              try clear p2
              try clear p3
              try clear p370
              try clear p372
              try clear q3
              try clear q370
              try clear q372
              obtain ⟨x11_4, rfl, HA, HK4, HO_6, BK371, HB⟩ := hrel
              cases gk with
              | zero => exact absurd HA.out (by simp [forebearref05_Apply.l2])
              | succ k4 =>
               have H := HA.out
               clear HA
               simp only [forebearref05_Apply.l2] at H
               by_cases c24 : x11_4 < (((rd_T47 l1 x8_1).f2).length : Int)
               ·rw [if_pos c24] at H
                have c24b0 : decide (x11_4 < (((rd_T47 l1 x8_1).f2).length : Int)) = true := decide_eq_true c24
                clear c24
                by_cases c25 : (wrap64 (((rd_T47 l1 x8_1).f0) + x11_4)) ≥ (l0.length : Int)
                ·rw [if_pos c25] at H
                 have c25b0 : decide ((l0.length : Int) ≤ (wrap64 (((rd_T47 l1 x8_1).f0) + x11_4))) = true := decide_eq_true c25
                 clear c25
                 simp only [Option.some.injEq, Prod.mk.injEq] at H
                 obtain ⟨rfl, rfl⟩ := H
                 have hcz26_0 : wr.cell? ⟨gb371, 0, none⟩ = some (.int .i64 ((rd_T47 l1 x8_1).f0)) := (blk_cell BK371.out 0).trans rfl
                 have hcz26_1 : wr.cell? ⟨gb371, 1, none⟩ = some (.int .i64 ((rd_T47 l1 x8_1).f1)) := (blk_cell BK371.out 1).trans rfl
                 have hcz26_2 : wr.cell? ⟨gb371, 2, none⟩ = some (.slice A370_2 ((rd_T47 l1 x8_1).f2).length c370_2) := (blk_cell BK371.out 2).trans rfl
                 have hcz26_3 : wr.cell? ⟨gb371, 3, none⟩ = some (.slice A370_3 ((rd_T47 l1 x8_1).f3).length c370_3) := (blk_cell BK371.out 3).trans rfl
                 have hfz26_0 := blk_frozen BK371.out 0
                 have hfz26_1 := blk_frozen BK371.out 1
                 have hfz26_2 := blk_frozen BK371.out 2
                 have hfz26_3 := blk_frozen BK371.out 3
                 go_wp2
                 repeat (go_quiet (fail); try go_wp2)
                 go_ret2
                 exact ⟨_, by first | rfl | (simp [errW_none, errW_some] <;> rfl) | (simp [*, errW_none, errW_some] <;> rfl), by first | exact Kd.R_nil _ _ _ _ _ | exact Kd.N_nil _ _ _ _ _ | exact Kd.V_nil _ _ _ _ _ | exact Kd.Q_nil _ _ _ _ _ | exact Kd.S_nil _ _ _ _ _, by repeat (first | (with_reducible first | exact HB.out | apply below_alloc | apply pw_below_drewN | apply below_drew1 | refine below_set ?_ GE371.out) | exact HB.out)⟩
                ·rw [if_neg c25] at H
                 have c25b0 : decide ((l0.length : Int) ≤ (wrap64 (((rd_T47 l1 x8_1).f0) + x11_4))) = false := decide_eq_false c25
                 clear c25
                 obtain ⟨ji27, hji27⟩ : ∃ j_ : Int, (wrap64 (((rd_T47 l1 x8_1).f0) + x11_4)) = j_ := ⟨_, rfl⟩
                 replace H : (if 0 ≤ (ji27) then (if (ji27) < (l0.length : Int) then (if 0 ≤ x11_4 then (if (rdOf ByteArray.empty l0 (ji27)).toList = (rdOf ByteArray.empty ((rd_T47 l1 x8_1).f2) x11_4).toList then (forebearref05_Apply.l2 k4 l0 l1 x6_3 x8_1 (wrap64 (x11_4 + 1)) ((rd_T47 l1 x8_1).f0) ((rd_T47 l1 x8_1).f1) ((rd_T47 l1 x8_1).f2) ((rd_T47 l1 x8_1).f3)) else (some (([] : List ByteArray), 9))) else (none)) else (none)) else (none)) = some (r1, r2) := by first | (rw [hji27] at H; exact H) | (simp only [hji27] at H ⊢; exact H)
                 (try rw [hji27] at c25b0)
                 have hji27w : (IntKind.i64.wrap (((rd_T47 l1 x8_1).f0) + x11_4)) = ji27 := (i64_w _).trans hji27
                 by_cases c28 : 0 ≤ (ji27)
                 ·rw [if_pos c28] at H
                  have c28b0 : decide (0 ≤ (ji27)) = true := decide_eq_true c28
                  clear c28
                  by_cases c29 : (ji27) < (l0.length : Int)
                  ·rw [if_pos c29] at H
                   have c29b0 : decide ((ji27) < (l0.length : Int)) = true := decide_eq_true c29
                   clear c29
                   by_cases c30 : 0 ≤ x11_4
                   ·rw [if_pos c30] at H
                    have c30b0 : decide (0 ≤ x11_4) = true := decide_eq_true c30
                    clear c30
                    by_cases c31 : (rdOf ByteArray.empty l0 (ji27)).toList = (rdOf ByteArray.empty ((rd_T47 l1 x8_1).f2) x11_4).toList
                    ·rw [if_pos c31] at H
                     have c31b0 : ((rdOf ByteArray.empty l0 (ji27)).toList == (rdOf ByteArray.empty ((rd_T47 l1 x8_1).f2) x11_4).toList) = true := beq_iff_eq.mpr c31
                     have c31b1 : ((rdOf ByteArray.empty l0 (ji27)).toList != (rdOf ByteArray.empty ((rd_T47 l1 x8_1).f2) x11_4).toList) = false := bne_eq_false_iff_eq.mpr c31
                     clear c31
                     have H' := Aside0.mk H
                     clear H
                     have hcz32_0 : wr.cell? ⟨gb371, 0, none⟩ = some (.int .i64 ((rd_T47 l1 x8_1).f0)) := (blk_cell BK371.out 0).trans rfl
                     have hcz32_1 : wr.cell? ⟨gb371, 1, none⟩ = some (.int .i64 ((rd_T47 l1 x8_1).f1)) := (blk_cell BK371.out 1).trans rfl
                     have hcz32_2 : wr.cell? ⟨gb371, 2, none⟩ = some (.slice A370_2 ((rd_T47 l1 x8_1).f2).length c370_2) := (blk_cell BK371.out 2).trans rfl
                     have hcz32_3 : wr.cell? ⟨gb371, 3, none⟩ = some (.slice A370_3 ((rd_T47 l1 x8_1).f3).length c370_3) := (blk_cell BK371.out 3).trans rfl
                     have hfz32_0 := blk_frozen BK371.out 0
                     have hfz32_1 := blk_frozen BK371.out 1
                     have hfz32_2 := blk_frozen BK371.out 2
                     have hfz32_3 := blk_frozen BK371.out 3
                     have p376 : 0 ≤ ((ji27) : Int) := of_decide_eq_true (by first | (with_reducible assumption) | assumption)
                     have q376 : (ji27) < (l0.length : Int) := of_decide_eq_true (by first | (with_reducible assumption) | assumption)
                     obtain ⟨ad376, e376, hx376_0⟩ := Kd.at_string HR0.out (ji27) p376 q376
                     cases e376
                     try replace hx376_0 := (HB.out.cell (World.block_lt_of_cell? w _ hx376_0)).trans hx376_0
                     replace p376 := eq_true p376
                     replace q376 := eq_true q376
                     have p377 : 0 ≤ (x11_4 : Int) := of_decide_eq_true (by first | (with_reducible assumption) | assumption)
                     have q377 : x11_4 < (((rd_T47 l1 x8_1).f2).length : Int) := of_decide_eq_true (by first | (with_reducible assumption) | assumption)
                     obtain ⟨ad377, e377, hx377_0⟩ := Kd.at_string HR370_2.out x11_4 p377 q377
                     cases e377
                     try replace hx377_0 := (HB.out.cell (World.block_lt_of_cell? w _ hx377_0)).trans hx377_0
                     replace p377 := eq_true p377
                     replace q377 := eq_true q377
                     go_wp2
                     repeat (go_quiet (fail); try go_wp2)
                     go_roundg k4
                     case measure => have := HK1.out; have := HJ5.out; have := HK3.out; have := HK4.out; omega
                     case rel => exact ⟨(wrap64 (x11_4 + 1)), (by first | rfl | (simp; done) | (simp [*]; done)), H', ⟨by have := HK1.out; have := HJ5.out; have := HK3.out; have := HK4.out; omega⟩, ⟨by (with_reducible repeat (first | apply Kd.R_alloc | apply Kd.R_drewN | apply Kd.R_drew)); exact HO_6.out⟩, ⟨by (with_reducible repeat (first | refine blk_drewN ?_ _ | refine blk_drew ?_ | refine blk_alloc ?_ _)); exact BK371.out⟩, ⟨by repeat (first | (with_reducible first | exact HB.out | apply below_alloc | apply pw_below_drewN | apply below_drew1 | refine below_set ?_ GE371.out) | exact HB.out)⟩⟩
                    ·rw [if_neg c31] at H
                     have c31b0 : ((rdOf ByteArray.empty l0 (ji27)).toList == (rdOf ByteArray.empty ((rd_T47 l1 x8_1).f2) x11_4).toList) = false := beq_eq_false_iff_ne.mpr c31
                     have c31b1 : ((rdOf ByteArray.empty l0 (ji27)).toList != (rdOf ByteArray.empty ((rd_T47 l1 x8_1).f2) x11_4).toList) = true := bne_iff_ne.mpr c31
                     simp only [Option.some.injEq, Prod.mk.injEq] at H
                     obtain ⟨rfl, rfl⟩ := H
                     have hcz33_0 : wr.cell? ⟨gb371, 0, none⟩ = some (.int .i64 ((rd_T47 l1 x8_1).f0)) := (blk_cell BK371.out 0).trans rfl
                     have hcz33_1 : wr.cell? ⟨gb371, 1, none⟩ = some (.int .i64 ((rd_T47 l1 x8_1).f1)) := (blk_cell BK371.out 1).trans rfl
                     have hcz33_2 : wr.cell? ⟨gb371, 2, none⟩ = some (.slice A370_2 ((rd_T47 l1 x8_1).f2).length c370_2) := (blk_cell BK371.out 2).trans rfl
                     have hcz33_3 : wr.cell? ⟨gb371, 3, none⟩ = some (.slice A370_3 ((rd_T47 l1 x8_1).f3).length c370_3) := (blk_cell BK371.out 3).trans rfl
                     have hfz33_0 := blk_frozen BK371.out 0
                     have hfz33_1 := blk_frozen BK371.out 1
                     have hfz33_2 := blk_frozen BK371.out 2
                     have hfz33_3 := blk_frozen BK371.out 3
                     have p376 : 0 ≤ ((ji27) : Int) := of_decide_eq_true (by first | (with_reducible assumption) | assumption)
                     have q376 : (ji27) < (l0.length : Int) := of_decide_eq_true (by first | (with_reducible assumption) | assumption)
                     obtain ⟨ad376, e376, hx376_0⟩ := Kd.at_string HR0.out (ji27) p376 q376
                     cases e376
                     try replace hx376_0 := (HB.out.cell (World.block_lt_of_cell? w _ hx376_0)).trans hx376_0
                     replace p376 := eq_true p376
                     replace q376 := eq_true q376
                     have p377 : 0 ≤ (x11_4 : Int) := of_decide_eq_true (by first | (with_reducible assumption) | assumption)
                     have q377 : x11_4 < (((rd_T47 l1 x8_1).f2).length : Int) := of_decide_eq_true (by first | (with_reducible assumption) | assumption)
                     obtain ⟨ad377, e377, hx377_0⟩ := Kd.at_string HR370_2.out x11_4 p377 q377
                     cases e377
                     try replace hx377_0 := (HB.out.cell (World.block_lt_of_cell? w _ hx377_0)).trans hx377_0
                     replace p377 := eq_true p377
                     replace q377 := eq_true q377
                     go_wp2
                     repeat (go_quiet (fail); try go_wp2)
                     go_ret2
                     exact ⟨_, by first | rfl | (simp [errW_none, errW_some] <;> rfl) | (simp only [← hji27]; first | rfl | (simp [errW_none, errW_some] <;> rfl)) | (simp [*, errW_none, errW_some] <;> rfl), by first | exact Kd.R_nil _ _ _ _ _ | exact Kd.N_nil _ _ _ _ _ | exact Kd.V_nil _ _ _ _ _ | exact Kd.Q_nil _ _ _ _ _ | exact Kd.S_nil _ _ _ _ _, by repeat (first | (with_reducible first | exact HB.out | apply below_alloc | apply pw_below_drewN | apply below_drew1 | refine below_set ?_ GE371.out) | exact HB.out)⟩
                   ·rw [if_neg c30] at H
                    exact absurd H (by simp)
                  ·rw [if_neg c29] at H
                   exact absurd H (by simp)
                 ·rw [if_neg c28] at H
                  exact absurd H (by simp)
               ·rw [if_neg c24] at H
                have c24b0 : decide (x11_4 < (((rd_T47 l1 x8_1).f2).length : Int)) = false := decide_eq_false c24
                clear c24
                by_cases c34 : x6_3.length + ((rd_T47 l1 x8_1).f3).length < 8796093022208
                ·rw [if_pos c34] at H
                 have LMc34 := Aside0.mk c34
                 clear c34
                 obtain ⟨y378, hy378⟩ : ∃ y_ : List ByteArray, y_ = (x6_3 ++ ((rd_T47 l1 x8_1).f3)) := ⟨_, rfl⟩
                 replace H : (forebearref05_Apply.l0 k4 l0 l1 y378 (wrap64 (((rd_T47 l1 x8_1).f0) + (((rd_T47 l1 x8_1).f2).length : Int))) (wrap64 (x8_1 + 1))) = some (r1, r2) := by first | (rw [hy378]; with_reducible exact H) | (have H2_ := (Option.bind_some _ _).symm.trans H; rw [hy378]; with_reducible exact H2_) | (have H2_ := (Option.bind_some _ _).symm.trans H; with_reducible exact H2_) | with_reducible exact H | (rw [hy378]; exact H) | exact H
                 have Ny378 := Aside0.mk hy378
                 clear hy378
                 have H' := Aside0.mk H
                 clear H
                 have hcz35_0 : wr.cell? ⟨gb371, 0, none⟩ = some (.int .i64 ((rd_T47 l1 x8_1).f0)) := (blk_cell BK371.out 0).trans rfl
                 have hcz35_1 : wr.cell? ⟨gb371, 1, none⟩ = some (.int .i64 ((rd_T47 l1 x8_1).f1)) := (blk_cell BK371.out 1).trans rfl
                 have hcz35_2 : wr.cell? ⟨gb371, 2, none⟩ = some (.slice A370_2 ((rd_T47 l1 x8_1).f2).length c370_2) := (blk_cell BK371.out 2).trans rfl
                 have hcz35_3 : wr.cell? ⟨gb371, 3, none⟩ = some (.slice A370_3 ((rd_T47 l1 x8_1).f3).length c370_3) := (blk_cell BK371.out 3).trans rfl
                 have hfz35_0 := blk_frozen BK371.out 0
                 have hfz35_1 := blk_frozen BK371.out 1
                 have hfz35_2 := blk_frozen BK371.out 2
                 have hfz35_3 := blk_frozen BK371.out 3
                 go_wp2_with (first | ((with_reducible refine gate_builtin (b := .append) (xs := #[.tmp 93, .tmp 95]) rfl ?_); (try (refine gate_guard (by rfl) ?_; dsimp only)); at_builtin; refine Kd.R_append_rows Kd.string (w0 := w) w.heap.size rfl (.tmp 93) (.tmp 95) 22 9 (.string ⟨#[]⟩) 16 rfl Try.underlying22 info9 rfl (by decide) (by omega) (.slice Ao23 x6_3.length co23) x6_3 ((rd_T47 l1 x8_1).f3) _ _ _ (fun _ => True) (fun _ => False) rfl rfl ?aO ?aR (fun _ _ h => h) (fun _ h => h.elim) ?aF ?aB ?aS ?aL ?_; (case aR => repeat (first | exact (Kd.C_below HR370_3.out HB.out) | (with_reducible refine Kd.C_alloc ?_ _) | (with_reducible refine Kd.C_drewN ?_ _) | (with_reducible refine Kd.C_drew ?_))); (case aB => exact (by repeat (first | (with_reducible first | exact HB.out | apply below_alloc | apply pw_below_drewN | apply below_drew1 | refine below_set ?_ GE371.out) | exact HB.out))); (case aF => exact (fun _ _ => trivial)); (case aO => exact (by (with_reducible repeat (first | apply Kd.R_alloc | apply Kd.R_drewN | apply Kd.R_drew)); exact HO_6.out)); (case aS => exact (below_size (by repeat (first | (with_reducible first | exact HB.out | apply below_alloc | apply pw_below_drewN | apply below_drew1 | refine below_set ?_ GE371.out) | exact HB.out)))); (case aL => have := LMc34.out; omega); intro v379 w36 ho hb hg hat; rw [← Ny378.out] at ho; have n0_ := Aside0.mk (blk_grown (g := gb371) (o := .cells #[.int .i64 ((rd_T47 l1 x8_1).f0), .int .i64 ((rd_T47 l1 x8_1).f1), .slice A370_2 ((rd_T47 l1 x8_1).f2).length c370_2, .slice A370_3 ((rd_T47 l1 x8_1).f3).length c370_3] 47 (0, 0)) (by (with_reducible repeat (first | refine blk_drewN ?_ _ | refine blk_drew ?_ | refine blk_alloc ?_ _)); exact BK371.out) hg (Kd.R_ne HO_6.out BK371.out (by decide))); have n1_ := Aside0.mk (hb); have n2_ := Aside0.mk (ho); clear BK371; clear HB; clear HO_6; have BK371 := n0_; have HB := n1_; have HO380 := n2_; clear n0_ n1_ n2_; clear ho hb hg hat; have hcz37_0 : w36.cell? ⟨gb371, 0, none⟩ = some (.int .i64 ((rd_T47 l1 x8_1).f0)) := (blk_cell BK371.out 0).trans rfl; have hcz37_1 : w36.cell? ⟨gb371, 1, none⟩ = some (.int .i64 ((rd_T47 l1 x8_1).f1)) := (blk_cell BK371.out 1).trans rfl; have hcz37_2 : w36.cell? ⟨gb371, 2, none⟩ = some (.slice A370_2 ((rd_T47 l1 x8_1).f2).length c370_2) := (blk_cell BK371.out 2).trans rfl; have hcz37_3 : w36.cell? ⟨gb371, 3, none⟩ = some (.slice A370_3 ((rd_T47 l1 x8_1).f3).length c370_3) := (blk_cell BK371.out 3).trans rfl; have hfz37_0 := blk_frozen BK371.out 0; have hfz37_1 := blk_frozen BK371.out 1; have hfz37_2 := blk_frozen BK371.out 2; have hfz37_3 := blk_frozen BK371.out 3))
                 repeat (go_quiet (fail); try go_wp2_with (first | ((with_reducible refine gate_builtin (b := .append) (xs := #[.tmp 93, .tmp 95]) rfl ?_); (try (refine gate_guard (by rfl) ?_; dsimp only)); at_builtin; refine Kd.R_append_rows Kd.string (w0 := w) w.heap.size rfl (.tmp 93) (.tmp 95) 22 9 (.string ⟨#[]⟩) 16 rfl Try.underlying22 info9 rfl (by decide) (by omega) (.slice Ao23 x6_3.length co23) x6_3 ((rd_T47 l1 x8_1).f3) _ _ _ (fun _ => True) (fun _ => False) rfl rfl ?aO ?aR (fun _ _ h => h) (fun _ h => h.elim) ?aF ?aB ?aS ?aL ?_; (case aR => repeat (first | exact (Kd.C_below HR370_3.out HB.out) | (with_reducible refine Kd.C_alloc ?_ _) | (with_reducible refine Kd.C_drewN ?_ _) | (with_reducible refine Kd.C_drew ?_))); (case aB => exact (by repeat (first | (with_reducible first | exact HB.out | apply below_alloc | apply pw_below_drewN | apply below_drew1 | refine below_set ?_ GE371.out) | exact HB.out))); (case aF => exact (fun _ _ => trivial)); (case aO => exact (by (with_reducible repeat (first | apply Kd.R_alloc | apply Kd.R_drewN | apply Kd.R_drew)); exact HO_6.out)); (case aS => exact (below_size (by repeat (first | (with_reducible first | exact HB.out | apply below_alloc | apply pw_below_drewN | apply below_drew1 | refine below_set ?_ GE371.out) | exact HB.out)))); (case aL => have := LMc34.out; omega); intro v379 w36 ho hb hg hat; rw [← Ny378.out] at ho; have n0_ := Aside0.mk (blk_grown (g := gb371) (o := .cells #[.int .i64 ((rd_T47 l1 x8_1).f0), .int .i64 ((rd_T47 l1 x8_1).f1), .slice A370_2 ((rd_T47 l1 x8_1).f2).length c370_2, .slice A370_3 ((rd_T47 l1 x8_1).f3).length c370_3] 47 (0, 0)) (by (with_reducible repeat (first | refine blk_drewN ?_ _ | refine blk_drew ?_ | refine blk_alloc ?_ _)); exact BK371.out) hg (Kd.R_ne HO_6.out BK371.out (by decide))); have n1_ := Aside0.mk (hb); have n2_ := Aside0.mk (ho); clear BK371; clear HB; clear HO_6; have BK371 := n0_; have HB := n1_; have HO380 := n2_; clear n0_ n1_ n2_; clear ho hb hg hat; have hcz37_0 : w36.cell? ⟨gb371, 0, none⟩ = some (.int .i64 ((rd_T47 l1 x8_1).f0)) := (blk_cell BK371.out 0).trans rfl; have hcz37_1 : w36.cell? ⟨gb371, 1, none⟩ = some (.int .i64 ((rd_T47 l1 x8_1).f1)) := (blk_cell BK371.out 1).trans rfl; have hcz37_2 : w36.cell? ⟨gb371, 2, none⟩ = some (.slice A370_2 ((rd_T47 l1 x8_1).f2).length c370_2) := (blk_cell BK371.out 2).trans rfl; have hcz37_3 : w36.cell? ⟨gb371, 3, none⟩ = some (.slice A370_3 ((rd_T47 l1 x8_1).f3).length c370_3) := (blk_cell BK371.out 3).trans rfl; have hfz37_0 := blk_frozen BK371.out 0; have hfz37_1 := blk_frozen BK371.out 1; have hfz37_2 := blk_frozen BK371.out 2; have hfz37_3 := blk_frozen BK371.out 3)))
                 go_roundg k4
                 case measure => have := HK1.out; have := HJ5.out; have := HK3.out; have := HK4.out; omega
                 case rel => exact ⟨(y378), (wrap64 (((rd_T47 l1 x8_1).f0) + (((rd_T47 l1 x8_1).f2).length : Int))), (wrap64 (x8_1 + 1)), (by first | rfl | (simp; done) | (simp [*]; done)), (by first | rfl | (simp; done) | (simp [*]; done)), H', ⟨by have := HK1.out; have := HJ5.out; have := HK3.out; have := HK4.out; omega⟩, ⟨by (with_reducible repeat (first | apply Kd.R_alloc | apply Kd.R_drewN | apply Kd.R_drew)); exact HO380.out⟩, ⟨by repeat (first | (with_reducible first | exact HB.out | apply below_alloc | apply pw_below_drewN | apply below_drew1 | refine below_set ?_ GE371.out) | exact HB.out)⟩⟩
                ·rw [if_neg c34] at H
                 exact absurd H (by simp)
            ·rw [if_neg c21] at H
             have c21b0 : (((rd_T47 l1 x8_1).f1) == (x6_3.length : Int)) = false := beq_eq_false_iff_ne.mpr c21
             have c21b1 : (((rd_T47 l1 x8_1).f1) != (x6_3.length : Int)) = true := bne_iff_ne.mpr c21
             simp only [Option.some.injEq, Prod.mk.injEq] at H
             obtain ⟨rfl, rfl⟩ := H
             have hcz38_0 : wr.cell? ⟨gb371, 0, none⟩ = some (.int .i64 ((rd_T47 l1 x8_1).f0)) := (blk_cell BK371.out 0).trans rfl
             have hcz38_1 : wr.cell? ⟨gb371, 1, none⟩ = some (.int .i64 ((rd_T47 l1 x8_1).f1)) := (blk_cell BK371.out 1).trans rfl
             have hcz38_2 : wr.cell? ⟨gb371, 2, none⟩ = some (.slice A370_2 ((rd_T47 l1 x8_1).f2).length c370_2) := (blk_cell BK371.out 2).trans rfl
             have hcz38_3 : wr.cell? ⟨gb371, 3, none⟩ = some (.slice A370_3 ((rd_T47 l1 x8_1).f3).length c370_3) := (blk_cell BK371.out 3).trans rfl
             have hfz38_0 := blk_frozen BK371.out 0
             have hfz38_1 := blk_frozen BK371.out 1
             have hfz38_2 := blk_frozen BK371.out 2
             have hfz38_3 := blk_frozen BK371.out 3
             obtain ⟨Ao39, co39, eo39⟩ := Kd.R_slice HO_6.out
             subst eo39
             go_wp2
             repeat (go_quiet (fail); try go_wp2)
             go_ret2
             exact ⟨_, by first | rfl | (simp [errW_none, errW_some] <;> rfl) | (simp [*, errW_none, errW_some] <;> rfl), by first | exact Kd.R_nil _ _ _ _ _ | exact Kd.N_nil _ _ _ _ _ | exact Kd.V_nil _ _ _ _ _ | exact Kd.Q_nil _ _ _ _ _ | exact Kd.S_nil _ _ _ _ _, by repeat (first | (with_reducible first | exact HB.out | apply below_alloc | apply pw_below_drewN | apply below_drew1 | refine below_set ?_ GE371.out) | exact HB.out)⟩
     ·rw [if_neg c5] at H
      exact absurd H (by simp)
    ·rw [if_neg c4] at H
     have c4b0 : decide (x8_1 < (l1.length : Int)) = false := decide_eq_false c4
     clear c4
     have H' := Aside0.mk H
     clear H
     go_wp2
     repeat (go_quiet (fail); try go_wp2)
     go_loopg [6, 12] k1 (fun kq v6 v12 w' => ∃ (x6_2 : List ByteArray) (x12_2 : Int), v12 = .int .i64 x12_2 ∧ Aside0 (forebearref05_Apply.l3 kq l0 x6_2 x12_2 = some (r1, r2)) ∧ Aside0 (kq ≤ k1) ∧ Aside0 (Kd.R Kd.string 9 w' w.heap.size (fun _ => True) v6 x6_2) ∧ Aside0 (Below w.heap.size w w'))
     case atStart => exact ⟨(x6_1), (x7_1), (by first | rfl | (simp; done) | (simp [*]; done)), H', ⟨Nat.le_refl _⟩, ⟨by (with_reducible repeat (first | apply Kd.R_alloc | apply Kd.R_drewN | apply Kd.R_drew)); exact HO_6.out⟩, ⟨by repeat (first | (with_reducible first | exact HB.out | apply below_alloc | apply pw_below_drewN | apply below_drew1) | exact HB.out)⟩⟩
     case round =>
      clear H'
      try clear c1
      try clear c2
      try clear p2
      try clear c3
      try clear c3b0
      try clear c3b1
      try clear p3
      try clear q3
      try clear hx3
      try clear c4
      try clear c4b0
      try clear c5
      try clear c5b0
      try clear p6
      try clear c9
      try clear c9b0
      try clear c11
      try clear c11b0
      try clear c14
      try clear c15
      try clear c15b0
      try clear c16
      try clear c16b0
      try clear c17
      try clear c17b0
      try clear c18
      try clear c20
      try clear c21
      try clear c21b0
      try clear c21b1
      try clear c24
      try clear c24b0
      try clear c25
      try clear c25b0
      try clear c28
      try clear c28b0
      try clear c29
      try clear c29b0
      try clear c30
      try clear c30b0
      try clear c31
      try clear c31b0
      try clear c31b1
      try clear c34
      try clear c37
      try clear p37
      try clear q37
      try clear hx37
      try clear hcz10_0
      try clear hcz10_1
      try clear hcz10_2
      try clear hcz10_3
      try clear hcz12_0
      try clear hcz12_1
      try clear hcz12_2
      try clear hcz12_3
      try clear hcz13_0
      try clear hcz13_1
      try clear hcz13_2
      try clear hcz13_3
      try clear hcz19_0
      try clear hcz19_1
      try clear hcz19_2
      try clear hcz19_3
      try clear hcz22_0
      try clear hcz22_1
      try clear hcz22_2
      try clear hcz22_3
      try clear hcz26_0
      try clear hcz26_1
      try clear hcz26_2
      try clear hcz26_3
      try clear hcz32_0
      try clear hcz32_1
      try clear hcz32_2
      try clear hcz32_3
      try clear hcz33_0
      try clear hcz33_1
      try clear hcz33_2
      try clear hcz33_3
      try clear hcz35_0
      try clear hcz35_1
      try clear hcz35_2
      try clear hcz35_3
      try clear hcz37_0
      try clear hcz37_1
      try clear hcz37_2
      try clear hcz37_3
      try clear hcz38_0
      try clear hcz38_1
      try clear hcz38_2
      try clear hcz38_3
      try clear hcz8_0
      try clear hcz8_1
      try clear hcz8_2
      try clear hcz8_3
      try clear hfz10_0
      try clear hfz10_1
      try clear hfz10_2
      try clear hfz10_3
      try clear hfz12_0
      try clear hfz12_1
      try clear hfz12_2
      try clear hfz12_3
      try clear hfz13_0
      try clear hfz13_1
      try clear hfz13_2
      try clear hfz13_3
      try clear hfz19_0
      try clear hfz19_1
      try clear hfz19_2
      try clear hfz19_3
      try clear hfz22_0
      try clear hfz22_1
      try clear hfz22_2
      try clear hfz22_3
      try clear hfz26_0
      try clear hfz26_1
      try clear hfz26_2
      try clear hfz26_3
      try clear hfz32_0
      try clear hfz32_1
      try clear hfz32_2
      try clear hfz32_3
      try clear hfz33_0
      try clear hfz33_1
      try clear hfz33_2
      try clear hfz33_3
      try clear hfz35_0
      try clear hfz35_1
      try clear hfz35_2
      try clear hfz35_3
      try clear hfz37_0
      try clear hfz37_1
      try clear hfz37_2
      try clear hfz37_3
      try clear hfz38_0
      try clear hfz38_1
      try clear hfz38_2
      try clear hfz38_3
      try clear hfz8_0
      try clear hfz8_1
      try clear hfz8_2
      try clear hfz8_3
      try clear hx370_0
      try clear hx370_1
      try clear hx370_2
      try clear hx370_3
      try clear hx372_0
      try clear hx376_0
      try clear hx377_0
      try clear p2
      try clear p3
      try clear p370
      try clear p372
      try clear p376
      try clear p377
      try clear p6
      try clear q3
      try clear q370
      try clear q372
      try clear q376
      try clear q377
      obtain ⟨x6_2, x12_2, rfl, HA, HK2, HO_6, HB⟩ := hrel
      cases gk with
      | zero => exact absurd HA.out (by simp [forebearref05_Apply.l3])
      | succ k2 =>
       have H := HA.out
       clear HA
       simp only [forebearref05_Apply.l3] at H
       by_cases c40 : x12_2 < (l0.length : Int)
       ·rw [if_pos c40] at H
        have c40b0 : decide (x12_2 < (l0.length : Int)) = true := decide_eq_true c40
        clear c40
        by_cases c41 : 0 ≤ x12_2
        ·rw [if_pos c41] at H
         have c41b0 : decide (0 ≤ x12_2) = true := decide_eq_true c41
         clear c41
         by_cases c42 : x6_2.length < 8796093022208
         ·rw [if_pos c42] at H
          have LMc42 := Aside0.mk c42
          clear c42
          obtain ⟨y382, hy382⟩ : ∃ y_ : List ByteArray, y_ = (x6_2 ++ [rdOf ByteArray.empty l0 x12_2]) := ⟨_, rfl⟩
          replace H : (forebearref05_Apply.l3 k2 l0 y382 (wrap64 (x12_2 + 1))) = some (r1, r2) := by first | (rw [hy382]; with_reducible exact H) | (have H2_ := (Option.bind_some _ _).symm.trans H; rw [hy382]; with_reducible exact H2_) | (have H2_ := (Option.bind_some _ _).symm.trans H; with_reducible exact H2_) | with_reducible exact H | (rw [hy382]; exact H) | exact H
          have Ny382 := Aside0.mk hy382
          clear hy382
          have H' := Aside0.mk H
          clear H
          have p381 : 0 ≤ (x12_2 : Int) := of_decide_eq_true (by first | (with_reducible assumption) | assumption)
          have q381 : x12_2 < (l0.length : Int) := of_decide_eq_true (by first | (with_reducible assumption) | assumption)
          obtain ⟨ad381, e381, hx381_0⟩ := Kd.at_string HR0.out x12_2 p381 q381
          cases e381
          try replace hx381_0 := (HB.out.cell (World.block_lt_of_cell? w _ hx381_0)).trans hx381_0
          replace p381 := eq_true p381
          replace q381 := eq_true q381
          go_wp2_with (first | ((with_reducible refine gate_builtin (b := .append) (xs := #[.tmp 110, .tmp 115]) rfl ?_); (try (refine gate_guard (by rfl) ?_; dsimp only)); at_builtin; refine Kd.R_append Kd.string (w0 := w) w.heap.size rfl (.tmp 110) (.tmp 115) 22 9 (.string ⟨#[]⟩) 16 rfl Try.underlying22 info9 rfl (by decide) (by omega) u6 x6_2 (rdOf ByteArray.empty l0 x12_2) [.string (rdOf ByteArray.empty l0 x12_2)] (fun _ => True) (fun _ => False) rfl rfl ?aP (fun _ hk => hk.elim) ?aF ?aO ?aB ?aS ?aL ?_; (case aP => exact rfl); (case aB => exact (by repeat (first | (with_reducible first | exact HB.out | apply below_alloc | apply pw_below_drewN | apply below_drew1) | exact HB.out))); (case aF => exact (fun _ _ => trivial)); (case aO => exact (by (with_reducible repeat (first | apply Kd.R_alloc | apply Kd.R_drewN | apply Kd.R_drew)); exact HO_6.out)); (case aS => exact (below_size (by repeat (first | (with_reducible first | exact HB.out | apply below_alloc | apply pw_below_drewN | apply below_drew1) | exact HB.out)))); (case aL => have := LMc42.out; omega); intro v383 w43 ho hb hg hat; rw [← Ny382.out] at ho; have n0_ := Aside0.mk (hb); have n1_ := Aside0.mk (ho); clear HB; clear HO_6; have HB := n0_; have HO384 := n1_; clear n0_ n1_; clear ho hb hg hat))
          repeat (go_quiet (fail); try go_wp2_with (first | ((with_reducible refine gate_builtin (b := .append) (xs := #[.tmp 110, .tmp 115]) rfl ?_); (try (refine gate_guard (by rfl) ?_; dsimp only)); at_builtin; refine Kd.R_append Kd.string (w0 := w) w.heap.size rfl (.tmp 110) (.tmp 115) 22 9 (.string ⟨#[]⟩) 16 rfl Try.underlying22 info9 rfl (by decide) (by omega) u6 x6_2 (rdOf ByteArray.empty l0 x12_2) [.string (rdOf ByteArray.empty l0 x12_2)] (fun _ => True) (fun _ => False) rfl rfl ?aP (fun _ hk => hk.elim) ?aF ?aO ?aB ?aS ?aL ?_; (case aP => exact rfl); (case aB => exact (by repeat (first | (with_reducible first | exact HB.out | apply below_alloc | apply pw_below_drewN | apply below_drew1) | exact HB.out))); (case aF => exact (fun _ _ => trivial)); (case aO => exact (by (with_reducible repeat (first | apply Kd.R_alloc | apply Kd.R_drewN | apply Kd.R_drew)); exact HO_6.out)); (case aS => exact (below_size (by repeat (first | (with_reducible first | exact HB.out | apply below_alloc | apply pw_below_drewN | apply below_drew1) | exact HB.out)))); (case aL => have := LMc42.out; omega); intro v383 w43 ho hb hg hat; rw [← Ny382.out] at ho; have n0_ := Aside0.mk (hb); have n1_ := Aside0.mk (ho); clear HB; clear HO_6; have HB := n0_; have HO384 := n1_; clear n0_ n1_; clear ho hb hg hat)))
          go_roundg k2
          case measure => have := HK1.out; have := HK2.out; omega
          case rel => exact ⟨(y382), (wrap64 (x12_2 + 1)), (by first | rfl | (simp; done) | (simp [*]; done)), H', ⟨by have := HK1.out; have := HK2.out; omega⟩, ⟨by (with_reducible repeat (first | apply Kd.R_alloc | apply Kd.R_drewN | apply Kd.R_drew)); exact HO384.out⟩, ⟨by repeat (first | (with_reducible first | exact HB.out | apply below_alloc | apply pw_below_drewN | apply below_drew1) | exact HB.out)⟩⟩
         ·rw [if_neg c42] at H
          exact absurd H (by simp)
        ·rw [if_neg c41] at H
         exact absurd H (by simp)
       ·rw [if_neg c40] at H
        have c40b0 : decide (x12_2 < (l0.length : Int)) = false := decide_eq_false c40
        clear c40
        by_cases c44 : (x6_2.length : Int) > 256
        ·rw [if_pos c44] at H
         have c44b0 : decide (256 < (x6_2.length : Int)) = true := decide_eq_true c44
         have c44b1 : decide (256 < x6_2.length) = true := decide_eq_true (by omega)
         clear c44
         simp only [Option.some.injEq, Prod.mk.injEq] at H
         obtain ⟨rfl, rfl⟩ := H
         obtain ⟨Ao45, co45, eo45⟩ := Kd.R_slice HO_6.out
         subst eo45
         go_wp2
         repeat (go_quiet (fail); try go_wp2)
         go_ret2
         exact ⟨_, by first | rfl | (simp [errW_none, errW_some] <;> rfl) | (simp [*, errW_none, errW_some] <;> rfl), by first | exact Kd.R_nil _ _ _ _ _ | exact Kd.N_nil _ _ _ _ _ | exact Kd.V_nil _ _ _ _ _ | exact Kd.Q_nil _ _ _ _ _ | exact Kd.S_nil _ _ _ _ _, by repeat (first | (with_reducible first | exact HB.out | apply below_alloc | apply pw_below_drewN | apply below_drew1) | exact HB.out)⟩
        ·rw [if_neg c44] at H
         have c44b0 : decide (256 < (x6_2.length : Int)) = false := decide_eq_false c44
         have c44b1 : decide (256 < x6_2.length) = false := decide_eq_false (by omega)
         clear c44
         simp only [Option.some.injEq, Prod.mk.injEq] at H
         obtain ⟨rfl, rfl⟩ := H
         obtain ⟨Ao46, co46, eo46⟩ := Kd.R_slice HO_6.out
         subst eo46
         go_wp2
         repeat (go_quiet (fail); try go_wp2)
         go_ret2
         exact ⟨_, by first | rfl | (simp [errW_none, errW_some] <;> rfl) | (simp [*, errW_none, errW_some] <;> rfl), by (with_reducible repeat (first | apply Kd.R_alloc | apply Kd.R_drewN | apply Kd.R_drew)); exact HO_6.out, by repeat (first | (with_reducible first | exact HB.out | apply below_alloc | apply pw_below_drewN | apply below_drew1) | exact HB.out)⟩

end Go.Proofs.Ythigjlahanejjaa.MD

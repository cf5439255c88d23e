/- Laid by this claim's own program (myprint) out of the translation: functions that the laws of the group O reach, each as a plain function, with the proof that the Go code comes to it. No condition. -/
import Derived.Test.YthigjlahanejjaaMOx0
import Derived.Test.YthigjlahanejjaaMOx1
import Derived.Test.YthigjlahanejjaaMOx3
namespace Go.Proofs.Ythigjlahanejjaa.MO
open Go.Proofs.Ythigjlahanejjaa.Opening
open Go.RowKit Go.Proofs.YthigjlahanejjaaW.PrintWords Go.Proofs.YthigjlahanejjaaW.PrintLast Go.Proofs.YthigjlahanejjaaW.PrintMore
attribute [local go_sem] max2_int min2_int max_two min_two max_three min_three max_four min_four   -- for this text's walks alone
set_option linter.unusedVariables false
set_option linter.unusedSimpArgs false

/-! ### object_Commit: function 30 -/
mutual
def object_Commit.j0 : Nat → Bool → Int → List Int → Int → ByteArray → Option (List Int × Int)
 | 0, _, _, _, _, _ => none
 | k + 1, x16, x141000, x141001, x141002, x141003 => if x16 = true then (some (([] : List Int), 4)) else ((object_eight.f k ([] : List Int) x141000).bind fun t141 => ((some (([((x141001.length : Int)) % 256] : List Int) : List Int)).bind fun y144 => (if t141.length + y144.length < 140737488355328 then (object_Commit.l0 k (t141 ++ y144) x141001 (x141001.length : Int) 0 x141000 x141001 x141002 x141003) else (none))))
def object_Commit.l0 : Nat → List Int → List Int → Int → Int → Int → List Int → Int → ByteArray → Option (List Int × Int)
 | 0, _, _, _, _, _, _, _, _ => none
 | k + 1, x4, x27, x28, x29, x141000, x141001, x141002, x141003 => if x29 < x28 then (if 0 ≤ x29 then (if x29 < (x27.length : Int) then (if x29 ≤ (x141001.length : Int) then ((api_ID_53.f k (x141001.take (x29 : Int).toNat) (rd x27 x29)).bind fun t164 => (if t164 = true then (some (([] : List Int), 6)) else ((object_eight.f k x4 (rd x27 x29)).bind fun t165 => (object_Commit.l0 k t165 x27 x28 (wrap64 (x29 + 1)) x141000 x141001 x141002 x141003)))) else (none)) else (none)) else (none)) else (if x141002 < 0 then (some (([] : List Int), 3)) else (if x141002 > 1099511627776 then (some (([] : List Int), 3)) else ((object_eight.f k x4 (IntKind.u64.wrap (x141002))).bind fun t150 => ((some (([((x141003.size : Int)) % 256] : List Int) : List Int)).bind fun y153 => (if t150.length + y153.length < 140737488355328 then ((some (t150 ++ y153 : List Int)).bind fun y156 => (if y156.length + x141003.size < 140737488355328 then (some ((y156 ++ bytesOf x141003), 0)) else (none))) else (none))))))
end
def object_Commit.f (k : Nat) (a0_0 : Int) (l0_1 : List Int) (a0_2 : Int) (a0_3 : ByteArray) : Option (List Int × Int) := if (l0_1.length : Int) > 8 then (object_Commit.j0 k true a0_0 l0_1 a0_2 a0_3) else (object_Commit.j0 k (decide ((a0_3.size : Int) > 64)) a0_0 l0_1 a0_2 a0_3)
theorem object_Commit.mono_l : ∀ k, (∀ y0 y1 y2 y3 y4, LeO (object_Commit.j0 k y0 y1 y2 y3 y4) (object_Commit.j0 (k + 1) y0 y1 y2 y3 y4)) ∧ (∀ y0 y1 y2 y3 y4 y5 y6 y7, LeO (object_Commit.l0 k y0 y1 y2 y3 y4 y5 y6 y7) (object_Commit.l0 (k + 1) y0 y1 y2 y3 y4 y5 y6 y7))
 | 0 => ⟨fun _ _ _ _ _ r h => by simp [object_Commit.j0] at h, fun _ _ _ _ _ _ _ _ r h => by simp [object_Commit.l0] at h⟩
 | k + 1 => by
  obtain ⟨ih0, ih1⟩ := object_Commit.mono_l k
  refine ⟨?_, ?_⟩
  ·intro y0 y1 y2 y3 y4
   unfold object_Commit.j0
   repeat' first
   | (with_reducible exact ih0 _ _ _ _ _)
   | (with_reducible exact ih1 _ _ _ _ _ _ _ _)
   | (with_reducible exact api_ID_53.mono _ _ _)
   | (with_reducible exact object_eight.mono _ _ _)
   | (with_reducible exact LeO.refl _)
   | (with_reducible exact LeO.none _)
   | (with_reducible refine LeO.ite ?_ ?_)
   | (with_reducible refine LeO.bind ?_ (fun _ => ?_))
   | exact ih0 _ _ _ _ _
   | exact ih1 _ _ _ _ _ _ _ _
   | exact api_ID_53.mono _ _ _
   | exact object_eight.mono _ _ _
   | exact LeO.none _
   | refine LeO.ite ?_ ?_
   | refine LeO.bind ?_ (fun _ => ?_)
  ·intro y0 y1 y2 y3 y4 y5 y6 y7
   unfold object_Commit.l0
   repeat' first
   | (with_reducible exact ih0 _ _ _ _ _)
   | (with_reducible exact ih1 _ _ _ _ _ _ _ _)
   | (with_reducible exact api_ID_53.mono _ _ _)
   | (with_reducible exact object_eight.mono _ _ _)
   | (with_reducible exact LeO.refl _)
   | (with_reducible exact LeO.none _)
   | (with_reducible refine LeO.ite ?_ ?_)
   | (with_reducible refine LeO.bind ?_ (fun _ => ?_))
   | exact ih0 _ _ _ _ _
   | exact ih1 _ _ _ _ _ _ _ _
   | exact api_ID_53.mono _ _ _
   | exact object_eight.mono _ _ _
   | exact LeO.none _
   | refine LeO.ite ?_ ?_
   | refine LeO.bind ?_ (fun _ => ?_)
theorem object_Commit.mono : ∀ a0 a1 a2 a3 k, LeO (object_Commit.f k a0 a1 a2 a3) (object_Commit.f (k + 1) a0 a1 a2 a3) := by
 intro a0 a1 a2 a3 k
 obtain ⟨ih0, ih1⟩ := object_Commit.mono_l k
 unfold object_Commit.f
 repeat' first
   | (with_reducible exact ih0 _ _ _ _ _)
   | (with_reducible exact ih1 _ _ _ _ _ _ _ _)
   | (with_reducible exact api_ID_53.mono _ _ _)
   | (with_reducible exact object_eight.mono _ _ _)
   | (with_reducible exact LeO.refl _)
   | (with_reducible exact LeO.none _)
   | (with_reducible refine LeO.ite ?_ ?_)
   | (with_reducible refine LeO.bind ?_ (fun _ => ?_))
   | exact ih0 _ _ _ _ _
   | exact ih1 _ _ _ _ _ _ _ _
   | exact api_ID_53.mono _ _ _
   | exact object_eight.mono _ _ _
   | exact LeO.none _
   | refine LeO.ite ?_ ?_
   | refine LeO.bind ?_ (fun _ => ?_)
def object_Commit.T3 : Bool × List (List Nat × List Nat) := (true, [([], []), ([0], [0]), ([1], [1]), ([], []), ([3], [3]), ([4], [4]), ([5], [5]), ([6], [6]), ([2, 7, 2], [2, 7]), ([8, 8, 0, 1, 2, 3, 4, 5, 6, 7, 8], [8])])
def object_Commit.B3 : List Nat := [0, 1, 3, 0, 8, 24, 56, 120, 255, 511]
theorem object_Commit.tab3 : rtab .any (opsOf Try.f30 3) = object_Commit.T3 := by kernel_rfl
theorem object_Commit.bits3 : waitsOk object_Commit.T3.2 object_Commit.B3 = true := by kernel_rfl
def object_Commit.T13 : Bool × List (List Nat × List Nat) := (true, [([], []), ([], []), ([1], [1]), ([2], [2]), ([0, 3], [0, 3]), ([], []), ([5], [5]), ([6], [6]), ([7], [7]), ([8], [8]), ([4, 9, 4], [4, 9]), ([10, 10, 0, 1, 2, 3, 4, 5, 6, 7, 8, 9, 10], [0, 10])])
def object_Commit.B13 : List Nat := [0, 0, 2, 6, 15, 0, 32, 96, 224, 480, 1023, 2047]
theorem object_Commit.tab13 : rtab .any (opsOf Try.f30 13) = object_Commit.T13 := by kernel_rfl
theorem object_Commit.bits13 : waitsOk object_Commit.T13.2 object_Commit.B13 = true := by kernel_rfl
set_option maxHeartbeats 8000000 in
set_option maxRecDepth 100000 in
theorem object_Commit.calls (k : Nat) (a0_0 : Int) (A0_1 : Option Addr) (c0_1 : Nat) (l0_1 : List Int) (a0_2 : Int) (a0_3 : ByteArray) (r1 : List Int) (r2 : Int) (w : World) (hr0_1 : Kd.C (Kd.int .u64) w A0_1 l0_1.length l0_1) (hc0_1 : l0_1.length ≤ c0_1) (h : object_Commit.f k a0_0 l0_1 a0_2 a0_3 = some (r1, r2)) :
  Calls Try.prog 30 #[.agg #[.int .u64 a0_0, .slice A0_1 l0_1.length c0_1, .int .i64 a0_2, .string a0_3]] w fun e w' => ∃ v0_ : Value, e = .returned (.tuple #[v0_, .int .i64 r2]) ∧ Kd.R (Kd.int .u8) 5 w' w.heap.size (fun _ => True) v0_ r1 ∧ Below w.heap.size w w' := by
 have hu77 := Try.underlying77
 have HR0_1 := Aside0.mk hr0_1
 have HC0_1 := Aside0.mk hc0_1
 clear hr0_1 hc0_1
 have HB := Aside0.mk (Below.refl w.heap.size w)
 have H : (if (l0_1.length : Int) > 8 then (object_Commit.j0 k true a0_0 l0_1 a0_2 a0_3) else (object_Commit.j0 k (decide ((a0_3.size : Int) > 64)) a0_0 l0_1 a0_2 a0_3)) = some (r1, r2) := h
 clear h
 have HC2 := Aside0.mk H
 clear H
 go_enter Try.func30, Try.ntmps30
 go_upto_region 1 with (first | ((with_reducible refine gate_dst (N := 1) rfl ?_); (try (refine gate_guard (by rfl) ?_; dsimp only)); refine box_event ?hg (N := 1) ?hd (cs := #[.int .u64 a0_0, .slice A0_1 l0_1.length c0_1, .int .i64 a0_2, .string a0_3]) (t := 77) ?hr ?_; (case hd => rfl); (case hg => rfl); (case hr => first | (go_simp; done) | (go_simp; rfl)); intro gb140 hg w3 hbox hb; have n0_ := Aside0.mk (below_step (by repeat (first | (with_reducible first | exact HB.out | apply below_alloc | apply pw_below_drewN | apply below_drew1) | exact HB.out)) hb); have n1_ := Aside0.mk (hbox); have n2_ := Aside0.mk ((by rw [hg]; exact (below_size (by repeat (first | (with_reducible first | exact HB.out | apply below_alloc | apply pw_below_drewN | apply below_drew1) | exact HB.out))) : w.heap.size ≤ gb140)); have n3_ := Aside0.mk ((by rw [hg]; exact (below_size (by repeat (first | (with_reducible first | exact HB.out | apply below_alloc | apply pw_below_drewN | apply below_drew1) | exact HB.out))) : w.heap.size ≤ gb140)); clear HB; have HB := n0_; have BK140 := n1_; have GW140 := n2_; have GE140 := n3_; clear n0_ n1_ n2_ n3_; clear hb hbox hg))
 (try simp only [Act.put, List.setIfInBounds_toArray, List.set_cons_zero, List.set_cons_succ])
 go_cut [16] (fun v16 wc => ∃ (kq : Nat) (x16_1 : Bool), v16 = .bool x16_1 ∧ Aside0 (object_Commit.j0 kq x16_1 a0_0 l0_1 a0_2 a0_3 = some (r1, r2)) ∧ Aside0 (kq ≤ k) ∧ Aside0 (wc.heap[gb140]? = some (.cells #[.int .u64 a0_0, (.slice A0_1 l0_1.length c0_1), .int .i64 a0_2, .string a0_3] 77 (0, 0))) ∧ Aside0 (Below w.heap.size w wc))
 case first =>
  have H := HC2.out
  clear HC2
  by_cases c4 : (l0_1.length : Int) > 8
  ·rw [if_pos c4] at H
   have c4b0 : decide (8 < (l0_1.length : Int)) = true := decide_eq_true c4
   have c4b1 : decide (8 < l0_1.length) = true := decide_eq_true (by omega)
   clear c4
   (first | rw [c4b0] | (simp only [i64_w, i32_w]; rw [c4b0]) | skip)
   have H' := Aside0.mk H
   clear H
   have hcz5_0 : w3.cell? ⟨gb140, 0, none⟩ = some (.int .u64 a0_0) := (blk_cell BK140.out 0).trans rfl
   have hcz5_1 : w3.cell? ⟨gb140, 1, none⟩ = some (.slice A0_1 l0_1.length c0_1) := (blk_cell BK140.out 1).trans rfl
   have hcz5_2 : w3.cell? ⟨gb140, 2, none⟩ = some (.int .i64 a0_2) := (blk_cell BK140.out 2).trans rfl
   have hcz5_3 : w3.cell? ⟨gb140, 3, none⟩ = some (.string a0_3) := (blk_cell BK140.out 3).trans rfl
   have hfz5_0 := blk_frozen BK140.out 0
   have hfz5_1 := blk_frozen BK140.out 1
   have hfz5_2 := blk_frozen BK140.out 2
   have hfz5_3 := blk_frozen BK140.out 3
   go_wp2
   go_meet
   case rel => exact ⟨_, (true), (by first | rfl | (simp; done) | (simp [*]; done)), H', ⟨by first | omega | exact Nat.le_refl _⟩, ⟨by (with_reducible repeat (first | refine blk_drewN ?_ _ | refine blk_drew ?_ | refine blk_alloc ?_ _)); exact BK140.out⟩, ⟨by repeat (first | (with_reducible first | exact HB.out | apply below_alloc | apply pw_below_drewN | apply below_drew1 | refine below_set ?_ GE140.out) | exact HB.out)⟩⟩
  ·rw [if_neg c4] at H
   have c4b0 : decide (8 < (l0_1.length : Int)) = false := decide_eq_false c4
   have c4b1 : decide (8 < l0_1.length) = false := decide_eq_false (by omega)
   clear c4
   (first | rw [c4b0] | (simp only [i64_w, i32_w]; rw [c4b0]) | skip)
   have H' := Aside0.mk H
   clear H
   have hcz6_0 : w3.cell? ⟨gb140, 0, none⟩ = some (.int .u64 a0_0) := (blk_cell BK140.out 0).trans rfl
   have hcz6_1 : w3.cell? ⟨gb140, 1, none⟩ = some (.slice A0_1 l0_1.length c0_1) := (blk_cell BK140.out 1).trans rfl
   have hcz6_2 : w3.cell? ⟨gb140, 2, none⟩ = some (.int .i64 a0_2) := (blk_cell BK140.out 2).trans rfl
   have hcz6_3 : w3.cell? ⟨gb140, 3, none⟩ = some (.string a0_3) := (blk_cell BK140.out 3).trans rfl
   have hfz6_0 := blk_frozen BK140.out 0
   have hfz6_1 := blk_frozen BK140.out 1
   have hfz6_2 := blk_frozen BK140.out 2
   have hfz6_3 := blk_frozen BK140.out 3
   go_wp2
   go_meet
   case rel => exact ⟨_, (decide ((a0_3.size : Int) > 64)), (by first | rfl | (simp; done) | (simp [*]; done)), H', ⟨by first | omega | exact Nat.le_refl _⟩, ⟨by (with_reducible repeat (first | refine blk_drewN ?_ _ | refine blk_drew ?_ | refine blk_alloc ?_ _)); exact BK140.out⟩, ⟨by repeat (first | (with_reducible first | exact HB.out | apply below_alloc | apply pw_below_drewN | apply below_drew1 | refine below_set ?_ GE140.out) | exact HB.out)⟩⟩
 case rest =>
  clear HC2
  try clear p2
  try clear c3
  try clear c4
  try clear c4b0
  try clear c4b1
  try clear hcz5_0
  try clear hcz5_1
  try clear hcz5_2
  try clear hcz5_3
  try clear hcz6_0
  try clear hcz6_1
  try clear hcz6_2
  try clear hcz6_3
  try clear hfz5_0
  try clear hfz5_1
  try clear hfz5_2
  try clear hfz5_3
  try clear hfz6_0
  try clear hfz6_1
  try clear hfz6_2
  try clear hfz6_3
  obtain ⟨kq, x16_1, rfl, HA, HJ1, BK140, HB⟩ := hcut
  cases kq with
  | zero => exact absurd HA.out (by simp [object_Commit.j0])
  | succ kj1 =>
   have H := HA.out
   clear HA
   simp only [object_Commit.j0] at H
   by_cases c7 : x16_1 = true
   ·subst c7
    have H1 : (some (([] : List Int), 4)) = some (r1, r2) := by rw [if_pos rfl] at H; exact H
    clear H
    have H := H1
    clear H1
    simp only [Option.some.injEq, Prod.mk.injEq] at H
    obtain ⟨rfl, rfl⟩ := H
    go_wp2
    go_ret2
    exact ⟨_, by first | rfl | (simp [errW_none, errW_some] <;> rfl) | (simp [*, errW_none, errW_some] <;> rfl), by first | exact Kd.R_nil _ _ _ _ _ | exact Kd.N_nil _ _ _ _ _ | exact Kd.V_nil _ _ _ _ _ | exact Kd.Q_nil _ _ _ _ _ | exact Kd.S_nil _ _ _ _ _, by repeat (first | (with_reducible first | exact HB.out | apply below_alloc | apply pw_below_drewN | apply below_drew1 | refine below_set ?_ GE140.out) | exact HB.out)⟩
   ·replace c7 := Bool.eq_false_iff.mpr c7
    subst c7
    have H1 : ((object_eight.f kj1 ([] : List Int) a0_0).bind fun t141 => ((some (([((l0_1.length : Int)) % 256] : List Int) : List Int)).bind fun y144 => (if t141.length + y144.length < 140737488355328 then (object_Commit.l0 kj1 (t141 ++ y144) l0_1 (l0_1.length : Int) 0 a0_0 l0_1 a0_2 a0_3) else (none)))) = some (r1, r2) := by rw [if_neg (show ¬ (false = true) by decide)] at H; exact H
    clear H
    have H := H1
    clear H1
    replace H := Option.bind_eq_some_iff.mp H
    obtain ⟨t141, A80, H⟩ := H
    replace H : ((some (([((l0_1.length : Int)) % 256] : List Int) : List Int)).bind fun y144 => (if t141.length + y144.length < 140737488355328 then (object_Commit.l0 kj1 (t141 ++ y144) l0_1 (l0_1.length : Int) 0 a0_0 l0_1 a0_2 a0_3) else (none))) = some (r1, r2) := H
    have A8 := Aside0.mk A80
    clear A80
    obtain ⟨y144, hy144⟩ : ∃ y_ : List Int, y_ = (([((l0_1.length : Int)) % 256] : List Int)) := ⟨_, rfl⟩
    replace H : (if t141.length + y144.length < 140737488355328 then (object_Commit.l0 kj1 (t141 ++ y144) l0_1 (l0_1.length : Int) 0 a0_0 l0_1 a0_2 a0_3) else (none)) = some (r1, r2) := by first | (rw [hy144]; with_reducible exact H) | (have H2_ := (Option.bind_some _ _).symm.trans H; rw [hy144]; with_reducible exact H2_) | (have H2_ := (Option.bind_some _ _).symm.trans H; with_reducible exact H2_) | with_reducible exact H | (rw [hy144]; exact H) | exact H
    have Ny144 := Aside0.mk hy144
    clear hy144
    by_cases c9 : t141.length + y144.length < 140737488355328
    ·rw [if_pos c9] at H
     have LMc9 := Aside0.mk c9
     clear c9
     obtain ⟨y147, hy147⟩ : ∃ y_ : List Int, y_ = (t141 ++ y144) := ⟨_, rfl⟩
     replace H : (object_Commit.l0 kj1 y147 l0_1 (l0_1.length : Int) 0 a0_0 l0_1 a0_2 a0_3) = some (r1, r2) := by first | (rw [hy147]; with_reducible exact H) | (have H2_ := (Option.bind_some _ _).symm.trans H; rw [hy147]; with_reducible exact H2_) | (have H2_ := (Option.bind_some _ _).symm.trans H; with_reducible exact H2_) | with_reducible exact H | (rw [hy147]; exact H) | exact H
     have Ny147 := Aside0.mk hy147
     clear hy147
     have H' := Aside0.mk H
     clear H
     try go_wp2
     have n0_ := Aside0.mk (blk_drew BK140.out)
     have n1_ := Aside0.mk (below_drew1 HB.out)
     clear BK140
     clear HB
     have BK140 := n0_
     have HB := n1_
     clear n0_ n1_
     refine start_ (n := 10) (S := fun w' => w'.cell? ⟨gb140, 0, none⟩ = some (.int .u64 a0_0) ∧ w'.cell? ⟨gb140, 1, none⟩ = some (.slice A0_1 l0_1.length c0_1) ∧ w'.cell? ⟨gb140, 2, none⟩ = some (.int .i64 a0_2) ∧ w'.cell? ⟨gb140, 3, none⟩ = some (.string a0_3)) (ds := []) #[false, false, false, false, false, false, false, false, false, false] (by kernel_rfl) rfl rfl ⟨(blk_cell BK140.out 0).trans rfl, (blk_cell BK140.out 1).trans rfl, (blk_cell BK140.out 2).trans rfl, (blk_cell BK140.out 3).trans rfl⟩ (fun hHeld => ?_); refine with_tabW object_Commit.tab3 object_Commit.bits3 (fun HT_ HW_ => ?_)
     generalize wc.drew = w10 at BK140 HB hHeld ⊢
     refine pure_ (i := 0) (N := some 17) (v := ?_) (a' := ?_) #[true, false, false, false, false, false, false, false, false, false] rfl rfl (any_of HT_.out (by kernel_rfl)) (fun _ _ _ h => h) (Or.inl ⟨by rfl, ?_⟩) ?_ ?_
     rotate_left
     ·intro w'
      go_simp
      with_reducible rfl
     rotate_left
     ·simp only [Act.put, List.setIfInBounds_toArray, List.set_cons_zero, List.set_cons_succ, i64_w, i32_w]
      rfl
     refine pure_ (i := 3) (N := some 20) (v := ?_) (a' := ?_) #[true, false, false, true, false, false, false, false, false, false] rfl rfl (any_of HT_.out (by kernel_rfl)) (fun _ _ _ h => h) (Or.inl ⟨by rfl, ?_⟩) ?_ ?_
     rotate_left
     ·intro w'
      go_simp
      with_reducible rfl
     rotate_left
     ·simp only [Act.put, List.setIfInBounds_toArray, List.set_cons_zero, List.set_cons_succ, i64_w, i32_w]
      rfl
     refine take_ (i := 1) (N := some 18) (v := ?_) (a' := ?_) #[true, true, false, true, false, false, false, false, false, false] rfl rfl (take_ofW HT_.out HW_.out (by kernel_rfl)) (fun _ _ _ h => h) (Or.inl ⟨by rfl, ?_⟩) hHeld ?_ ?_
     rotate_left
     ·rintro w' ⟨s0, s1, s2, s3⟩
      go_simp
      with_reducible rfl
     rotate_left
     ·simp only [Act.put, List.setIfInBounds_toArray, List.set_cons_zero, List.set_cons_succ, i64_w, i32_w]
      rfl
     refine take_ (i := 4) (N := some 21) (v := ?_) (a' := ?_) #[true, true, false, true, true, false, false, false, false, false] rfl rfl (take_ofW HT_.out HW_.out (by kernel_rfl)) (fun _ _ _ h => h) (Or.inl ⟨by rfl, ?_⟩) hHeld ?_ ?_
     rotate_left
     ·rintro w' ⟨s0, s1, s2, s3⟩
      go_simp
      with_reducible rfl
     rotate_left
     ·simp only [Act.put, List.setIfInBounds_toArray, List.set_cons_zero, List.set_cons_succ, i64_w, i32_w]
      rfl
     refine pure_ (i := 5) (N := some 22) (v := ?_) (a' := ?_) #[true, true, false, true, true, true, false, false, false, false] rfl rfl (any_of HT_.out (by kernel_rfl)) (fun _ _ _ h => h) (Or.inl ⟨by rfl, ?_⟩) ?_ ?_
     rotate_left
     ·intro w'
      go_simp
      with_reducible rfl
     rotate_left
     ·simp only [Act.put, List.setIfInBounds_toArray, List.set_cons_zero, List.set_cons_succ, i64_w, i32_w]
      rfl
     refine pure_ (i := 6) (N := some 23) (v := ?_) (a' := ?_) #[true, true, false, true, true, true, true, false, false, false] rfl rfl (any_of HT_.out (by kernel_rfl)) (fun _ _ _ h => h) (Or.inl ⟨by rfl, ?_⟩) ?_ ?_
     rotate_left
     ·intro w'
      go_simp
      with_reducible rfl
     rotate_left
     ·simp only [Act.put, List.setIfInBounds_toArray, List.set_cons_zero, List.set_cons_succ, i64_w, i32_w]
      rfl
     refine join_ (σ := Value × Value) 2 #[true, true, true, true, true, true, true, true, false, false] (fun s_ => [(19, s_.1), (24, s_.2)]) (fun s_ w' => (w'.cell? ⟨gb140, 0, none⟩ = some (.int .u64 a0_0) ∧ w'.cell? ⟨gb140, 1, none⟩ = some (.slice A0_1 l0_1.length c0_1) ∧ w'.cell? ⟨gb140, 2, none⟩ = some (.int .i64 a0_2) ∧ w'.cell? ⟨gb140, 3, none⟩ = some (.string a0_3)) ∧ (Kd.R (Kd.int .u8) 5 w' w.heap.size (fun k_ => some k_ ≠ (s_.2 : Value).ownBlock) s_.1 t141) ∧ (Kd.R (Kd.int .u8) 5 w' w.heap.size (fun k_ => some k_ ≠ (s_.1 : Value).ownBlock) s_.2 y144) ∧ (w'.heap[gb140]? = some (.cells #[.int .u64 a0_0, .slice A0_1 l0_1.length c0_1, .int .i64 a0_2, .string a0_3] 77 (0, 0))) ∧ (Below w.heap.size w w')) ?_ ?_
     rotate_left
     ·intro hCont
      refine two_ (i := 2) (j := 7) (Ni := some 19) (Nj := some 24) #[true, true, true, true, true, true, true, false, false, false] #[true, true, false, true, true, true, true, true, false, false] rfl rfl rfl rfl (two_of HT_.out (by kernel_rfl)) (by decide) (by decide) (fun K hK => ?_) (fun K hK => ?_)
      ·skip
       refine goes_ Try.func41 (by kernel_rfl) rfl #[.slice none 0 0, .int .u64 a0_0] (by rfl) rfl rfl (by (try simp only [List.map_toArray, List.map_cons, List.map_nil]); first | done | rfl | (simp only [List.length_drop, List.length_take]; rfl)) ?_
       refine (object_eight.calls kj1 (fun k_ => some k_ = (.slice none 0 0 : Value).ownBlock) (.slice none 0 0) ([] : List Int) a0_0 t141 w _ ?side1 ?side2 A8.out).mono ?_
       (case side1 => repeat (first | (with_reducible first | exact HB.out | apply below_alloc | apply pw_below_drewN | apply below_drew1 | refine below_set ?_ GE140.out) | exact HB.out))
       (case side2 => exact Kd.R_nil _ _ _ _ _)
       rintro e w11 ⟨v142, rfl, ho0, hb, hkp⟩
       refine ⟨_, rfl, ?_⟩
       have n0_ := Aside0.mk (blk_kept (by (with_reducible repeat (first | refine blk_drewN ?_ _ | refine blk_drew ?_ | refine blk_alloc ?_ _)); exact BK140.out) hkp (fun hs_ => (fun e_ => by simp [Value.ownBlock] at e_) hs_))
       have n1_ := Aside0.mk (Kd.R_mono (ok' := fun k_ => True) ho0 (fun k_ hk_ => trivial))
       have n2_ := Aside0.mk (hb)
       clear BK140
       clear HB
       have BK140 := n0_
       have HO143 := n1_
       have HB := n2_
       clear n0_ n1_ n2_
       (try clear hb)
       (try clear hkp)
       (try clear ho0)
       refine hK.out _ _ ⟨(blk_cell BK140.out 0).trans rfl, (blk_cell BK140.out 1).trans rfl, (blk_cell BK140.out 2).trans rfl, (blk_cell BK140.out 3).trans rfl⟩ (fun hHeld => ?_)
       clear hK K
       refine norm_ (a' := ?_) ?_ ?_
       rotate_left
       ·show Act.put _ (some 19) _ = _
        simp only [Act.put, List.setIfInBounds_toArray, List.set_cons_zero, List.set_cons_succ, i64_w, i32_w]
        rfl
       refine one_ (i := 7) (N := some 24) #[true, true, true, true, true, true, true, true, false, false] rfl rfl (one_of HT_.out (by kernel_rfl)) (by decide) (fun K hK => ?_)
       refine Kd.R_lit_step (Kd.int .u8) _ 5 ?hg (N := 24) ?hd (xs := ([((l0_1.length : Int)) % 256] : List Int)) (inner := [.int .u8 (((l0_1.length : Int)) % 256)]) (ok := fun _ => True) (okp := fun _ => True) ?hr ?hp (fun _ hk => hk) trivial (Below.refl _ _) (Nat.le_refl _) (by simp) ?_; (case hd => rfl); (case hg => rfl); (case hr => first | (go_simp; done) | (go_simp; rfl)); (case hp => exact (Reps.one (show Kd.M (Kd.int .u8) _ _ _ (((l0_1.length : Int)) % 256) [.int .u8 (((l0_1.length : Int)) % 256)] from rfl) (Reps.none _ _)))
       intro v145 w12 ho13 hb hg_ hnew_
       clear hg_ hnew_
       (first | rw [← Ny144.out] at ho13 | (simp only [Int.reduceToNat] at ho13; rw [← Ny144.out] at ho13))
       have n0_ := Aside0.mk (Kd.R_elder' (by (with_reducible repeat (first | apply Kd.R_alloc | apply Kd.R_drewN | apply Kd.R_drew)); exact HO143.out) (Kd.R_base ho13) hb)
       have n1_ := Aside0.mk (Kd.R_lower (Kd.R_new' ho13 (Kd.R_lt (by (with_reducible repeat (first | apply Kd.R_alloc | apply Kd.R_drewN | apply Kd.R_drew)); exact HO143.out))) (below_size (by repeat (first | (with_reducible first | exact HB.out | apply below_alloc | apply pw_below_drewN | apply below_drew1 | refine below_set ?_ GE140.out) | exact HB.out))))
       have n2_ := Aside0.mk (blk_below (g := gb140) (o := .cells #[.int .u64 a0_0, .slice A0_1 l0_1.length c0_1, .int .i64 a0_2, .string a0_3] 77 (0, 0)) (by (with_reducible repeat (first | refine blk_drewN ?_ _ | refine blk_drew ?_ | refine blk_alloc ?_ _)); exact BK140.out) hb)
       have n3_ := Aside0.mk (below_step (by repeat (first | (with_reducible first | exact HB.out | apply below_alloc | apply pw_below_drewN | apply below_drew1 | refine below_set ?_ GE140.out) | exact HB.out)) hb)
       clear HO143
       clear BK140
       clear HB
       have HO143 := n0_
       have HO146 := n1_
       have BK140 := n2_
       have HB := n3_
       clear n0_ n1_ n2_ n3_
       clear hb ho13
       refine hK.out _ _ ⟨(blk_cell BK140.out 0).trans rfl, (blk_cell BK140.out 1).trans rfl, (blk_cell BK140.out 2).trans rfl, (blk_cell BK140.out 3).trans rfl⟩ (fun hHeld => ?_)
       clear hK K
       refine norm_ (a' := ?_) ?_ ?_
       rotate_left
       ·show Act.put _ (some 24) _ = _
        simp only [Act.put, List.setIfInBounds_toArray, List.set_cons_zero, List.set_cons_succ, i64_w, i32_w]
        rfl
       exact norm_ (by simp only [putAll, Act.put, List.setIfInBounds_toArray, List.set_cons_zero, List.set_cons_succ]) (hCont (v142, v145) _ ⟨hHeld, (by (with_reducible repeat (first | apply Kd.R_alloc | apply Kd.R_drewN | apply Kd.R_drew)); exact Kd.R_mono HO143.out (fun _ hk => hk.2)), (by (with_reducible repeat (first | apply Kd.R_alloc | apply Kd.R_drewN | apply Kd.R_drew)); exact Kd.R_mono HO146.out (fun _ hk => hk.2)), (by (with_reducible repeat (first | refine blk_drewN ?_ _ | refine blk_drew ?_ | refine blk_alloc ?_ _)); exact BK140.out), (by repeat (first | (with_reducible first | exact HB.out | apply below_alloc | apply pw_below_drewN | apply below_drew1 | refine below_set ?_ GE140.out) | exact HB.out))⟩)
      ·skip
       refine Kd.R_lit_step (Kd.int .u8) _ 5 ?hg (N := 24) ?hd (xs := ([((l0_1.length : Int)) % 256] : List Int)) (inner := [.int .u8 (((l0_1.length : Int)) % 256)]) (ok := fun _ => True) (okp := fun _ => True) ?hr ?hp (fun _ hk => hk) trivial (Below.refl _ _) (Nat.le_refl _) (by simp) ?_; (case hd => rfl); (case hg => rfl); (case hr => first | (go_simp; done) | (go_simp; rfl)); (case hp => exact (Reps.one (show Kd.M (Kd.int .u8) _ _ _ (((l0_1.length : Int)) % 256) [.int .u8 (((l0_1.length : Int)) % 256)] from rfl) (Reps.none _ _)))
       intro v145 w11 ho12 hb hg_ hnew_
       clear hg_ hnew_
       (first | rw [← Ny144.out] at ho12 | (simp only [Int.reduceToNat] at ho12; rw [← Ny144.out] at ho12))
       have n0_ := Aside0.mk (Kd.R_lower ho12 (below_size (by repeat (first | (with_reducible first | exact HB.out | apply below_alloc | apply pw_below_drewN | apply below_drew1 | refine below_set ?_ GE140.out) | exact HB.out))))
       have n1_ := Aside0.mk (blk_below (g := gb140) (o := .cells #[.int .u64 a0_0, .slice A0_1 l0_1.length c0_1, .int .i64 a0_2, .string a0_3] 77 (0, 0)) (by (with_reducible repeat (first | refine blk_drewN ?_ _ | refine blk_drew ?_ | refine blk_alloc ?_ _)); exact BK140.out) hb)
       have n2_ := Aside0.mk (below_step (by repeat (first | (with_reducible first | exact HB.out | apply below_alloc | apply pw_below_drewN | apply below_drew1 | refine below_set ?_ GE140.out) | exact HB.out)) hb)
       clear BK140
       clear HB
       have HO146 := n0_
       have BK140 := n1_
       have HB := n2_
       clear n0_ n1_ n2_
       clear hb ho12
       refine hK.out _ _ ⟨(blk_cell BK140.out 0).trans rfl, (blk_cell BK140.out 1).trans rfl, (blk_cell BK140.out 2).trans rfl, (blk_cell BK140.out 3).trans rfl⟩ (fun hHeld => ?_)
       clear hK K
       refine norm_ (a' := ?_) ?_ ?_
       rotate_left
       ·show Act.put _ (some 24) _ = _
        simp only [Act.put, List.setIfInBounds_toArray, List.set_cons_zero, List.set_cons_succ, i64_w, i32_w]
        rfl
       refine one_ (i := 2) (N := some 19) #[true, true, true, true, true, true, true, true, false, false] rfl rfl (one_of HT_.out (by kernel_rfl)) (by decide) (fun K hK => ?_)
       refine goes_ Try.func41 (by kernel_rfl) rfl #[.slice none 0 0, .int .u64 a0_0] (by rfl) rfl rfl (by (try simp only [List.map_toArray, List.map_cons, List.map_nil]); first | done | rfl | (simp only [List.length_drop, List.length_take]; rfl)) ?_
       refine (object_eight.calls kj1 (fun k_ => some k_ = (.slice none 0 0 : Value).ownBlock) (.slice none 0 0) ([] : List Int) a0_0 t141 w _ ?side1 ?side2 A8.out).mono ?_
       (case side1 => repeat (first | (with_reducible first | exact HB.out | apply below_alloc | apply pw_below_drewN | apply below_drew1 | refine below_set ?_ GE140.out) | exact HB.out))
       (case side2 => exact Kd.R_nil _ _ _ _ _)
       rintro e w13 ⟨v142, rfl, ho0, hb, hkp⟩
       refine ⟨_, rfl, ?_⟩
       have n0_ := Aside0.mk (blk_kept (by (with_reducible repeat (first | refine blk_drewN ?_ _ | refine blk_drew ?_ | refine blk_alloc ?_ _)); exact BK140.out) hkp (fun hs_ => (fun e_ => by simp [Value.ownBlock] at e_) hs_))
       have n1_ := Aside0.mk (Kd.R_mono (ok' := fun k_ => some k_ ≠ (v142 : Value).ownBlock) (Kd.R_keptB (HO146.out) hkp (fun k_ hk_ hs_ => (fun e_ => by simp [Value.ownBlock] at e_) hs_)) (fun k_ hk_ => fun e_ => Or.elim (ho0.1 k_ e_.symm) (fun hs_ => hk_.2.1 hs_) (fun hn_ => Nat.not_le.2 hk_.2.2 hn_)))
       have n2_ := Aside0.mk (Kd.R_mono (ok' := fun k_ => some k_ ≠ (v145 : Value).ownBlock) ho0 (fun k_ hk_ => Or.elim hk_ (fun hs_ => absurd hs_ (by simp [Value.ownBlock])) (fun hn_ => (Kd.fresh' (Kd.R_lt (by (with_reducible repeat (first | apply Kd.R_alloc | apply Kd.R_drewN | apply Kd.R_drew)); exact HO146.out)) k_ hn_))))
       have n3_ := Aside0.mk (hb)
       clear BK140
       clear HO146
       clear HB
       have BK140 := n0_
       have HO146 := n1_
       have HO143 := n2_
       have HB := n3_
       clear n0_ n1_ n2_ n3_
       (try clear hb)
       (try clear hkp)
       (try clear ho0)
       refine hK.out _ _ ⟨(blk_cell BK140.out 0).trans rfl, (blk_cell BK140.out 1).trans rfl, (blk_cell BK140.out 2).trans rfl, (blk_cell BK140.out 3).trans rfl⟩ (fun hHeld => ?_)
       clear hK K
       refine norm_ (a' := ?_) ?_ ?_
       rotate_left
       ·show Act.put _ (some 19) _ = _
        simp only [Act.put, List.setIfInBounds_toArray, List.set_cons_zero, List.set_cons_succ, i64_w, i32_w]
        rfl
       exact norm_ (by simp only [putAll, Act.put, List.setIfInBounds_toArray, List.set_cons_zero, List.set_cons_succ]) (hCont (v142, v145) _ ⟨hHeld, (by (with_reducible repeat (first | apply Kd.R_alloc | apply Kd.R_drewN | apply Kd.R_drew)); exact HO143.out), (by (with_reducible repeat (first | apply Kd.R_alloc | apply Kd.R_drewN | apply Kd.R_drew)); exact HO146.out), (by (with_reducible repeat (first | refine blk_drewN ?_ _ | refine blk_drew ?_ | refine blk_alloc ?_ _)); exact BK140.out), (by repeat (first | (with_reducible first | exact HB.out | apply below_alloc | apply pw_below_drewN | apply below_drew1 | refine below_set ?_ GE140.out) | exact HB.out))⟩)
     rintro ⟨v142, v145⟩ w14 ⟨hS_, h0_, h1_, h2_, h3_⟩
     have n0_ : Aside0 (Kd.R (Kd.int .u8) 5 w14 w.heap.size (fun k_ => some k_ ≠ (v145 : Value).ownBlock) v142 t141) := ⟨h0_⟩
     have n1_ : Aside0 (Kd.R (Kd.int .u8) 5 w14 w.heap.size (fun k_ => some k_ ≠ (v142 : Value).ownBlock) v145 y144) := ⟨h1_⟩
     have n2_ : Aside0 (w14.heap[gb140]? = some (.cells #[.int .u64 a0_0, .slice A0_1 l0_1.length c0_1, .int .i64 a0_2, .string a0_3] 77 (0, 0))) := ⟨h2_⟩
     have n3_ : Aside0 (Below w.heap.size w w14) := ⟨h3_⟩
     clear BK140
     clear HB
     clear h0_ h1_ h2_ h3_
     have HO143 := n0_
     have HO146 := n1_
     have BK140 := n2_
     have HB := n3_
     clear n0_ n1_ n2_ n3_
     have hHeld : w14.cell? ⟨gb140, 0, none⟩ = some (.int .u64 a0_0) ∧ w14.cell? ⟨gb140, 1, none⟩ = some (.slice A0_1 l0_1.length c0_1) ∧ w14.cell? ⟨gb140, 2, none⟩ = some (.int .i64 a0_2) ∧ w14.cell? ⟨gb140, 3, none⟩ = some (.string a0_3) := hS_
     obtain ⟨Ao16, co16, eo16⟩ := Kd.R_slice HO146.out
     (first | subst eo16 | (injection eo16 with f1_ f2_ f3_; have f4_ := f1_.symm; have f5_ := f3_.symm; clear f1_ f2_ f3_; subst f4_; subst f5_))
     refine norm_ (a' := ?_) ?_ ?_
     rotate_left
     ·simp only [putAll, Act.put, List.setIfInBounds_toArray, List.set_cons_zero, List.set_cons_succ]
      rfl
     refine one_ (i := 8) (N := some 25) #[true, true, true, true, true, true, true, true, true, false] rfl rfl (one_of HT_.out (by kernel_rfl)) (by decide) (fun K hK => ?_)
     refine Kd.R_append_rows_step (Kd.int .u8) (w0 := w) w.heap.size (by rfl) (.tmp 19) (.tmp 24) 53 5 (.int .u8 0) 1 rfl Try.underlying53 info5 rfl (by decide) (by omega) v142 t141 y144 _ _ _ (fun k_ => some k_ ≠ (.slice Ao16 y144.length co16 : Value).ownBlock) (fun _ => False) rfl rfl ?aO ?aR (fun _ _ h => h) (fun _ h => h.elim) ?aF ?aB ?aS ?aL ?_
     (case aR => repeat (first | exact (Kd.R_reads' HO146.out).2.2 | (with_reducible refine Kd.C_alloc ?_ _) | (with_reducible refine Kd.C_drewN ?_ _) | (with_reducible refine Kd.C_drew ?_)))
     (case aB => exact (by repeat (first | (with_reducible first | exact HB.out | apply below_alloc | apply pw_below_drewN | apply below_drew1 | refine below_set ?_ GE140.out) | exact HB.out)))
     (case aF => exact (fun k_ hk => Kd.fresh' (Kd.R_lt (by (with_reducible repeat (first | apply Kd.R_alloc | apply Kd.R_drewN | apply Kd.R_drew)); exact HO146.out)) k_ hk))
     (case aO => exact (by (with_reducible repeat (first | apply Kd.R_alloc | apply Kd.R_drewN | apply Kd.R_drew)); exact HO143.out))
     (case aS => exact (below_size (by repeat (first | (with_reducible first | exact HB.out | apply below_alloc | apply pw_below_drewN | apply below_drew1 | refine below_set ?_ GE140.out) | exact HB.out))))
     (case aL => have := LMc9.out; omega)
     intro v148 w15 ho hb hg hat
     rw [← Ny147.out] at ho
     have n0_ := Aside0.mk (blk_grown (g := gb140) (o := .cells #[.int .u64 a0_0, .slice A0_1 l0_1.length c0_1, .int .i64 a0_2, .string a0_3] 77 (0, 0)) (by (with_reducible repeat (first | refine blk_drewN ?_ _ | refine blk_drew ?_ | refine blk_alloc ?_ _)); exact BK140.out) hg (Kd.R_ne HO143.out BK140.out (by decide)))
     have n1_ := Aside0.mk (Kd.R_after (ok := (fun _ => True)) (by (with_reducible repeat (first | apply Kd.R_alloc | apply Kd.R_drewN | apply Kd.R_drew)); exact Kd.R_mono HO146.out (fun _ hk => ⟨trivial, hk⟩)) hg hat)
     have n2_ := Aside0.mk (hb)
     have n3_ := Aside0.mk (ho)
     clear BK140
     clear HO146
     clear HB
     clear HO143
     have BK140 := n0_
     have HO146 := n1_
     have HB := n2_
     have HO149 := n3_
     clear n0_ n1_ n2_ n3_
     clear ho hb hg hat
     refine hK.out _ _ ⟨(blk_cell BK140.out 0).trans rfl, (blk_cell BK140.out 1).trans rfl, (blk_cell BK140.out 2).trans rfl, (blk_cell BK140.out 3).trans rfl⟩ (fun hHeld => ?_)
     clear hK K
     refine norm_ (a' := ?_) ?_ ?_
     rotate_left
     ·show Act.put _ (some 25) _ = _
      simp only [Act.put, List.setIfInBounds_toArray, List.set_cons_zero, List.set_cons_succ, i64_w, i32_w]
      rfl
     refine pure_ (i := 9) (N := some 4) (v := ?_) (a' := ?_) #[true, true, true, true, true, true, true, true, true, true] rfl rfl (any_of HT_.out (by kernel_rfl)) (fun _ _ _ h => h) (Or.inl ⟨by rfl, ?_⟩) ?_ ?_
     rotate_left
     ·intro w'
      go_simp
      with_reducible rfl
     rotate_left
     ·simp only [Act.put, List.setIfInBounds_toArray, List.set_cons_zero, List.set_cons_succ, i64_w, i32_w]
      rfl
     refine done_ (done_of HT_.out (by kernel_rfl)) ?_
     have hcz17_0 : w15.cell? ⟨gb140, 0, none⟩ = some (.int .u64 a0_0) := (blk_cell BK140.out 0).trans rfl
     have hcz17_1 : w15.cell? ⟨gb140, 1, none⟩ = some (.slice A0_1 l0_1.length c0_1) := (blk_cell BK140.out 1).trans rfl
     have hcz17_2 : w15.cell? ⟨gb140, 2, none⟩ = some (.int .i64 a0_2) := (blk_cell BK140.out 2).trans rfl
     have hcz17_3 : w15.cell? ⟨gb140, 3, none⟩ = some (.string a0_3) := (blk_cell BK140.out 3).trans rfl
     have hfz17_0 := blk_frozen BK140.out 0
     have hfz17_1 := blk_frozen BK140.out 1
     have hfz17_2 := blk_frozen BK140.out 2
     have hfz17_3 := blk_frozen BK140.out 3
     try go_wp2
     go_loopg [4, 29] kj1 (fun kq v4 v29 w' => ∃ (x4_2 : List Int) (x29_2 : Int), v29 = .int .i64 x29_2 ∧ Aside0 (object_Commit.l0 kq x4_2 l0_1 (l0_1.length : Int) x29_2 a0_0 l0_1 a0_2 a0_3 = some (r1, r2)) ∧ Aside0 (kq ≤ kj1) ∧ Aside0 (Kd.R (Kd.int .u8) 5 w' w.heap.size (fun _ => True) v4 x4_2) ∧ Aside0 (w'.heap[gb140]? = some (.cells #[.int .u64 a0_0, (.slice A0_1 l0_1.length c0_1), .int .i64 a0_2, .string a0_3] 77 (0, 0))) ∧ Aside0 (Below w.heap.size w w'))
     case atStart => exact ⟨(y147), (0), (by first | rfl | (simp; done) | (simp [*]; done)), H', ⟨Nat.le_refl _⟩, ⟨by (with_reducible repeat (first | apply Kd.R_alloc | apply Kd.R_drewN | apply Kd.R_drew)); exact Kd.R_mono HO149.out (fun _ hk => trivial)⟩, ⟨by (with_reducible repeat (first | refine blk_drewN ?_ _ | refine blk_drew ?_ | refine blk_alloc ?_ _)); exact BK140.out⟩, ⟨by repeat (first | (with_reducible first | exact HB.out | apply below_alloc | apply pw_below_drewN | apply below_drew1 | refine below_set ?_ GE140.out) | exact HB.out)⟩⟩
     case round =>
      clear H'
      try clear p2
      try clear c3
      try clear c4
      try clear c4b0
      try clear c4b1
      try clear c7
      try clear c9
      try clear hcz17_0
      try clear hcz17_1
      try clear hcz17_2
      try clear hcz17_3
      try clear hcz5_0
      try clear hcz5_1
      try clear hcz5_2
      try clear hcz5_3
      try clear hcz6_0
      try clear hcz6_1
      try clear hcz6_2
      try clear hcz6_3
      try clear hfz17_0
      try clear hfz17_1
      try clear hfz17_2
      try clear hfz17_3
      try clear hfz5_0
      try clear hfz5_1
      try clear hfz5_2
      try clear hfz5_3
      try clear hfz6_0
      try clear hfz6_1
      try clear hfz6_2
      try clear hfz6_3
      try clear p2
      obtain ⟨x4_2, x29_2, rfl, HA, HK2, HO_4, BK140, HB⟩ := hrel
      cases gk with
      | zero => exact absurd HA.out (by simp [object_Commit.l0])
      | succ k2 =>
       have H := HA.out
       clear HA
       simp only [object_Commit.l0] at H
       by_cases c18 : x29_2 < (l0_1.length : Int)
       ·rw [if_pos c18] at H
        have c18b0 : decide (x29_2 < (l0_1.length : Int)) = true := decide_eq_true c18
        clear c18
        by_cases c19 : 0 ≤ x29_2
        ·rw [if_pos c19] at H
         have c19b0 : decide (0 ≤ x29_2) = true := decide_eq_true c19
         clear c19
         by_cases c20 : x29_2 < (l0_1.length : Int)
         ·rw [if_pos c20] at H
          have c20b0 : decide (x29_2 < (l0_1.length : Int)) = true := decide_eq_true c20
          clear c20
          have c21b0 := eq_true (of_decide_eq_true (by first | (with_reducible assumption) | assumption) : 0 ≤ x29_2)
          by_cases c22 : x29_2 ≤ (l0_1.length : Int)
          ·rw [if_pos c22] at H
           have c22b0 := eq_true c22
           have c22b1 : decide (x29_2 ≤ (l0_1.length : Int)) = true := decide_eq_true c22
           clear c22
           replace H := Option.bind_eq_some_iff.mp H
           obtain ⟨t164, A230, H⟩ := H
           replace H : (if t164 = true then (some (([] : List Int), 6)) else ((object_eight.f k2 x4_2 (rd l0_1 x29_2)).bind fun t165 => (object_Commit.l0 k2 t165 l0_1 (l0_1.length : Int) (wrap64 (x29_2 + 1)) a0_0 l0_1 a0_2 a0_3))) = some (r1, r2) := H
           have A23 := Aside0.mk A230
           clear A230
           by_cases c24 : t164 = true
           ·subst c24
            have H1 : (some (([] : List Int), 6)) = some (r1, r2) := by rw [if_pos rfl] at H; exact H
            clear H
            have H := H1
            clear H1
            simp only [Option.some.injEq, Prod.mk.injEq] at H
            obtain ⟨rfl, rfl⟩ := H
            have p162 : 0 ≤ (x29_2 : Int) := of_decide_eq_true (by first | (with_reducible assumption) | assumption)
            have q162 : x29_2 < (l0_1.length : Int) := of_decide_eq_true (by first | (with_reducible assumption) | assumption)
            obtain ⟨ad162, e162, hx162_0⟩ := Kd.at_int HR0_1.out x29_2 p162 q162
            cases e162
            try replace hx162_0 := (HB.out.cell (World.block_lt_of_cell? w _ hx162_0)).trans hx162_0
            replace p162 := eq_true p162
            replace q162 := eq_true q162
            have hcz25_0 : wr.cell? ⟨gb140, 0, none⟩ = some (.int .u64 a0_0) := (blk_cell BK140.out 0).trans rfl
            have hcz25_1 : wr.cell? ⟨gb140, 1, none⟩ = some (.slice (some ad162) l0_1.length c0_1) := (blk_cell BK140.out 1).trans rfl
            have hcz25_2 : wr.cell? ⟨gb140, 2, none⟩ = some (.int .i64 a0_2) := (blk_cell BK140.out 2).trans rfl
            have hcz25_3 : wr.cell? ⟨gb140, 3, none⟩ = some (.string a0_3) := (blk_cell BK140.out 3).trans rfl
            have hfz25_0 := blk_frozen BK140.out 0
            have hfz25_1 := blk_frozen BK140.out 1
            have hfz25_2 := blk_frozen BK140.out 2
            have hfz25_3 := blk_frozen BK140.out 3
            obtain ⟨i026, hi026, _, hsz26, _⟩ := info_parts info65
            obtain ⟨hcut26, hA26, hC26⟩ := print_take_of (P := Try.prog) (Value.int .u64) 0 75 65 .i64 Try.underlying75 hi026 hsz26 (some ad162) c0_1 l0_1 x29_2 (of_decide_eq_true (by first | (with_reducible assumption) | assumption)) (of_decide_eq_true (by first | (with_reducible assumption) | assumption)) HC0_1.out
            have HR163 := Aside0.mk (Kd.C_of_reads (h1 := fun _ => rfl) (hA26 _ (Kd.reads_of_C HR0_1.out)))
            have HC163 := Aside0.mk hC26
            clear hA26 hC26 hi026 hsz26
            go_wp2_with (first | ((with_reducible refine gate_callee (f := 53) rfl ?_); refine goesL_ (some 39) rfl rfl Try.func53 (by kernel_rfl) rfl #[.slice (some ad162) (l0_1.take (x29_2 : Int).toNat).length c0_1, .int .u64 (rd l0_1 x29_2)] rfl (by (try simp only [List.map_toArray, List.map_cons, List.map_nil]); first | done | (rw [show (l0_1.take (x29_2 : Int).toNat).length = x29_2.toNat from (by rw [List.length_take]; have h_ : (x29_2 : Int) ≤ (l0_1.length : Int) := of_decide_eq_true (by first | (with_reducible assumption) | assumption); omega)] <;> rfl) | rfl | (simp only [List.length_drop, List.length_take]; rfl)) ?_; (with_reducible refine (api_ID_53.calls k2 _ _ (l0_1.take (x29_2 : Int).toNat) (rd l0_1 x29_2) true _ ?side1 ?side2 A23.out).mono ?_); (case side1 => repeat (first | exact (Kd.C_below HR163.out HB.out) | (with_reducible refine Kd.C_alloc ?_ _) | (with_reducible refine Kd.C_drewN ?_ _) | (with_reducible refine Kd.C_drew ?_))); (case side2 => exact HC163.out); rintro e w' ⟨rfl, ⟨nd, rfl⟩⟩; refine ⟨_, rfl, ?_⟩))
            go_ret2
            exact ⟨_, by first | rfl | (simp [errW_none, errW_some] <;> rfl) | (simp [*, errW_none, errW_some] <;> rfl), by first | exact Kd.R_nil _ _ _ _ _ | exact Kd.N_nil _ _ _ _ _ | exact Kd.V_nil _ _ _ _ _ | exact Kd.Q_nil _ _ _ _ _ | exact Kd.S_nil _ _ _ _ _, by repeat (first | (with_reducible first | exact HB.out | apply below_alloc | apply pw_below_drewN | apply below_drew1 | refine below_set ?_ GE140.out) | exact HB.out)⟩
           ·replace c24 := Bool.eq_false_iff.mpr c24
            subst c24
            have H1 : ((object_eight.f k2 x4_2 (rd l0_1 x29_2)).bind fun t165 => (object_Commit.l0 k2 t165 l0_1 (l0_1.length : Int) (wrap64 (x29_2 + 1)) a0_0 l0_1 a0_2 a0_3)) = some (r1, r2) := by rw [if_neg (show ¬ (false = true) by decide)] at H; exact H
            clear H
            have H := H1
            clear H1
            replace H := Option.bind_eq_some_iff.mp H
            obtain ⟨t165, A270, H⟩ := H
            replace H : (object_Commit.l0 k2 t165 l0_1 (l0_1.length : Int) (wrap64 (x29_2 + 1)) a0_0 l0_1 a0_2 a0_3) = some (r1, r2) := H
            have A27 := Aside0.mk A270
            clear A270
            have H' := Aside0.mk H
            clear H
            have p162 : 0 ≤ (x29_2 : Int) := of_decide_eq_true (by first | (with_reducible assumption) | assumption)
            have q162 : x29_2 < (l0_1.length : Int) := of_decide_eq_true (by first | (with_reducible assumption) | assumption)
            obtain ⟨ad162, e162, hx162_0⟩ := Kd.at_int HR0_1.out x29_2 p162 q162
            cases e162
            try replace hx162_0 := (HB.out.cell (World.block_lt_of_cell? w _ hx162_0)).trans hx162_0
            replace p162 := eq_true p162
            replace q162 := eq_true q162
            have hcz28_0 : wr.cell? ⟨gb140, 0, none⟩ = some (.int .u64 a0_0) := (blk_cell BK140.out 0).trans rfl
            have hcz28_1 : wr.cell? ⟨gb140, 1, none⟩ = some (.slice (some ad162) l0_1.length c0_1) := (blk_cell BK140.out 1).trans rfl
            have hcz28_2 : wr.cell? ⟨gb140, 2, none⟩ = some (.int .i64 a0_2) := (blk_cell BK140.out 2).trans rfl
            have hcz28_3 : wr.cell? ⟨gb140, 3, none⟩ = some (.string a0_3) := (blk_cell BK140.out 3).trans rfl
            have hfz28_0 := blk_frozen BK140.out 0
            have hfz28_1 := blk_frozen BK140.out 1
            have hfz28_2 := blk_frozen BK140.out 2
            have hfz28_3 := blk_frozen BK140.out 3
            obtain ⟨i029, hi029, _, hsz29, _⟩ := info_parts info65
            obtain ⟨hcut29, hA29, hC29⟩ := print_take_of (P := Try.prog) (Value.int .u64) 0 75 65 .i64 Try.underlying75 hi029 hsz29 (some ad162) c0_1 l0_1 x29_2 (of_decide_eq_true (by first | (with_reducible assumption) | assumption)) (of_decide_eq_true (by first | (with_reducible assumption) | assumption)) HC0_1.out
            have HR163 := Aside0.mk (Kd.C_of_reads (h1 := fun _ => rfl) (hA29 _ (Kd.reads_of_C HR0_1.out)))
            have HC163 := Aside0.mk hC29
            clear hA29 hC29 hi029 hsz29
            go_wp2_with (first | ((with_reducible refine gate_callee (f := 53) rfl ?_); refine goesL_ (some 39) rfl rfl Try.func53 (by kernel_rfl) rfl #[.slice (some ad162) (l0_1.take (x29_2 : Int).toNat).length c0_1, .int .u64 (rd l0_1 x29_2)] rfl (by (try simp only [List.map_toArray, List.map_cons, List.map_nil]); first | done | (rw [show (l0_1.take (x29_2 : Int).toNat).length = x29_2.toNat from (by rw [List.length_take]; have h_ : (x29_2 : Int) ≤ (l0_1.length : Int) := of_decide_eq_true (by first | (with_reducible assumption) | assumption); omega)] <;> rfl) | rfl | (simp only [List.length_drop, List.length_take]; rfl)) ?_; (with_reducible refine (api_ID_53.calls k2 _ _ (l0_1.take (x29_2 : Int).toNat) (rd l0_1 x29_2) false _ ?side1 ?side2 A23.out).mono ?_); (case side1 => repeat (first | exact (Kd.C_below HR163.out HB.out) | (with_reducible refine Kd.C_alloc ?_ _) | (with_reducible refine Kd.C_drewN ?_ _) | (with_reducible refine Kd.C_drew ?_))); (case side2 => exact HC163.out); rintro e w' ⟨rfl, ⟨nd, rfl⟩⟩; refine ⟨_, rfl, ?_⟩; obtain ⟨Ao30, co30, eo30⟩ := Kd.R_slice HO_4.out; subst eo30) | ((with_reducible refine gate_callee (f := 41) rfl ?_); refine goesL_ (some 42) rfl rfl Try.func41 (by kernel_rfl) rfl #[.slice Ao30 x4_2.length co30, .int .u64 (rd l0_1 x29_2)] rfl (by (try simp only [List.map_toArray, List.map_cons, List.map_nil]); first | done | rfl | (simp only [List.length_drop, List.length_take]; rfl)) ?_; (with_reducible refine (object_eight.calls k2 (fun k_ => some k_ = (.slice Ao30 x4_2.length co30 : Value).ownBlock) (.slice Ao30 x4_2.length co30) x4_2 (rd l0_1 x29_2) t165 w _ ?side1 ?side2 A27.out).mono ?_); (case side1 => repeat (first | (with_reducible first | exact HB.out | apply below_alloc | apply pw_below_drewN | apply below_drew1 | refine below_set ?_ GE140.out) | exact HB.out)); (case side2 => exact Kd.R_tight rfl HO_4.out); rintro e w31 ⟨v166, rfl, ho0, hb, hkp⟩; refine ⟨_, rfl, ?_⟩; have n0_ := Aside0.mk (blk_kept (by (with_reducible repeat (first | refine blk_drewN ?_ _ | refine blk_drew ?_ | refine blk_alloc ?_ _)); exact BK140.out) hkp (fun hs_ => (fun e_ => (Kd.R_ne HO_4.out BK140.out (by decide)) e_) hs_)); have n1_ := Aside0.mk (Kd.R_mono (ok' := fun k_ => True) ho0 (fun k_ hk_ => trivial)); have n2_ := Aside0.mk (hb); clear BK140; clear HB; clear HO_4; have BK140 := n0_; have HO167 := n1_; have HB := n2_; clear n0_ n1_ n2_; (try clear hb); (try clear hkp); (try clear ho0)))
            go_roundg k2
            case measure => have := HJ1.out; have := HK2.out; omega
            case rel => exact ⟨(t165), (wrap64 (x29_2 + 1)), (by first | rfl | (simp; done) | (simp [*]; done)), H', ⟨by have := HJ1.out; have := HK2.out; omega⟩, ⟨by (with_reducible repeat (first | apply Kd.R_alloc | apply Kd.R_drewN | apply Kd.R_drew)); exact HO167.out⟩, ⟨by (with_reducible repeat (first | refine blk_drewN ?_ _ | refine blk_drew ?_ | refine blk_alloc ?_ _)); exact BK140.out⟩, ⟨by repeat (first | (with_reducible first | exact HB.out | apply below_alloc | apply pw_below_drewN | apply below_drew1 | refine below_set ?_ GE140.out) | exact HB.out)⟩⟩
          ·rw [if_neg c22] at H
           exact absurd H (by simp)
         ·rw [if_neg c20] at H
          exact absurd H (by simp)
        ·rw [if_neg c19] at H
         exact absurd H (by simp)
       ·rw [if_neg c18] at H
        have c18b0 : decide (x29_2 < (l0_1.length : Int)) = false := decide_eq_false c18
        clear c18
        by_cases c32 : a0_2 < 0
        ·rw [if_pos c32] at H
         have c32b0 : decide (a0_2 < 0) = true := decide_eq_true c32
         clear c32
         simp only [Option.some.injEq, Prod.mk.injEq] at H
         obtain ⟨rfl, rfl⟩ := H
         have hcz33_0 : wr.cell? ⟨gb140, 0, none⟩ = some (.int .u64 a0_0) := (blk_cell BK140.out 0).trans rfl
         have hcz33_1 : wr.cell? ⟨gb140, 1, none⟩ = some (.slice A0_1 l0_1.length c0_1) := (blk_cell BK140.out 1).trans rfl
         have hcz33_2 : wr.cell? ⟨gb140, 2, none⟩ = some (.int .i64 a0_2) := (blk_cell BK140.out 2).trans rfl
         have hcz33_3 : wr.cell? ⟨gb140, 3, none⟩ = some (.string a0_3) := (blk_cell BK140.out 3).trans rfl
         have hfz33_0 := blk_frozen BK140.out 0
         have hfz33_1 := blk_frozen BK140.out 1
         have hfz33_2 := blk_frozen BK140.out 2
         have hfz33_3 := blk_frozen BK140.out 3
         go_wp2
         go_ret2
         exact ⟨_, by first | rfl | (simp [errW_none, errW_some] <;> rfl) | (simp [*, errW_none, errW_some] <;> rfl), by first | exact Kd.R_nil _ _ _ _ _ | exact Kd.N_nil _ _ _ _ _ | exact Kd.V_nil _ _ _ _ _ | exact Kd.Q_nil _ _ _ _ _ | exact Kd.S_nil _ _ _ _ _, by repeat (first | (with_reducible first | exact HB.out | apply below_alloc | apply pw_below_drewN | apply below_drew1 | refine below_set ?_ GE140.out) | exact HB.out)⟩
        ·rw [if_neg c32] at H
         have c32b0 : decide (a0_2 < 0) = false := decide_eq_false c32
         clear c32
         by_cases c34 : a0_2 > 1099511627776
         ·rw [if_pos c34] at H
          have c34b0 : decide (1099511627776 < a0_2) = true := decide_eq_true c34
          clear c34
          simp only [Option.some.injEq, Prod.mk.injEq] at H
          obtain ⟨rfl, rfl⟩ := H
          have hcz35_0 : wr.cell? ⟨gb140, 0, none⟩ = some (.int .u64 a0_0) := (blk_cell BK140.out 0).trans rfl
          have hcz35_1 : wr.cell? ⟨gb140, 1, none⟩ = some (.slice A0_1 l0_1.length c0_1) := (blk_cell BK140.out 1).trans rfl
          have hcz35_2 : wr.cell? ⟨gb140, 2, none⟩ = some (.int .i64 a0_2) := (blk_cell BK140.out 2).trans rfl
          have hcz35_3 : wr.cell? ⟨gb140, 3, none⟩ = some (.string a0_3) := (blk_cell BK140.out 3).trans rfl
          have hfz35_0 := blk_frozen BK140.out 0
          have hfz35_1 := blk_frozen BK140.out 1
          have hfz35_2 := blk_frozen BK140.out 2
          have hfz35_3 := blk_frozen BK140.out 3
          go_wp2
          go_ret2
          exact ⟨_, by first | rfl | (simp [errW_none, errW_some] <;> rfl) | (simp [*, errW_none, errW_some] <;> rfl), by first | exact Kd.R_nil _ _ _ _ _ | exact Kd.N_nil _ _ _ _ _ | exact Kd.V_nil _ _ _ _ _ | exact Kd.Q_nil _ _ _ _ _ | exact Kd.S_nil _ _ _ _ _, by repeat (first | (with_reducible first | exact HB.out | apply below_alloc | apply pw_below_drewN | apply below_drew1 | refine below_set ?_ GE140.out) | exact HB.out)⟩
         ·rw [if_neg c34] at H
          have c34b0 : decide (1099511627776 < a0_2) = false := decide_eq_false c34
          clear c34
          replace H := Option.bind_eq_some_iff.mp H
          obtain ⟨t150, A360, H⟩ := H
          replace H : ((some (([((a0_3.size : Int)) % 256] : List Int) : List Int)).bind fun y153 => (if t150.length + y153.length < 140737488355328 then ((some (t150 ++ y153 : List Int)).bind fun y156 => (if y156.length + a0_3.size < 140737488355328 then (some ((y156 ++ bytesOf a0_3), 0)) else (none))) else (none))) = some (r1, r2) := H
          have A36 := Aside0.mk A360
          clear A360
          obtain ⟨y153, hy153⟩ : ∃ y_ : List Int, y_ = (([((a0_3.size : Int)) % 256] : List Int)) := ⟨_, rfl⟩
          replace H : (if t150.length + y153.length < 140737488355328 then ((some (t150 ++ y153 : List Int)).bind fun y156 => (if y156.length + a0_3.size < 140737488355328 then (some ((y156 ++ bytesOf a0_3), 0)) else (none))) else (none)) = some (r1, r2) := by first | (rw [hy153]; with_reducible exact H) | (have H2_ := (Option.bind_some _ _).symm.trans H; rw [hy153]; with_reducible exact H2_) | (have H2_ := (Option.bind_some _ _).symm.trans H; with_reducible exact H2_) | with_reducible exact H | (rw [hy153]; exact H) | exact H
          have Ny153 := Aside0.mk hy153
          clear hy153
          by_cases c37 : t150.length + y153.length < 140737488355328
          ·rw [if_pos c37] at H
           have LMc37 := Aside0.mk c37
           clear c37
           obtain ⟨y156, hy156⟩ : ∃ y_ : List Int, y_ = (t150 ++ y153) := ⟨_, rfl⟩
           replace H : (if y156.length + a0_3.size < 140737488355328 then (some ((y156 ++ bytesOf a0_3), 0)) else (none)) = some (r1, r2) := by first | (rw [hy156]; with_reducible exact H) | (have H2_ := (Option.bind_some _ _).symm.trans H; rw [hy156]; with_reducible exact H2_) | (have H2_ := (Option.bind_some _ _).symm.trans H; with_reducible exact H2_) | with_reducible exact H | (rw [hy156]; exact H) | exact H
           have Ny156 := Aside0.mk hy156
           clear hy156
           by_cases c38 : y156.length + a0_3.size < 140737488355328
           ·rw [if_pos c38] at H
            have LMc38 := Aside0.mk c38
            clear c38
            obtain ⟨y159, hy159⟩ : ∃ y_ : List Int, y_ = (y156 ++ bytesOf a0_3) := ⟨_, rfl⟩
            replace H : (some (y159, 0)) = some (r1, r2) := by first | (rw [hy159]; with_reducible exact H) | (have H2_ := (Option.bind_some _ _).symm.trans H; rw [hy159]; with_reducible exact H2_) | (have H2_ := (Option.bind_some _ _).symm.trans H; with_reducible exact H2_) | with_reducible exact H | (rw [hy159]; exact H) | exact H
            have Ny159 := Aside0.mk hy159
            clear hy159
            simp only [Option.some.injEq, Prod.mk.injEq] at H
            obtain ⟨rfl, rfl⟩ := H
            have hcz39_0 : wr.cell? ⟨gb140, 0, none⟩ = some (.int .u64 a0_0) := (blk_cell BK140.out 0).trans rfl
            have hcz39_1 : wr.cell? ⟨gb140, 1, none⟩ = some (.slice A0_1 l0_1.length c0_1) := (blk_cell BK140.out 1).trans rfl
            have hcz39_2 : wr.cell? ⟨gb140, 2, none⟩ = some (.int .i64 a0_2) := (blk_cell BK140.out 2).trans rfl
            have hcz39_3 : wr.cell? ⟨gb140, 3, none⟩ = some (.string a0_3) := (blk_cell BK140.out 3).trans rfl
            have hfz39_0 := blk_frozen BK140.out 0
            have hfz39_1 := blk_frozen BK140.out 1
            have hfz39_2 := blk_frozen BK140.out 2
            have hfz39_3 := blk_frozen BK140.out 3
            obtain ⟨Ao40, co40, eo40⟩ := Kd.R_slice HO_4.out
            subst eo40
            try go_wp2
            have n0_ := Aside0.mk (Kd.R_drew HO_4.out)
            have n1_ := Aside0.mk (blk_drew BK140.out)
            have n2_ := Aside0.mk (below_drew1 HB.out)
            clear HO_4
            clear BK140
            clear HB
            have HO_4 := n0_
            have BK140 := n1_
            have HB := n2_
            clear n0_ n1_ n2_
            refine start_ (n := 12) (S := fun w' => w'.cell? ⟨gb140, 0, none⟩ = some (.int .u64 a0_0) ∧ w'.cell? ⟨gb140, 1, none⟩ = some (.slice A0_1 l0_1.length c0_1) ∧ w'.cell? ⟨gb140, 2, none⟩ = some (.int .i64 a0_2) ∧ w'.cell? ⟨gb140, 3, none⟩ = some (.string a0_3)) (ds := []) (vb 0 12) (by kernel_rfl) rfl rfl ⟨(blk_cell BK140.out 0).trans rfl, (blk_cell BK140.out 1).trans rfl, (blk_cell BK140.out 2).trans rfl, (blk_cell BK140.out 3).trans rfl⟩ (fun hHeld => ?_); refine with_tabW object_Commit.tab13 object_Commit.bits13 (fun HT_ HW_ => ?_)
            generalize wr.drew = w41 at HO_4 BK140 HB hHeld ⊢
            refine pure_ (i := 0) (N := some 52) (v := ?_) (a' := ?_) (vb 1 12) rfl rfl (any_of HT_.out (by kernel_rfl)) (fun _ _ _ h => h) (Or.inl ⟨by rfl, ?_⟩) ?_ ?_
            rotate_left
            ·intro w'
             go_simp
             with_reducible rfl
            rotate_left
            ·simp only [Act.put, List.setIfInBounds_toArray, List.set_cons_zero, List.set_cons_succ, i64_w, i32_w]
             rfl
            refine pure_ (i := 1) (N := some 53) (v := ?_) (a' := ?_) (vb 3 12) rfl rfl (any_of HT_.out (by kernel_rfl)) (fun _ _ _ h => h) (Or.inl ⟨by rfl, ?_⟩) ?_ ?_
            rotate_left
            ·intro w'
             go_simp
             with_reducible rfl
            rotate_left
            ·simp only [Act.put, List.setIfInBounds_toArray, List.set_cons_zero, List.set_cons_succ, i64_w, i32_w]
             rfl
            refine pure_ (i := 5) (N := some 57) (v := ?_) (a' := ?_) (vb 35 12) rfl rfl (any_of HT_.out (by kernel_rfl)) (fun _ _ _ h => h) (Or.inl ⟨by rfl, ?_⟩) ?_ ?_
            rotate_left
            ·intro w'
             go_simp
             with_reducible rfl
            rotate_left
            ·simp only [Act.put, List.setIfInBounds_toArray, List.set_cons_zero, List.set_cons_succ, i64_w, i32_w]
             rfl
            refine take_ (i := 2) (N := some 54) (v := ?_) (a' := ?_) (vb 39 12) rfl rfl (take_ofW HT_.out HW_.out (by kernel_rfl)) (fun _ _ _ h => h) (Or.inl ⟨by rfl, ?_⟩) hHeld ?_ ?_
            rotate_left
            ·rintro w' ⟨s0, s1, s2, s3⟩
             go_simp
             with_reducible rfl
            rotate_left
            ·simp only [Act.put, List.setIfInBounds_toArray, List.set_cons_zero, List.set_cons_succ, i64_w, i32_w]
             rfl
            refine pure_ (i := 3) (N := some 55) (v := ?_) (a' := ?_) (vb 47 12) rfl rfl (any_of HT_.out (by kernel_rfl)) (fun _ _ _ h => h) (Or.inl ⟨by rfl, ?_⟩) ?_ ?_
            rotate_left
            ·intro w'
             go_simp
             with_reducible rfl
            rotate_left
            ·simp only [Act.put, List.setIfInBounds_toArray, List.set_cons_zero, List.set_cons_succ, i64_w, i32_w]
             rfl
            refine take_ (i := 6) (N := some 58) (v := ?_) (a' := ?_) (vb 111 12) rfl rfl (take_ofW HT_.out HW_.out (by kernel_rfl)) (fun _ _ _ h => h) (Or.inl ⟨by rfl, ?_⟩) hHeld ?_ ?_
            rotate_left
            ·rintro w' ⟨s0, s1, s2, s3⟩
             go_simp
             with_reducible rfl
            rotate_left
            ·simp only [Act.put, List.setIfInBounds_toArray, List.set_cons_zero, List.set_cons_succ, i64_w, i32_w]
             rfl
            refine pure_ (i := 7) (N := some 59) (v := ?_) (a' := ?_) (vb 239 12) rfl rfl (any_of HT_.out (by kernel_rfl)) (fun _ _ _ h => h) (Or.inl ⟨by rfl, ?_⟩) ?_ ?_
            rotate_left
            ·intro w'
             go_simp
             with_reducible rfl
            rotate_left
            ·simp only [Act.put, List.setIfInBounds_toArray, List.set_cons_zero, List.set_cons_succ, i64_w, i32_w]
             rfl
            refine pure_ (i := 8) (N := some 60) (v := ?_) (a' := ?_) (vb 495 12) rfl rfl (any_of HT_.out (by kernel_rfl)) (fun _ _ _ h => h) (Or.inl ⟨by rfl, ?_⟩) ?_ ?_
            rotate_left
            ·intro w'
             go_simp
             with_reducible rfl
            rotate_left
            ·simp only [Act.put, List.setIfInBounds_toArray, List.set_cons_zero, List.set_cons_succ, i64_w, i32_w]
             rfl
            refine join_ (σ := Value × Value) 2 (vb 1023 12) (fun s_ => [(56, s_.1), (61, s_.2)]) (fun s_ w' => (w'.cell? ⟨gb140, 0, none⟩ = some (.int .u64 a0_0) ∧ w'.cell? ⟨gb140, 1, none⟩ = some (.slice A0_1 l0_1.length c0_1) ∧ w'.cell? ⟨gb140, 2, none⟩ = some (.int .i64 a0_2) ∧ w'.cell? ⟨gb140, 3, none⟩ = some (.string a0_3)) ∧ (Kd.R (Kd.int .u8) 5 w' w.heap.size (fun k_ => some k_ ≠ (s_.2 : Value).ownBlock) s_.1 t150) ∧ (Kd.R (Kd.int .u8) 5 w' w.heap.size (fun k_ => some k_ ≠ (s_.1 : Value).ownBlock) s_.2 y153) ∧ (w'.heap[gb140]? = some (.cells #[.int .u64 a0_0, .slice A0_1 l0_1.length c0_1, .int .i64 a0_2, .string a0_3] 77 (0, 0))) ∧ (Below w.heap.size w w')) ?_ ?_
            rotate_left
            ·intro hCont
             refine two_ (i := 4) (j := 9) (Ni := some 56) (Nj := some 61) (vb 511 12) (vb 1007 12) rfl rfl rfl rfl (two_of HT_.out (by kernel_rfl)) (by decide) (by decide) (fun K hK => ?_) (fun K hK => ?_)
             ·skip
              refine goes_ Try.func41 (by kernel_rfl) rfl #[.slice Ao40 x4_2.length co40, .int .u64 (IntKind.u64.wrap (a0_2))] (by rfl) rfl rfl (by (try simp only [List.map_toArray, List.map_cons, List.map_nil]); first | done | rfl | (simp only [List.length_drop, List.length_take]; rfl)) ?_
              with_reducible refine (object_eight.calls k2 (fun k_ => some k_ = (.slice Ao40 x4_2.length co40 : Value).ownBlock) (.slice Ao40 x4_2.length co40) x4_2 (IntKind.u64.wrap (a0_2)) t150 w _ ?side1 ?side2 A36.out).mono ?_
              (case side1 => repeat (first | (with_reducible first | exact HB.out | apply below_alloc | apply pw_below_drewN | apply below_drew1 | refine below_set ?_ GE140.out) | exact HB.out))
              (case side2 => exact Kd.R_tight rfl HO_4.out)
              rintro e w42 ⟨v151, rfl, ho0, hb, hkp⟩
              refine ⟨_, rfl, ?_⟩
              have n0_ := Aside0.mk (blk_kept (by (with_reducible repeat (first | refine blk_drewN ?_ _ | refine blk_drew ?_ | refine blk_alloc ?_ _)); exact BK140.out) hkp (fun hs_ => (fun e_ => (Kd.R_ne HO_4.out BK140.out (by decide)) e_) hs_))
              have n1_ := Aside0.mk (Kd.R_mono (ok' := fun k_ => True) ho0 (fun k_ hk_ => trivial))
              have n2_ := Aside0.mk (hb)
              clear BK140
              clear HB
              clear HO_4
              have BK140 := n0_
              have HO152 := n1_
              have HB := n2_
              clear n0_ n1_ n2_
              (try clear hb)
              (try clear hkp)
              (try clear ho0)
              refine hK.out _ _ ⟨(blk_cell BK140.out 0).trans rfl, (blk_cell BK140.out 1).trans rfl, (blk_cell BK140.out 2).trans rfl, (blk_cell BK140.out 3).trans rfl⟩ (fun hHeld => ?_)
              clear hK K
              refine norm_ (a' := ?_) ?_ ?_
              rotate_left
              ·show Act.put _ (some 56) _ = _
               simp only [Act.put, List.setIfInBounds_toArray, List.set_cons_zero, List.set_cons_succ, i64_w, i32_w]
               rfl
              refine one_ (i := 9) (N := some 61) (vb 1023 12) rfl rfl (one_of HT_.out (by kernel_rfl)) (by decide) (fun K hK => ?_)
              refine Kd.R_lit_step (Kd.int .u8) _ 5 ?hg (N := 61) ?hd (xs := ([((a0_3.size : Int)) % 256] : List Int)) (inner := [.int .u8 (((a0_3.size : Int)) % 256)]) (ok := fun _ => True) (okp := fun _ => True) ?hr ?hp (fun _ hk => hk) trivial (Below.refl _ _) (Nat.le_refl _) (by simp) ?_; (case hd => rfl); (case hg => rfl); (case hr => first | (go_simp; done) | (go_simp; rfl)); (case hp => exact (Reps.one (show Kd.M (Kd.int .u8) _ _ _ (((a0_3.size : Int)) % 256) [.int .u8 (((a0_3.size : Int)) % 256)] from rfl) (Reps.none _ _)))
              intro v154 w43 ho44 hb hg_ hnew_
              clear hg_ hnew_
              (first | rw [← Ny153.out] at ho44 | (simp only [Int.reduceToNat] at ho44; rw [← Ny153.out] at ho44))
              have n0_ := Aside0.mk (Kd.R_elder' (by (with_reducible repeat (first | apply Kd.R_alloc | apply Kd.R_drewN | apply Kd.R_drew)); exact HO152.out) (Kd.R_base ho44) hb)
              have n1_ := Aside0.mk (Kd.R_lower (Kd.R_new' ho44 (Kd.R_lt (by (with_reducible repeat (first | apply Kd.R_alloc | apply Kd.R_drewN | apply Kd.R_drew)); exact HO152.out))) (below_size (by repeat (first | (with_reducible first | exact HB.out | apply below_alloc | apply pw_below_drewN | apply below_drew1 | refine below_set ?_ GE140.out) | exact HB.out))))
              have n2_ := Aside0.mk (blk_below (g := gb140) (o := .cells #[.int .u64 a0_0, .slice A0_1 l0_1.length c0_1, .int .i64 a0_2, .string a0_3] 77 (0, 0)) (by (with_reducible repeat (first | refine blk_drewN ?_ _ | refine blk_drew ?_ | refine blk_alloc ?_ _)); exact BK140.out) hb)
              have n3_ := Aside0.mk (below_step (by repeat (first | (with_reducible first | exact HB.out | apply below_alloc | apply pw_below_drewN | apply below_drew1 | refine below_set ?_ GE140.out) | exact HB.out)) hb)
              clear HO152
              clear BK140
              clear HB
              have HO152 := n0_
              have HO155 := n1_
              have BK140 := n2_
              have HB := n3_
              clear n0_ n1_ n2_ n3_
              clear hb ho44
              refine hK.out _ _ ⟨(blk_cell BK140.out 0).trans rfl, (blk_cell BK140.out 1).trans rfl, (blk_cell BK140.out 2).trans rfl, (blk_cell BK140.out 3).trans rfl⟩ (fun hHeld => ?_)
              clear hK K
              refine norm_ (a' := ?_) ?_ ?_
              rotate_left
              ·show Act.put _ (some 61) _ = _
               simp only [Act.put, List.setIfInBounds_toArray, List.set_cons_zero, List.set_cons_succ, i64_w, i32_w]
               rfl
              exact norm_ (by simp only [putAll, Act.put, List.setIfInBounds_toArray, List.set_cons_zero, List.set_cons_succ]) (hCont (v151, v154) _ ⟨hHeld, (by (with_reducible repeat (first | apply Kd.R_alloc | apply Kd.R_drewN | apply Kd.R_drew)); exact Kd.R_mono HO152.out (fun _ hk => hk.2)), (by (with_reducible repeat (first | apply Kd.R_alloc | apply Kd.R_drewN | apply Kd.R_drew)); exact Kd.R_mono HO155.out (fun _ hk => hk.2)), (by (with_reducible repeat (first | refine blk_drewN ?_ _ | refine blk_drew ?_ | refine blk_alloc ?_ _)); exact BK140.out), (by repeat (first | (with_reducible first | exact HB.out | apply below_alloc | apply pw_below_drewN | apply below_drew1 | refine below_set ?_ GE140.out) | exact HB.out))⟩)
             ·skip
              refine Kd.R_lit_step (Kd.int .u8) _ 5 ?hg (N := 61) ?hd (xs := ([((a0_3.size : Int)) % 256] : List Int)) (inner := [.int .u8 (((a0_3.size : Int)) % 256)]) (ok := fun _ => True) (okp := fun _ => True) ?hr ?hp (fun _ hk => hk) trivial (Below.refl _ _) (Nat.le_refl _) (by simp) ?_; (case hd => rfl); (case hg => rfl); (case hr => first | (go_simp; done) | (go_simp; rfl)); (case hp => exact (Reps.one (show Kd.M (Kd.int .u8) _ _ _ (((a0_3.size : Int)) % 256) [.int .u8 (((a0_3.size : Int)) % 256)] from rfl) (Reps.none _ _)))
              intro v154 w42 ho43 hb hg_ hnew_
              clear hg_ hnew_
              (first | rw [← Ny153.out] at ho43 | (simp only [Int.reduceToNat] at ho43; rw [← Ny153.out] at ho43))
              have n0_ := Aside0.mk (Kd.R_elder' (by (with_reducible repeat (first | apply Kd.R_alloc | apply Kd.R_drewN | apply Kd.R_drew)); exact HO_4.out) (Kd.R_base ho43) hb)
              have n1_ := Aside0.mk (Kd.R_lower (Kd.R_new' ho43 (Kd.R_lt (by (with_reducible repeat (first | apply Kd.R_alloc | apply Kd.R_drewN | apply Kd.R_drew)); exact HO_4.out))) (below_size (by repeat (first | (with_reducible first | exact HB.out | apply below_alloc | apply pw_below_drewN | apply below_drew1 | refine below_set ?_ GE140.out) | exact HB.out))))
              have n2_ := Aside0.mk (blk_below (g := gb140) (o := .cells #[.int .u64 a0_0, .slice A0_1 l0_1.length c0_1, .int .i64 a0_2, .string a0_3] 77 (0, 0)) (by (with_reducible repeat (first | refine blk_drewN ?_ _ | refine blk_drew ?_ | refine blk_alloc ?_ _)); exact BK140.out) hb)
              have n3_ := Aside0.mk (below_step (by repeat (first | (with_reducible first | exact HB.out | apply below_alloc | apply pw_below_drewN | apply below_drew1 | refine below_set ?_ GE140.out) | exact HB.out)) hb)
              clear HO_4
              clear BK140
              clear HB
              have HO_4 := n0_
              have HO155 := n1_
              have BK140 := n2_
              have HB := n3_
              clear n0_ n1_ n2_ n3_
              clear hb ho43
              refine hK.out _ _ ⟨(blk_cell BK140.out 0).trans rfl, (blk_cell BK140.out 1).trans rfl, (blk_cell BK140.out 2).trans rfl, (blk_cell BK140.out 3).trans rfl⟩ (fun hHeld => ?_)
              clear hK K
              refine norm_ (a' := ?_) ?_ ?_
              rotate_left
              ·show Act.put _ (some 61) _ = _
               simp only [Act.put, List.setIfInBounds_toArray, List.set_cons_zero, List.set_cons_succ, i64_w, i32_w]
               rfl
              refine one_ (i := 4) (N := some 56) (vb 1023 12) rfl rfl (one_of HT_.out (by kernel_rfl)) (by decide) (fun K hK => ?_)
              refine goes_ Try.func41 (by kernel_rfl) rfl #[.slice Ao40 x4_2.length co40, .int .u64 (IntKind.u64.wrap (a0_2))] (by rfl) rfl rfl (by (try simp only [List.map_toArray, List.map_cons, List.map_nil]); first | done | rfl | (simp only [List.length_drop, List.length_take]; rfl)) ?_
              with_reducible refine (object_eight.calls k2 (fun k_ => some k_ = (.slice Ao40 x4_2.length co40 : Value).ownBlock) (.slice Ao40 x4_2.length co40) x4_2 (IntKind.u64.wrap (a0_2)) t150 w _ ?side1 ?side2 A36.out).mono ?_
              (case side1 => repeat (first | (with_reducible first | exact HB.out | apply below_alloc | apply pw_below_drewN | apply below_drew1 | refine below_set ?_ GE140.out) | exact HB.out))
              (case side2 => exact Kd.R_tight rfl HO_4.out)
              rintro e w44 ⟨v151, rfl, ho0, hb, hkp⟩
              refine ⟨_, rfl, ?_⟩
              have n0_ := Aside0.mk (blk_kept (by (with_reducible repeat (first | refine blk_drewN ?_ _ | refine blk_drew ?_ | refine blk_alloc ?_ _)); exact BK140.out) hkp (fun hs_ => (fun e_ => (Kd.R_ne HO_4.out BK140.out (by decide)) e_) hs_))
              have n1_ := Aside0.mk (Kd.R_mono (ok' := fun k_ => some k_ ≠ (v151 : Value).ownBlock) (Kd.R_keptB (HO155.out) hkp (fun k_ hk_ hs_ => (hk_.2) hs_)) (fun k_ hk_ => fun e_ => Or.elim (ho0.1 k_ e_.symm) (fun hs_ => hk_.2.1 hs_) (fun hn_ => Nat.not_le.2 hk_.2.2 hn_)))
              have n2_ := Aside0.mk (Kd.R_mono (ok' := fun k_ => some k_ ≠ (v154 : Value).ownBlock) ho0 (fun k_ hk_ => Or.elim hk_ (fun hs_ => fun e_ => (((HO155.out).1 k_ e_.symm).2) hs_) (fun hn_ => (Kd.fresh' (Kd.R_lt (by (with_reducible repeat (first | apply Kd.R_alloc | apply Kd.R_drewN | apply Kd.R_drew)); exact HO155.out)) k_ hn_))))
              have n3_ := Aside0.mk (hb)
              clear BK140
              clear HO155
              clear HB
              clear HO_4
              have BK140 := n0_
              have HO155 := n1_
              have HO152 := n2_
              have HB := n3_
              clear n0_ n1_ n2_ n3_
              (try clear hb)
              (try clear hkp)
              (try clear ho0)
              refine hK.out _ _ ⟨(blk_cell BK140.out 0).trans rfl, (blk_cell BK140.out 1).trans rfl, (blk_cell BK140.out 2).trans rfl, (blk_cell BK140.out 3).trans rfl⟩ (fun hHeld => ?_)
              clear hK K
              refine norm_ (a' := ?_) ?_ ?_
              rotate_left
              ·show Act.put _ (some 56) _ = _
               simp only [Act.put, List.setIfInBounds_toArray, List.set_cons_zero, List.set_cons_succ, i64_w, i32_w]
               rfl
              exact norm_ (by simp only [putAll, Act.put, List.setIfInBounds_toArray, List.set_cons_zero, List.set_cons_succ]) (hCont (v151, v154) _ ⟨hHeld, (by (with_reducible repeat (first | apply Kd.R_alloc | apply Kd.R_drewN | apply Kd.R_drew)); exact HO152.out), (by (with_reducible repeat (first | apply Kd.R_alloc | apply Kd.R_drewN | apply Kd.R_drew)); exact HO155.out), (by (with_reducible repeat (first | refine blk_drewN ?_ _ | refine blk_drew ?_ | refine blk_alloc ?_ _)); exact BK140.out), (by repeat (first | (with_reducible first | exact HB.out | apply below_alloc | apply pw_below_drewN | apply below_drew1 | refine below_set ?_ GE140.out) | exact HB.out))⟩)
            rintro ⟨v151, v154⟩ w45 ⟨hS_, h0_, h1_, h2_, h3_⟩
            have n0_ : Aside0 (Kd.R (Kd.int .u8) 5 w45 w.heap.size (fun k_ => some k_ ≠ (v154 : Value).ownBlock) v151 t150) := ⟨h0_⟩
            have n1_ : Aside0 (Kd.R (Kd.int .u8) 5 w45 w.heap.size (fun k_ => some k_ ≠ (v151 : Value).ownBlock) v154 y153) := ⟨h1_⟩
            have n2_ : Aside0 (w45.heap[gb140]? = some (.cells #[.int .u64 a0_0, .slice A0_1 l0_1.length c0_1, .int .i64 a0_2, .string a0_3] 77 (0, 0))) := ⟨h2_⟩
            have n3_ : Aside0 (Below w.heap.size w w45) := ⟨h3_⟩
            clear HO_4
            clear BK140
            clear HB
            clear h0_ h1_ h2_ h3_
            have HO152 := n0_
            have HO155 := n1_
            have BK140 := n2_
            have HB := n3_
            clear n0_ n1_ n2_ n3_
            have hHeld : w45.cell? ⟨gb140, 0, none⟩ = some (.int .u64 a0_0) ∧ w45.cell? ⟨gb140, 1, none⟩ = some (.slice A0_1 l0_1.length c0_1) ∧ w45.cell? ⟨gb140, 2, none⟩ = some (.int .i64 a0_2) ∧ w45.cell? ⟨gb140, 3, none⟩ = some (.string a0_3) := hS_
            obtain ⟨Ao47, co47, eo47⟩ := Kd.R_slice HO155.out
            (first | subst eo47 | (injection eo47 with f1_ f2_ f3_; have f4_ := f1_.symm; have f5_ := f3_.symm; clear f1_ f2_ f3_; subst f4_; subst f5_))
            refine norm_ (a' := ?_) ?_ ?_
            rotate_left
            ·simp only [putAll, Act.put, List.setIfInBounds_toArray, List.set_cons_zero, List.set_cons_succ]
             rfl
            refine one_ (i := 10) (N := some 62) (vb 2047 12) rfl rfl (one_of HT_.out (by kernel_rfl)) (by decide) (fun K hK => ?_)
            refine Kd.R_append_rows_step (Kd.int .u8) (w0 := w) w.heap.size (by rfl) (.tmp 56) (.tmp 61) 53 5 (.int .u8 0) 1 rfl Try.underlying53 info5 rfl (by decide) (by omega) v151 t150 y153 _ _ _ (fun k_ => some k_ ≠ (.slice Ao47 y153.length co47 : Value).ownBlock) (fun _ => False) rfl rfl ?aO ?aR (fun _ _ h => h) (fun _ h => h.elim) ?aF ?aB ?aS ?aL ?_
            (case aR => repeat (first | exact (Kd.R_reads' HO155.out).2.2 | (with_reducible refine Kd.C_alloc ?_ _) | (with_reducible refine Kd.C_drewN ?_ _) | (with_reducible refine Kd.C_drew ?_)))
            (case aB => exact (by repeat (first | (with_reducible first | exact HB.out | apply below_alloc | apply pw_below_drewN | apply below_drew1 | refine below_set ?_ GE140.out) | exact HB.out)))
            (case aF => exact (fun k_ hk => Kd.fresh' (Kd.R_lt (by (with_reducible repeat (first | apply Kd.R_alloc | apply Kd.R_drewN | apply Kd.R_drew)); exact HO155.out)) k_ hk))
            (case aO => exact (by (with_reducible repeat (first | apply Kd.R_alloc | apply Kd.R_drewN | apply Kd.R_drew)); exact HO152.out))
            (case aS => exact (below_size (by repeat (first | (with_reducible first | exact HB.out | apply below_alloc | apply pw_below_drewN | apply below_drew1 | refine below_set ?_ GE140.out) | exact HB.out))))
            (case aL => have := LMc37.out; omega)
            intro v157 w46 ho hb hg hat
            rw [← Ny156.out] at ho
            have n0_ := Aside0.mk (blk_grown (g := gb140) (o := .cells #[.int .u64 a0_0, .slice A0_1 l0_1.length c0_1, .int .i64 a0_2, .string a0_3] 77 (0, 0)) (by (with_reducible repeat (first | refine blk_drewN ?_ _ | refine blk_drew ?_ | refine blk_alloc ?_ _)); exact BK140.out) hg (Kd.R_ne HO152.out BK140.out (by decide)))
            have n1_ := Aside0.mk (Kd.R_after (ok := (fun _ => True)) (by (with_reducible repeat (first | apply Kd.R_alloc | apply Kd.R_drewN | apply Kd.R_drew)); exact Kd.R_mono HO155.out (fun _ hk => ⟨trivial, hk⟩)) hg hat)
            have n2_ := Aside0.mk (hb)
            have n3_ := Aside0.mk (ho)
            clear BK140
            clear HO155
            clear HB
            clear HO152
            have BK140 := n0_
            have HO155 := n1_
            have HB := n2_
            have HO158 := n3_
            clear n0_ n1_ n2_ n3_
            clear ho hb hg hat
            refine hK.out _ _ ⟨(blk_cell BK140.out 0).trans rfl, (blk_cell BK140.out 1).trans rfl, (blk_cell BK140.out 2).trans rfl, (blk_cell BK140.out 3).trans rfl⟩ (fun hHeld => ?_)
            clear hK K
            refine norm_ (a' := ?_) ?_ ?_
            rotate_left
            ·show Act.put _ (some 62) _ = _
             simp only [Act.put, List.setIfInBounds_toArray, List.set_cons_zero, List.set_cons_succ, i64_w, i32_w]
             rfl
            refine pure_ (i := 11) (N := some 4) (v := ?_) (a' := ?_) (vb 4095 12) rfl rfl (any_of HT_.out (by kernel_rfl)) (fun _ _ _ h => h) (Or.inl ⟨by rfl, ?_⟩) ?_ ?_
            rotate_left
            ·intro w'
             go_simp
             with_reducible rfl
            rotate_left
            ·simp only [Act.put, List.setIfInBounds_toArray, List.set_cons_zero, List.set_cons_succ, i64_w, i32_w]
             rfl
            refine done_ (done_of HT_.out (by kernel_rfl)) ?_
            have hcz48_0 : w46.cell? ⟨gb140, 0, none⟩ = some (.int .u64 a0_0) := (blk_cell BK140.out 0).trans rfl
            have hcz48_1 : w46.cell? ⟨gb140, 1, none⟩ = some (.slice A0_1 l0_1.length c0_1) := (blk_cell BK140.out 1).trans rfl
            have hcz48_2 : w46.cell? ⟨gb140, 2, none⟩ = some (.int .i64 a0_2) := (blk_cell BK140.out 2).trans rfl
            have hcz48_3 : w46.cell? ⟨gb140, 3, none⟩ = some (.string a0_3) := (blk_cell BK140.out 3).trans rfl
            have hfz48_0 := blk_frozen BK140.out 0
            have hfz48_1 := blk_frozen BK140.out 1
            have hfz48_2 := blk_frozen BK140.out 2
            have hfz48_3 := blk_frozen BK140.out 3
            try go_wp2_with (first | (at_builtin; refine print_append_str (w0 := w) w.heap.size rfl (.tmp 63) _ 53 9 5 rfl Try.underlying53 Try.underlying9 info5 v157 y156 a0_3 rfl rfl ?aO ?aB ?aS ?aL ?_; (case aB => exact (by repeat (first | (with_reducible first | exact HB.out | apply below_alloc | apply pw_below_drewN | apply below_drew1 | refine below_set ?_ GE140.out) | exact HB.out))); (case aO => exact (Kd.own_of_R (by (with_reducible repeat (first | apply Kd.R_alloc | apply Kd.R_drewN | apply Kd.R_drew)); exact Kd.R_mono HO158.out (fun _ hk => trivial)))); (case aS => exact (below_size (by repeat (first | (with_reducible first | exact HB.out | apply below_alloc | apply pw_below_drewN | apply below_drew1 | refine below_set ?_ GE140.out) | exact HB.out)))); (case aL => have := LMc38.out; omega); intro v160 w49 ho0 hb hg; have ho := Kd.R_of_own (h1 := fun _ => rfl) (ok := fun _ => True) ho0 (fun _ _ => trivial); clear ho0; have hat := True.intro; rw [← Ny159.out] at ho; change Kd.R (Kd.int .u8) 5 w49 w.heap.size (fun _ => True) v160 y159 at ho; have n0_ := Aside0.mk (blk_grown (g := gb140) (o := .cells #[.int .u64 a0_0, .slice A0_1 l0_1.length c0_1, .int .i64 a0_2, .string a0_3] 77 (0, 0)) (by (with_reducible repeat (first | refine blk_drewN ?_ _ | refine blk_drew ?_ | refine blk_alloc ?_ _)); exact BK140.out) hg (Kd.R_ne HO158.out BK140.out (by decide))); have n1_ := Aside0.mk (hb); have n2_ := Aside0.mk (ho); clear BK140; clear HB; clear HO158; have BK140 := n0_; have HB := n1_; have HO161 := n2_; clear n0_ n1_ n2_; clear ho hb hg hat))
            go_ret2
            exact ⟨_, by first | rfl | (simp [errW_none, errW_some] <;> rfl) | (simp [*, errW_none, errW_some] <;> rfl), by (with_reducible repeat (first | apply Kd.R_alloc | apply Kd.R_drewN | apply Kd.R_drew)); exact HO161.out, by repeat (first | (with_reducible first | exact HB.out | apply below_alloc | apply pw_below_drewN | apply below_drew1 | refine below_set ?_ GE140.out) | exact HB.out)⟩
           ·rw [if_neg c38] at H
            exact absurd H (by simp)
          ·rw [if_neg c37] at H
           exact absurd H (by simp)
    ·rw [if_neg c9] at H
     exact absurd H (by simp)

end Go.Proofs.Ythigjlahanejjaa.MO

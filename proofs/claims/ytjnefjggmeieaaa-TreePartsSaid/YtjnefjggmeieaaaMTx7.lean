/- Laid by this claim's own program (myprint) out of the translation: functions that the laws of the group T reach, each as a plain function, with the proof that the Go code comes to it. No condition. -/
import Derived.Test.YtjnefjggmeieaaaMTx0
import Derived.Test.YtjnefjggmeieaaaMTx3
import Derived.Test.YtjnefjggmeieaaaMTx6
namespace Go.Proofs.Ytjnefjggmeieaaa.MT
open Go.Proofs.Ytjnefjggmeieaaa.Opening
open Go.RowKit Go.Proofs.YtjnefjggmeieaaaW.PrintWords Go.Proofs.YtjnefjggmeieaaaW.PrintLast Go.Proofs.YtjnefjggmeieaaaW.PrintMore
attribute [local go_sem] max2_int min2_int max_two min_two max_three min_three max_four min_four   -- for this text's walks alone
set_option linter.unusedVariables false
set_option linter.unusedSimpArgs false

/-! ### object_Tree: function 39 -/
mutual
def object_Tree.l0 : Nat → List (S38) → List Int → List (S38) → Int → Int → Option (List Int × Int)
 | 0, _, _, _, _, _ => none
 | k + 1, x0, x4, x15, x16, x17 => if x17 < x16 then (if 0 ≤ x17 then (if x17 < (x15.length : Int) then ((path_Check.f k ((rd_T38 x15 x17).f0)).bind fun t134 => (if t134 = 0 then (if x4.length < 140737488355328 then ((some (x4 ++ [((((rd_T38 x15 x17).f0).size : Int)) % 256] : List Int)).bind fun y135 => (if y135.length + ((rd_T38 x15 x17).f0).size < 140737488355328 then ((object_eight.f k (y135 ++ bytesOf ((rd_T38 x15 x17).f0)) ((rd_T38 x15 x17).f1)).bind fun t141 => (object_Tree.l0 k x0 t141 x15 x16 (wrap64 (x17 + 1)))) else (none))) else (none)) else (some (([] : List Int), 2)))) else (none)) else (none)) else (object_Tree.l1 k x0 x4 (x0.length : Int) 0)
def object_Tree.l1 : Nat → List (S38) → List Int → Int → Int → Option (List Int × Int)
 | 0, _, _, _, _ => none
 | k + 1, x0, x4, x41, x42 => if x42 < x41 then (if x42 > 0 then (if 0 ≤ (wrap64 (x42 - 1)) then (if (wrap64 (x42 - 1)) < (x0.length : Int) then (if 0 ≤ x42 then (if x42 < (x0.length : Int) then (object_Tree.j2 k x0 x4 x42 x41 x42 (!(Op.bytesLess (((rd_T38 x0 (wrap64 (x42 - 1))).f0).toList) (((rd_T38 x0 x42).f0).toList)))) else (none)) else (none)) else (none)) else (none)) else (object_Tree.j2 k x0 x4 x42 x41 x42 false)) else (some (x4, 0))
def object_Tree.j2 : Nat → List (S38) → List Int → Int → Int → Int → Bool → Option (List Int × Int)
 | 0, _, _, _, _, _, _ => none
 | k + 1, x0, x4, x7, x41, x42, x60 => if x60 = true then (some (([] : List Int), 12)) else (if 0 ≤ x7 then (if x7 < (x0.length : Int) then ((path_Parts.f k ((rd_T38 x0 x7).f0)).bind fun t147 => (object_Tree.l2 k x0 x4 x7 x41 x42 t147 (t147.length : Int) 0)) else (none)) else (none))
def object_Tree.l2 : Nat → List (S38) → List Int → Int → Int → Int → List ByteArray → Int → Int → Option (List Int × Int)
 | 0, _, _, _, _, _, _, _, _ => none
 | k + 1, x0, x4, x7, x41, x42, x66, x67, x68 => if x68 < x67 then (if 0 ≤ x68 then (if x68 < (x66.length : Int) then (if 0 ≤ x7 then (if x7 < (x0.length : Int) then (if (rdOf ByteArray.empty x66 x68).toList = ((rd_T38 x0 x7).f0).toList then (object_Tree.l1 k x0 x4 x41 (wrap64 (x42 + 1))) else (if x7 ≤ (x0.length : Int) then ((api_Entry_string.f (x0.take (x7 : Int).toNat) (rdOf ByteArray.empty x66 x68)).bind fun bt156 => (if bt156.2 = true then (some (([] : List Int), 12)) else (object_Tree.l2 k x0 x4 x7 x41 x42 x66 x67 (wrap64 (x68 + 1))))) else (none))) else (none)) else (none)) else (none)) else (none)) else (object_Tree.l1 k x0 x4 x41 (wrap64 (x42 + 1)))
end
def object_Tree.f (k : Nat) (l0 : List (S38)) : Option (List Int × Int) := if (l0.length : Int) > 64 then (some (([] : List Int), 4)) else (object_Tree.l0 k l0 ([] : List Int) l0 (l0.length : Int) 0)
theorem object_Tree.mono_l : ∀ k, (∀ y0 y1 y2 y3 y4, LeO (object_Tree.l0 k y0 y1 y2 y3 y4) (object_Tree.l0 (k + 1) y0 y1 y2 y3 y4)) ∧ (∀ y0 y1 y2 y3, LeO (object_Tree.l1 k y0 y1 y2 y3) (object_Tree.l1 (k + 1) y0 y1 y2 y3)) ∧ (∀ y0 y1 y2 y3 y4 y5, LeO (object_Tree.j2 k y0 y1 y2 y3 y4 y5) (object_Tree.j2 (k + 1) y0 y1 y2 y3 y4 y5)) ∧ (∀ y0 y1 y2 y3 y4 y5 y6 y7, LeO (object_Tree.l2 k y0 y1 y2 y3 y4 y5 y6 y7) (object_Tree.l2 (k + 1) y0 y1 y2 y3 y4 y5 y6 y7))
 | 0 => ⟨fun _ _ _ _ _ r h => by simp [object_Tree.l0] at h, fun _ _ _ _ r h => by simp [object_Tree.l1] at h, fun _ _ _ _ _ _ r h => by simp [object_Tree.j2] at h, fun _ _ _ _ _ _ _ _ r h => by simp [object_Tree.l2] at h⟩
 | k + 1 => by
  obtain ⟨ih0, ih1, ih2, ih3⟩ := object_Tree.mono_l k
  refine ⟨?_, ?_, ?_, ?_⟩
  ·intro y0 y1 y2 y3 y4
   unfold object_Tree.l0
   repeat' first
   | (with_reducible exact ih0 _ _ _ _ _)
   | (with_reducible exact ih1 _ _ _ _)
   | (with_reducible exact ih2 _ _ _ _ _ _)
   | (with_reducible exact ih3 _ _ _ _ _ _ _ _)
   | (with_reducible exact object_eight.mono _ _ _)
   | (with_reducible exact path_Check.mono _ _)
   | (with_reducible exact path_Parts.mono _ _)
   | (with_reducible exact LeO.refl _)
   | (with_reducible exact LeO.none _)
   | (with_reducible refine LeO.ite ?_ ?_)
   | (with_reducible refine LeO.bind ?_ (fun _ => ?_))
   | exact ih0 _ _ _ _ _
   | exact ih1 _ _ _ _
   | exact ih2 _ _ _ _ _ _
   | exact ih3 _ _ _ _ _ _ _ _
   | exact object_eight.mono _ _ _
   | exact path_Check.mono _ _
   | exact path_Parts.mono _ _
   | exact LeO.none _
   | refine LeO.ite ?_ ?_
   | refine LeO.bind ?_ (fun _ => ?_)
  ·intro y0 y1 y2 y3
   unfold object_Tree.l1
   repeat' first
   | (with_reducible exact ih0 _ _ _ _ _)
   | (with_reducible exact ih1 _ _ _ _)
   | (with_reducible exact ih2 _ _ _ _ _ _)
   | (with_reducible exact ih3 _ _ _ _ _ _ _ _)
   | (with_reducible exact object_eight.mono _ _ _)
   | (with_reducible exact path_Check.mono _ _)
   | (with_reducible exact path_Parts.mono _ _)
   | (with_reducible exact LeO.refl _)
   | (with_reducible exact LeO.none _)
   | (with_reducible refine LeO.ite ?_ ?_)
   | (with_reducible refine LeO.bind ?_ (fun _ => ?_))
   | exact ih0 _ _ _ _ _
   | exact ih1 _ _ _ _
   | exact ih2 _ _ _ _ _ _
   | exact ih3 _ _ _ _ _ _ _ _
   | exact object_eight.mono _ _ _
   | exact path_Check.mono _ _
   | exact path_Parts.mono _ _
   | exact LeO.none _
   | refine LeO.ite ?_ ?_
   | refine LeO.bind ?_ (fun _ => ?_)
  ·intro y0 y1 y2 y3 y4 y5
   unfold object_Tree.j2
   repeat' first
   | (with_reducible exact ih0 _ _ _ _ _)
   | (with_reducible exact ih1 _ _ _ _)
   | (with_reducible exact ih2 _ _ _ _ _ _)
   | (with_reducible exact ih3 _ _ _ _ _ _ _ _)
   | (with_reducible exact object_eight.mono _ _ _)
   | (with_reducible exact path_Check.mono _ _)
   | (with_reducible exact path_Parts.mono _ _)
   | (with_reducible exact LeO.refl _)
   | (with_reducible exact LeO.none _)
   | (with_reducible refine LeO.ite ?_ ?_)
   | (with_reducible refine LeO.bind ?_ (fun _ => ?_))
   | exact ih0 _ _ _ _ _
   | exact ih1 _ _ _ _
   | exact ih2 _ _ _ _ _ _
   | exact ih3 _ _ _ _ _ _ _ _
   | exact object_eight.mono _ _ _
   | exact path_Check.mono _ _
   | exact path_Parts.mono _ _
   | exact LeO.none _
   | refine LeO.ite ?_ ?_
   | refine LeO.bind ?_ (fun _ => ?_)
  ·intro y0 y1 y2 y3 y4 y5 y6 y7
   unfold object_Tree.l2
   repeat' first
   | (with_reducible exact ih0 _ _ _ _ _)
   | (with_reducible exact ih1 _ _ _ _)
   | (with_reducible exact ih2 _ _ _ _ _ _)
   | (with_reducible exact ih3 _ _ _ _ _ _ _ _)
   | (with_reducible exact object_eight.mono _ _ _)
   | (with_reducible exact path_Check.mono _ _)
   | (with_reducible exact path_Parts.mono _ _)
   | (with_reducible exact LeO.refl _)
   | (with_reducible exact LeO.none _)
   | (with_reducible refine LeO.ite ?_ ?_)
   | (with_reducible refine LeO.bind ?_ (fun _ => ?_))
   | exact ih0 _ _ _ _ _
   | exact ih1 _ _ _ _
   | exact ih2 _ _ _ _ _ _
   | exact ih3 _ _ _ _ _ _ _ _
   | exact object_eight.mono _ _ _
   | exact path_Check.mono _ _
   | exact path_Parts.mono _ _
   | exact LeO.none _
   | refine LeO.ite ?_ ?_
   | refine LeO.bind ?_ (fun _ => ?_)
theorem object_Tree.mono : ∀ a0 k, LeO (object_Tree.f k a0) (object_Tree.f (k + 1) a0) := by
 intro a0 k
 obtain ⟨ih0, ih1, ih2, ih3⟩ := object_Tree.mono_l k
 unfold object_Tree.f
 repeat' first
   | (with_reducible exact ih0 _ _ _ _ _)
   | (with_reducible exact ih1 _ _ _ _)
   | (with_reducible exact ih2 _ _ _ _ _ _)
   | (with_reducible exact ih3 _ _ _ _ _ _ _ _)
   | (with_reducible exact object_eight.mono _ _ _)
   | (with_reducible exact path_Check.mono _ _)
   | (with_reducible exact path_Parts.mono _ _)
   | (with_reducible exact LeO.refl _)
   | (with_reducible exact LeO.none _)
   | (with_reducible refine LeO.ite ?_ ?_)
   | (with_reducible refine LeO.bind ?_ (fun _ => ?_))
   | exact ih0 _ _ _ _ _
   | exact ih1 _ _ _ _
   | exact ih2 _ _ _ _ _ _
   | exact ih3 _ _ _ _ _ _ _ _
   | exact object_eight.mono _ _ _
   | exact path_Check.mono _ _
   | exact path_Parts.mono _ _
   | exact LeO.none _
   | refine LeO.ite ?_ ?_
   | refine LeO.bind ?_ (fun _ => ?_)
def object_Tree.T10 : Bool × List (List Nat × List Nat) := (true, [([], []), ([], []), ([1], [1]), ([0, 2], [0, 2]), ([], []), ([4], [4]), ([3, 5, 3], [3, 5]), ([6, 6, 0, 1, 2, 3, 4, 5, 6], [0, 6])])
def object_Tree.B10 : List Nat := [0, 0, 2, 7, 0, 16, 63, 127]
theorem object_Tree.tab10 : rtab .any (opsOf Try.f39 10) = object_Tree.T10 := by kernel_rfl
theorem object_Tree.bits10 : waitsOk object_Tree.T10.2 object_Tree.B10 = true := by kernel_rfl
def object_Tree.T15 : Bool × List (List Nat × List Nat) := (true, [([], []), ([0], [0]), ([1], [1]), ([2], [2]), ([2], [2]), ([4, 2], [2, 4]), ([3, 5, 2], [2, 3, 5]), ([6, 2], [2, 6]), ([7, 2], [2, 7]), ([2], [2]), ([2], [2]), ([9, 10, 2], [2, 9, 10]), ([11, 2], [2, 11]), ([12, 2], [2, 12]), ([8, 13, 2], [2, 8, 13]), ([2, 14], [2, 14])])
def object_Tree.B15 : List Nat := [0, 1, 3, 7, 7, 23, 63, 127, 255, 7, 7, 1543, 3591, 7687, 16383, 32767]
theorem object_Tree.tab15 : rtab .any (opsOf Try.f39 15) = object_Tree.T15 := by kernel_rfl
theorem object_Tree.bits15 : waitsOk object_Tree.T15.2 object_Tree.B15 = true := by kernel_rfl
attribute [local go_sem] geq_str   -- for this text's walks alone
set_option maxHeartbeats 8000000 in
set_option maxRecDepth 100000 in
theorem object_Tree.calls (k : Nat) (A0 : Option Addr) (c0 : Nat) (l0 : List (S38)) (r1 : List Int) (r2 : Int) (w : World) (hr0 : Kd.C k38 w A0 l0.length l0) (hc0 : l0.length ≤ c0) (h : object_Tree.f k l0 = some (r1, r2)) :
  Calls Try.prog 39 #[.slice A0 l0.length c0] w fun e w' => ∃ v0_ : Value, e = .returned (.tuple #[v0_, .int .i64 r2]) ∧ Kd.R (Kd.int .u8) 5 w' w.heap.size (fun _ => True) v0_ r1 ∧ Below w.heap.size w w' := by
 have hu38 := Try.underlying38
 have HR0 := Aside0.mk hr0
 have HC0 := Aside0.mk hc0
 clear hr0 hc0
 have HB := Aside0.mk (Below.refl w.heap.size w)
 have H : (if (l0.length : Int) > 64 then (some (([] : List Int), 4)) else (object_Tree.l0 k l0 ([] : List Int) l0 (l0.length : Int) 0)) = some (r1, r2) := h
 clear h
 by_cases c2 : (l0.length : Int) > 64
 ·rw [if_pos c2] at H
  have c2b0 : decide (64 < (l0.length : Int)) = true := decide_eq_true c2
  have c2b1 : decide (64 < l0.length) = true := decide_eq_true (by omega)
  clear c2
  simp only [Option.some.injEq, Prod.mk.injEq] at H
  obtain ⟨rfl, rfl⟩ := H
  go_enter Try.func39, Try.ntmps39
  go_wp2
  go_ret2
  exact ⟨_, by first | rfl | (simp [errW_none, errW_some] <;> rfl) | (simp [*, errW_none, errW_some] <;> rfl), by first | exact Kd.R_nil _ _ _ _ _ | exact Kd.N_nil _ _ _ _ _ | exact Kd.V_nil _ _ _ _ _ | exact Kd.Q_nil _ _ _ _ _ | exact Kd.S_nil _ _ _ _ _, by repeat (first | (with_reducible first | exact HB.out | apply below_alloc | apply pw_below_drewN | apply below_drew1) | exact HB.out)⟩
 ·rw [if_neg c2] at H
  have c2b0 : decide (64 < (l0.length : Int)) = false := decide_eq_false c2
  have c2b1 : decide (64 < l0.length) = false := decide_eq_false (by omega)
  clear c2
  have H' := Aside0.mk H
  clear H
  go_enter Try.func39, Try.ntmps39
  go_wp2
  go_loopg [4, 17] k (fun kq v4 v17 w' => ∃ (x4_1 : List Int) (x17_1 : Int), v17 = .int .i64 x17_1 ∧ Aside0 (object_Tree.l0 kq l0 x4_1 l0 (l0.length : Int) x17_1 = some (r1, r2)) ∧ Aside0 (kq ≤ k) ∧ Aside0 (Kd.R (Kd.int .u8) 5 w' w.heap.size (fun _ => True) v4 x4_1) ∧ Aside0 (Below w.heap.size w w'))
  case atStart => exact ⟨(([] : List Int)), (0), (by first | rfl | (simp; done) | (simp [*]; done)), H', ⟨Nat.le_refl _⟩, ⟨by first | exact Kd.R_nil _ _ _ _ _ | exact Kd.N_nil _ _ _ _ _ | exact Kd.V_nil _ _ _ _ _ | exact Kd.Q_nil _ _ _ _ _ | exact Kd.S_nil _ _ _ _ _⟩, ⟨by repeat (first | (with_reducible first | exact HB.out | apply below_alloc | apply pw_below_drewN | apply below_drew1) | exact HB.out)⟩⟩
  case round =>
   clear H'
   try clear c2
   try clear c2b0
   try clear c2b1
   try clear p2
   obtain ⟨x4_1, x17_1, rfl, HA, HK1, HO_4, HB⟩ := hrel
   cases gk with
   | zero => exact absurd HA.out (by simp [object_Tree.l0])
   | succ k1 =>
    have H := HA.out
    clear HA
    simp only [object_Tree.l0] at H
    by_cases c3 : x17_1 < (l0.length : Int)
    ·rw [if_pos c3] at H
     have c3b0 : decide (x17_1 < (l0.length : Int)) = true := decide_eq_true c3
     clear c3
     by_cases c4 : 0 ≤ x17_1
     ·rw [if_pos c4] at H
      have c4b0 : decide (0 ≤ x17_1) = true := decide_eq_true c4
      clear c4
      by_cases c5 : x17_1 < (l0.length : Int)
      ·rw [if_pos c5] at H
       have c5b0 : decide (x17_1 < (l0.length : Int)) = true := decide_eq_true c5
       clear c5
       replace H := Option.bind_eq_some_iff.mp H
       obtain ⟨t134, A60, H⟩ := H
       replace H : (if t134 = 0 then (if x4_1.length < 140737488355328 then ((some (x4_1 ++ [((((rd_T38 l0 x17_1).f0).size : Int)) % 256] : List Int)).bind fun y135 => (if y135.length + ((rd_T38 l0 x17_1).f0).size < 140737488355328 then ((object_eight.f k1 (y135 ++ bytesOf ((rd_T38 l0 x17_1).f0)) ((rd_T38 l0 x17_1).f1)).bind fun t141 => (object_Tree.l0 k1 l0 t141 l0 (l0.length : Int) (wrap64 (x17_1 + 1)))) else (none))) else (none)) else (some (([] : List Int), 2))) = some (r1, r2) := H
       have A6 := Aside0.mk A60
       clear A60
       by_cases c7 : t134 = 0
       ·rw [if_pos c7] at H
        have c7b0 : (t134 == 0) = true := beq_iff_eq.mpr c7
        have c7b1 : (t134 != 0) = false := bne_eq_false_iff_eq.mpr c7
        clear c7
        by_cases c8 : x4_1.length < 140737488355328
        ·rw [if_pos c8] at H
         have LMc8 := Aside0.mk c8
         clear c8
         obtain ⟨y135, hy135⟩ : ∃ y_ : List Int, y_ = (x4_1 ++ [((((rd_T38 l0 x17_1).f0).size : Int)) % 256]) := ⟨_, rfl⟩
         replace H : (if y135.length + ((rd_T38 l0 x17_1).f0).size < 140737488355328 then ((object_eight.f k1 (y135 ++ bytesOf ((rd_T38 l0 x17_1).f0)) ((rd_T38 l0 x17_1).f1)).bind fun t141 => (object_Tree.l0 k1 l0 t141 l0 (l0.length : Int) (wrap64 (x17_1 + 1)))) else (none)) = some (r1, r2) := by first | (rw [hy135]; with_reducible exact H) | (have H2_ := (Option.bind_some _ _).symm.trans H; rw [hy135]; with_reducible exact H2_) | (have H2_ := (Option.bind_some _ _).symm.trans H; with_reducible exact H2_) | with_reducible exact H | (rw [hy135]; exact H) | exact H
         have Ny135 := Aside0.mk hy135
         clear hy135
         by_cases c9 : y135.length + ((rd_T38 l0 x17_1).f0).size < 140737488355328
         ·rw [if_pos c9] at H
          have LMc9 := Aside0.mk c9
          clear c9
          obtain ⟨y138, hy138⟩ : ∃ y_ : List Int, y_ = (y135 ++ bytesOf ((rd_T38 l0 x17_1).f0)) := ⟨_, rfl⟩
          replace H : ((object_eight.f k1 y138 ((rd_T38 l0 x17_1).f1)).bind fun t141 => (object_Tree.l0 k1 l0 t141 l0 (l0.length : Int) (wrap64 (x17_1 + 1)))) = some (r1, r2) := by first | (rw [hy138]; with_reducible exact H) | (have H2_ := (Option.bind_some _ _).symm.trans H; rw [hy138]; with_reducible exact H2_) | (have H2_ := (Option.bind_some _ _).symm.trans H; with_reducible exact H2_) | with_reducible exact H | (rw [hy138]; exact H) | exact H
          have Ny138 := Aside0.mk hy138
          clear hy138
          replace H := Option.bind_eq_some_iff.mp H
          obtain ⟨t141, A100, H⟩ := H
          replace H : (object_Tree.l0 k1 l0 t141 l0 (l0.length : Int) (wrap64 (x17_1 + 1))) = some (r1, r2) := H
          have A10 := Aside0.mk A100
          clear A100
          have H' := Aside0.mk H
          clear H
          have p132 : 0 ≤ (x17_1 : Int) := of_decide_eq_true (by first | (with_reducible assumption) | assumption)
          have q132 : x17_1 < (l0.length : Int) := of_decide_eq_true (by first | (with_reducible assumption) | assumption)
          obtain ⟨ad132, e132, hx132_0, hx132_1⟩ := at_T38 HR0.out x17_1 p132 q132
          cases e132
          try replace hx132_0 := (HB.out.cell (World.block_lt_of_cell? w _ hx132_0)).trans hx132_0
          try replace hx132_1 := (HB.out.cell (World.block_lt_of_cell? w _ hx132_1)).trans hx132_1
          replace p132 := eq_true p132
          replace q132 := eq_true q132
          try go_wp2_with (first | ((with_reducible refine gate_dst (N := 6) rfl ?_); refine box_event ?hg (N := 6) ?hd (cs := #[.string (⟨#[]⟩ : ByteArray), .int .u64 0]) (t := 38) ?hr ?_; (case hd => rfl); (case hg => rfl); (case hr => first | (go_simp; done) | (go_simp; rfl)); intro gb133 hg w11 hbox hb; have n0_ := Aside0.mk (Kd.R_below (by (with_reducible repeat (first | apply Kd.R_alloc | apply Kd.R_drewN | apply Kd.R_drew)); exact HO_4.out) hb); have n1_ := Aside0.mk (below_step (by repeat (first | (with_reducible first | exact HB.out | apply below_alloc | apply pw_below_drewN | apply below_drew1) | exact HB.out)) hb); have n2_ := Aside0.mk (hbox); have n3_ := Aside0.mk ((by rw [hg]; exact (below_size (by repeat (first | (with_reducible first | exact HB.out | apply below_alloc | apply pw_below_drewN | apply below_drew1) | exact HB.out))) : w.heap.size ≤ gb133)); have n4_ := Aside0.mk ((by rw [hg]; exact (below_size (by repeat (first | (with_reducible first | exact HB.out | apply below_alloc | apply pw_below_drewN | apply below_drew1) | exact HB.out))) : w.heap.size ≤ gb133)); clear HO_4; clear HB; have HO_4 := n0_; have HB := n1_; have BK133 := n2_; have GW133 := n3_; have GE133 := n4_; clear n0_ n1_ n2_ n3_ n4_; clear hb hbox hg; have hcz12_0 : w11.cell? ⟨gb133, 0, none⟩ = some (.string (⟨#[]⟩ : ByteArray)) := (blk_cell BK133.out 0).trans rfl; have hcz12_1 : w11.cell? ⟨gb133, 1, none⟩ = some (.int .u64 0) := (blk_cell BK133.out 1).trans rfl; have hfz12_0 := blk_frozen BK133.out 0; have hfz12_1 := blk_frozen BK133.out 1) | ((with_reducible refine gate_callee (f := 46) rfl ?_); refine goesL_ (some 23) rfl rfl Try.func46 (by kernel_rfl) rfl #[.string ((rd_T38 l0 x17_1).f0)] rfl (by (try simp only [List.map_toArray, List.map_cons, List.map_nil]); first | done | rfl | (simp only [List.length_drop, List.length_take]; rfl)) ?_; (with_reducible refine (path_Check.calls k1 ((rd_T38 l0 x17_1).f0) t134 _ A6.out).mono ?_); rintro e w' ⟨rfl, ⟨nd, rfl⟩⟩; refine ⟨_, rfl, ?_⟩) | ((with_reducible refine gate_builtin (b := .append) (xs := #[.tmp 25, .tmp 30]) rfl ?_); at_builtin; refine Kd.R_append (Kd.int .u8) (w0 := w) w.heap.size rfl (.tmp 25) (.tmp 30) 84 5 (.int .u8 0) 1 rfl Try.underlying84 info5 rfl (by decide) (by omega) u4 x4_1 (((((rd_T38 l0 x17_1).f0).size : Int)) % 256) [.int .u8 (((((rd_T38 l0 x17_1).f0).size : Int)) % 256)] (fun _ => True) (fun _ => False) rfl (by first | (go_simp; done) | (go_simp; rfl)) ?aP (fun _ hk => hk.elim) ?aF ?aO ?aB ?aS ?aL ?_; (case aP => exact rfl); (case aB => exact (by repeat (first | (with_reducible first | exact HB.out | apply below_alloc | apply pw_below_drewN | apply below_drew1 | refine below_set ?_ GE133.out) | exact HB.out))); (case aF => exact (fun _ _ => trivial)); (case aO => exact (by (with_reducible repeat (first | apply Kd.R_alloc | apply Kd.R_drewN | apply Kd.R_drew)); exact Kd.R_mono (Kd.R_far (p := ⟨gb133, 1, none⟩) (Kd.R_far (p := ⟨gb133, 0, none⟩) (Kd.R_types HO_4.out BK133.out (by decide)) (fun _ hk => hk.2) (.string ((rd_T38 l0 x17_1).f0))) (fun _ hk => hk.2) (.int .u64 ((rd_T38 l0 x17_1).f1))) (fun _ hk => trivial))); (case aS => exact (below_size (by repeat (first | (with_reducible first | exact HB.out | apply below_alloc | apply pw_below_drewN | apply below_drew1 | refine below_set ?_ GE133.out) | exact HB.out)))); (case aL => have := LMc8.out; omega); intro v136 w13 ho hb hg hat; rw [← Ny135.out] at ho; have n0_ := Aside0.mk (blk_grown (g := gb133) (o := .cells #[.string ((rd_T38 l0 x17_1).f0), .int .u64 ((rd_T38 l0 x17_1).f1)] 38 (0, 0)) (by (with_reducible repeat (first | refine blk_drewN ?_ _ | refine blk_drew ?_ | refine blk_alloc ?_ _)); refine blk_put (cs := #[.string ((rd_T38 l0 x17_1).f0), .int .u64 0]) ?_ 1 _ rfl; (with_reducible repeat (first | refine blk_drewN ?_ _ | refine blk_drew ?_ | refine blk_alloc ?_ _)); refine blk_put (cs := #[.string (⟨#[]⟩ : ByteArray), .int .u64 0]) ?_ 0 _ rfl; (with_reducible repeat (first | refine blk_drewN ?_ _ | refine blk_drew ?_ | refine blk_alloc ?_ _)); exact BK133.out) hg (Kd.R_ne HO_4.out BK133.out (by decide))); have n1_ := Aside0.mk (hb); have n2_ := Aside0.mk (ho); clear BK133; clear HB; clear HO_4; have BK133 := n0_; have HB := n1_; have HO137 := n2_; clear n0_ n1_ n2_; clear ho hb hg hat))
          have n0_ := Aside0.mk (Kd.R_drew HO137.out)
          have n1_ := Aside0.mk (blk_drew BK133.out)
          have n2_ := Aside0.mk (below_drew1 HB.out)
          clear HO137
          clear BK133
          clear HB
          have HO137 := n0_
          have BK133 := n1_
          have HB := n2_
          clear n0_ n1_ n2_
          refine start_ (n := 8) (S := fun w' => w'.cell? ⟨gb133, 0, none⟩ = some (.string ((rd_T38 l0 x17_1).f0)) ∧ w'.cell? ⟨gb133, 1, none⟩ = some (.int .u64 ((rd_T38 l0 x17_1).f1))) (ds := []) #[false, false, false, false, false, false, false, false] (by kernel_rfl) rfl rfl ⟨(blk_cell BK133.out 0).trans rfl, (blk_cell BK133.out 1).trans rfl⟩ (fun hHeld => ?_); refine with_tabW object_Tree.tab10 object_Tree.bits10 (fun HT_ HW_ => ?_)
          generalize w13.drew = w14 at HO137 BK133 HB hHeld ⊢
          refine pure_ (i := 0) (N := some 32) (v := ?_) (a' := ?_) #[true, false, false, false, false, false, false, false] rfl rfl (any_of HT_.out (by kernel_rfl)) (fun _ _ _ h => h) (Or.inl ⟨by rfl, ?_⟩) ?_ ?_
          rotate_left
          ·intro w'
           go_simp
           with_reducible rfl
          rotate_left
          ·simp only [Act.put, List.setIfInBounds_toArray, List.set_cons_zero, List.set_cons_succ, i64_w, i32_w]
           rfl
          refine pure_ (i := 1) (N := some 33) (v := ?_) (a' := ?_) #[true, true, false, false, false, false, false, false] rfl rfl (any_of HT_.out (by kernel_rfl)) (fun _ _ _ h => h) (Or.inl ⟨by rfl, ?_⟩) ?_ ?_
          rotate_left
          ·intro w'
           go_simp
           with_reducible rfl
          rotate_left
          ·simp only [Act.put, List.setIfInBounds_toArray, List.set_cons_zero, List.set_cons_succ, i64_w, i32_w]
           rfl
          refine pure_ (i := 4) (N := some 36) (v := ?_) (a' := ?_) #[true, true, false, false, true, false, false, false] rfl rfl (any_of HT_.out (by kernel_rfl)) (fun _ _ _ h => h) (Or.inl ⟨by rfl, ?_⟩) ?_ ?_
          rotate_left
          ·intro w'
           go_simp
           with_reducible rfl
          rotate_left
          ·simp only [Act.put, List.setIfInBounds_toArray, List.set_cons_zero, List.set_cons_succ, i64_w, i32_w]
           rfl
          refine take_ (i := 2) (N := some 34) (v := ?_) (a' := ?_) #[true, true, true, false, true, false, false, false] rfl rfl (take_ofW HT_.out HW_.out (by kernel_rfl)) (fun _ _ _ h => h) (Or.inl ⟨by rfl, ?_⟩) hHeld ?_ ?_
          rotate_left
          ·rintro w' ⟨s0, s1⟩
           go_simp
           with_reducible rfl
          rotate_left
          ·simp only [Act.put, List.setIfInBounds_toArray, List.set_cons_zero, List.set_cons_succ, i64_w, i32_w]
           rfl
          refine take_ (i := 5) (N := some 37) (v := ?_) (a' := ?_) #[true, true, true, false, true, true, false, false] rfl rfl (take_ofW HT_.out HW_.out (by kernel_rfl)) (fun _ _ _ h => h) (Or.inl ⟨by rfl, ?_⟩) hHeld ?_ ?_
          rotate_left
          ·rintro w' ⟨s0, s1⟩
           go_simp
           with_reducible rfl
          rotate_left
          ·simp only [Act.put, List.setIfInBounds_toArray, List.set_cons_zero, List.set_cons_succ, i64_w, i32_w]
           rfl
          refine one_ (i := 3) (N := some 35) #[true, true, true, true, true, true, false, false] rfl rfl (one_of HT_.out (by kernel_rfl)) (by decide) (fun K hK => ?_)
          refine print_append_str_step (w0 := w) w.heap.size (by rfl) (.tmp 32) _ 84 9 5 rfl Try.underlying84 Try.underlying9 info5 v136 y135 ((rd_T38 l0 x17_1).f0) rfl rfl ?aO ?aB ?aS ?aL ?_
          (case aB => exact (by repeat (first | (with_reducible first | exact HB.out | apply below_alloc | apply pw_below_drewN | apply below_drew1 | refine below_set ?_ GE133.out) | exact HB.out)))
          (case aO => exact (Kd.own_of_R (by (with_reducible repeat (first | apply Kd.R_alloc | apply Kd.R_drewN | apply Kd.R_drew)); exact HO137.out)))
          (case aS => exact (below_size (by repeat (first | (with_reducible first | exact HB.out | apply below_alloc | apply pw_below_drewN | apply below_drew1 | refine below_set ?_ GE133.out) | exact HB.out))))
          (case aL => have := LMc9.out; omega)
          intro v139 w15 ho0 hb hg
          have ho := Kd.R_of_own (h1 := fun _ => rfl) (ok := fun _ => True) ho0 (fun _ _ => trivial)
          clear ho0
          have hat := True.intro
          rw [← Ny138.out] at ho
          change Kd.R (Kd.int .u8) 5 w15 w.heap.size (fun _ => True) v139 y138 at ho
          have n0_ := Aside0.mk (blk_grown (g := gb133) (o := .cells #[.string ((rd_T38 l0 x17_1).f0), .int .u64 ((rd_T38 l0 x17_1).f1)] 38 (0, 0)) (by (with_reducible repeat (first | refine blk_drewN ?_ _ | refine blk_drew ?_ | refine blk_alloc ?_ _)); exact BK133.out) hg (Kd.R_ne HO137.out BK133.out (by decide)))
          have n1_ := Aside0.mk (hb)
          have n2_ := Aside0.mk (ho)
          clear BK133
          clear HB
          clear HO137
          have BK133 := n0_
          have HB := n1_
          have HO140 := n2_
          clear n0_ n1_ n2_
          clear ho hb hg hat
          obtain ⟨Ao16, co16, eo16⟩ := Kd.R_slice HO140.out
          (first | subst eo16 | (injection eo16 with f1_ f2_ f3_; have f4_ := f1_.symm; have f5_ := f3_.symm; clear f1_ f2_ f3_; subst f4_; subst f5_))
          refine hK.out _ _ ⟨(blk_cell BK133.out 0).trans rfl, (blk_cell BK133.out 1).trans rfl⟩ (fun hHeld => ?_)
          clear hK K
          refine norm_ (a' := ?_) ?_ ?_
          rotate_left
          ·show Act.put _ (some 35) _ = _
           simp only [Act.put, List.setIfInBounds_toArray, List.set_cons_zero, List.set_cons_succ, i64_w, i32_w]
           rfl
          refine one_ (i := 6) (N := some 38) #[true, true, true, true, true, true, true, false] rfl rfl (one_of HT_.out (by kernel_rfl)) (by decide) (fun K hK => ?_)
          refine goes_ Try.func56 (by kernel_rfl) rfl #[.slice Ao16 y138.length co16, .int .u64 ((rd_T38 l0 x17_1).f1)] (by rfl) rfl rfl (by (try simp only [List.map_toArray, List.map_cons, List.map_nil]); first | done | rfl | (simp only [List.length_drop, List.length_take]; rfl)) ?_
          with_reducible refine (object_eight.calls k1 (fun k_ => some k_ = (.slice Ao16 y138.length co16 : Value).ownBlock) (.slice Ao16 y138.length co16) y138 ((rd_T38 l0 x17_1).f1) t141 w _ ?side1 ?side2 A10.out).mono ?_
          (case side1 => repeat (first | (with_reducible first | exact HB.out | apply below_alloc | apply pw_below_drewN | apply below_drew1 | refine below_set ?_ GE133.out) | exact HB.out))
          (case side2 => exact Kd.R_tight rfl HO140.out)
          rintro e w17 ⟨v142, rfl, ho0, hb, hkp⟩
          refine ⟨_, rfl, ?_⟩
          have n0_ := Aside0.mk (blk_kept (by (with_reducible repeat (first | refine blk_drewN ?_ _ | refine blk_drew ?_ | refine blk_alloc ?_ _)); exact BK133.out) hkp (fun hs_ => (fun e_ => (Kd.R_ne HO140.out BK133.out (by decide)) e_) hs_))
          have n1_ := Aside0.mk (Kd.R_mono (ok' := fun k_ => True) ho0 (fun k_ hk_ => trivial))
          have n2_ := Aside0.mk (hb)
          clear BK133
          clear HB
          clear HO140
          have BK133 := n0_
          have HO143 := n1_
          have HB := n2_
          clear n0_ n1_ n2_
          (try clear hb)
          (try clear hkp)
          (try clear ho0)
          refine hK.out _ _ ⟨(blk_cell BK133.out 0).trans rfl, (blk_cell BK133.out 1).trans rfl⟩ (fun hHeld => ?_)
          clear hK K
          refine norm_ (a' := ?_) ?_ ?_
          rotate_left
          ·show Act.put _ (some 38) _ = _
           simp only [Act.put, List.setIfInBounds_toArray, List.set_cons_zero, List.set_cons_succ, i64_w, i32_w]
           rfl
          refine pure_ (i := 7) (N := some 4) (v := ?_) (a' := ?_) #[true, true, true, true, true, true, true, true] rfl rfl (any_of HT_.out (by kernel_rfl)) (fun _ _ _ h => h) (Or.inl ⟨by rfl, ?_⟩) ?_ ?_
          rotate_left
          ·intro w'
           go_simp
           with_reducible rfl
          rotate_left
          ·simp only [Act.put, List.setIfInBounds_toArray, List.set_cons_zero, List.set_cons_succ, i64_w, i32_w]
           rfl
          refine done_ (done_of HT_.out (by kernel_rfl)) ?_
          try go_wp2
          go_roundg k1
          case measure => have := HK1.out; omega
          case rel => exact ⟨(t141), (wrap64 (x17_1 + 1)), (by first | rfl | (simp; done) | (simp [*]; done)), H', ⟨by have := HK1.out; omega⟩, ⟨by (with_reducible repeat (first | apply Kd.R_alloc | apply Kd.R_drewN | apply Kd.R_drew)); exact HO143.out⟩, ⟨by repeat (first | (with_reducible first | exact HB.out | apply below_alloc | apply pw_below_drewN | apply below_drew1 | refine below_set ?_ GE133.out) | exact HB.out)⟩⟩
         ·rw [if_neg c9] at H
          exact absurd H (by simp)
        ·rw [if_neg c8] at H
         exact absurd H (by simp)
       ·rw [if_neg c7] at H
        have c7b0 : (t134 == 0) = false := beq_eq_false_iff_ne.mpr c7
        have c7b1 : (t134 != 0) = true := bne_iff_ne.mpr c7
        simp only [Option.some.injEq, Prod.mk.injEq] at H
        obtain ⟨rfl, rfl⟩ := H
        have p132 : 0 ≤ (x17_1 : Int) := of_decide_eq_true (by first | (with_reducible assumption) | assumption)
        have q132 : x17_1 < (l0.length : Int) := of_decide_eq_true (by first | (with_reducible assumption) | assumption)
        obtain ⟨ad132, e132, hx132_0, hx132_1⟩ := at_T38 HR0.out x17_1 p132 q132
        cases e132
        try replace hx132_0 := (HB.out.cell (World.block_lt_of_cell? w _ hx132_0)).trans hx132_0
        try replace hx132_1 := (HB.out.cell (World.block_lt_of_cell? w _ hx132_1)).trans hx132_1
        replace p132 := eq_true p132
        replace q132 := eq_true q132
        go_wp2_with (first | ((with_reducible refine gate_dst (N := 6) rfl ?_); refine box_event ?hg (N := 6) ?hd (cs := #[.string (⟨#[]⟩ : ByteArray), .int .u64 0]) (t := 38) ?hr ?_; (case hd => rfl); (case hg => rfl); (case hr => first | (go_simp; done) | (go_simp; rfl)); intro gb133 hg w18 hbox hb; have n0_ := Aside0.mk (Kd.R_below (by (with_reducible repeat (first | apply Kd.R_alloc | apply Kd.R_drewN | apply Kd.R_drew)); exact HO_4.out) hb); have n1_ := Aside0.mk (below_step (by repeat (first | (with_reducible first | exact HB.out | apply below_alloc | apply pw_below_drewN | apply below_drew1) | exact HB.out)) hb); have n2_ := Aside0.mk (hbox); have n3_ := Aside0.mk ((by rw [hg]; exact (below_size (by repeat (first | (with_reducible first | exact HB.out | apply below_alloc | apply pw_below_drewN | apply below_drew1) | exact HB.out))) : w.heap.size ≤ gb133)); have n4_ := Aside0.mk ((by rw [hg]; exact (below_size (by repeat (first | (with_reducible first | exact HB.out | apply below_alloc | apply pw_below_drewN | apply below_drew1) | exact HB.out))) : w.heap.size ≤ gb133)); clear HO_4; clear HB; have HO_4 := n0_; have HB := n1_; have BK133 := n2_; have GW133 := n3_; have GE133 := n4_; clear n0_ n1_ n2_ n3_ n4_; clear hb hbox hg; have hcz19_0 : w18.cell? ⟨gb133, 0, none⟩ = some (.string (⟨#[]⟩ : ByteArray)) := (blk_cell BK133.out 0).trans rfl; have hcz19_1 : w18.cell? ⟨gb133, 1, none⟩ = some (.int .u64 0) := (blk_cell BK133.out 1).trans rfl; have hfz19_0 := blk_frozen BK133.out 0; have hfz19_1 := blk_frozen BK133.out 1) | ((with_reducible refine gate_callee (f := 46) rfl ?_); refine goesL_ (some 23) rfl rfl Try.func46 (by kernel_rfl) rfl #[.string ((rd_T38 l0 x17_1).f0)] rfl (by (try simp only [List.map_toArray, List.map_cons, List.map_nil]); first | done | rfl | (simp only [List.length_drop, List.length_take]; rfl)) ?_; (with_reducible refine (path_Check.calls k1 ((rd_T38 l0 x17_1).f0) t134 _ A6.out).mono ?_); rintro e w' ⟨rfl, ⟨nd, rfl⟩⟩; refine ⟨_, rfl, ?_⟩))
        go_ret2
        exact ⟨_, by first | rfl | (simp [errW_none, errW_some] <;> rfl) | (simp [*, errW_none, errW_some] <;> rfl), by first | exact Kd.R_nil _ _ _ _ _ | exact Kd.N_nil _ _ _ _ _ | exact Kd.V_nil _ _ _ _ _ | exact Kd.Q_nil _ _ _ _ _ | exact Kd.S_nil _ _ _ _ _, by repeat (first | (with_reducible first | exact HB.out | apply below_alloc | apply pw_below_drewN | apply below_drew1 | refine below_set ?_ GE133.out) | exact HB.out)⟩
      ·rw [if_neg c5] at H
       exact absurd H (by simp)
     ·rw [if_neg c4] at H
      exact absurd H (by simp)
    ·rw [if_neg c3] at H
     have c3b0 : decide (x17_1 < (l0.length : Int)) = false := decide_eq_false c3
     clear c3
     have H' := Aside0.mk H
     clear H
     go_wp2
     go_loopg [42] k1 (fun kq v42 w' => ∃ (x42_2 : Int), v42 = .int .i64 x42_2 ∧ Aside0 (object_Tree.l1 kq l0 x4_1 (l0.length : Int) x42_2 = some (r1, r2)) ∧ Aside0 (kq ≤ k1) ∧ Aside0 (Kd.R (Kd.int .u8) 5 w' w.heap.size (fun _ => True) u4 x4_1) ∧ Aside0 (Below w.heap.size w w'))
     case atStart => exact ⟨(0), (by first | rfl | (simp; done) | (simp [*]; done)), H', ⟨Nat.le_refl _⟩, ⟨by (with_reducible repeat (first | apply Kd.R_alloc | apply Kd.R_drewN | apply Kd.R_drew)); exact HO_4.out⟩, ⟨by repeat (first | (with_reducible first | exact HB.out | apply below_alloc | apply pw_below_drewN | apply below_drew1) | exact HB.out)⟩⟩
     case round =>
      clear H'
      try clear p1
      try clear q1
      try clear hx1
      try clear c2
      try clear c2b0
      try clear c2b1
      try clear p2
      try clear c3
      try clear c3b0
      try clear c4
      try clear c4b0
      try clear c5
      try clear c5b0
      try clear p6
      try clear c7
      try clear c7b0
      try clear c7b1
      try clear c8
      try clear c9
      try clear p13
      try clear q13
      try clear hx13
      try clear hcz12_0
      try clear hcz12_1
      try clear hcz19_0
      try clear hcz19_1
      try clear hfz12_0
      try clear hfz12_1
      try clear hfz19_0
      try clear hfz19_1
      try clear hx132_0
      try clear hx132_1
      try clear p132
      try clear p2
      try clear q132
      obtain ⟨x42_2, rfl, HA, HK2, HO_4, HB⟩ := hrel
      cases gk with
      | zero => exact absurd HA.out (by simp [object_Tree.l1])
      | succ k2 =>
       have H := HA.out
       clear HA
       simp only [object_Tree.l1] at H
       by_cases c20 : x42_2 < (l0.length : Int)
       ·rw [if_pos c20] at H
        have c20b0 : decide (x42_2 < (l0.length : Int)) = true := decide_eq_true c20
        clear c20
        have HC21 := Aside0.mk H
        clear H
        go_upto_region 15 with (fail)
        go_cut [60] (fun v60 wc => ∃ (kq : Nat) (x60_20 : Bool), v60 = .bool x60_20 ∧ Aside0 (object_Tree.j2 kq l0 x4_1 x42_2 (l0.length : Int) x42_2 x60_20 = some (r1, r2)) ∧ Aside0 (kq ≤ k2) ∧ Aside0 (Kd.R (Kd.int .u8) 5 wc w.heap.size (fun _ => True) u4 x4_1) ∧ Aside0 (Below w.heap.size w wc))
        case first =>
         have H := HC21.out
         clear HC21
         by_cases c22 : x42_2 > 0
         ·rw [if_pos c22] at H
          have c22b0 : decide (0 < x42_2) = true := decide_eq_true c22
          clear c22
          (first | rw [c22b0] | (simp only [i64_w, i32_w]; rw [c22b0]) | skip)
          obtain ⟨ji23, hji23⟩ : ∃ j_ : Int, (wrap64 (x42_2 - 1)) = j_ := ⟨_, rfl⟩
          replace H : (if 0 ≤ (ji23) then (if (ji23) < (l0.length : Int) then (if 0 ≤ x42_2 then (if x42_2 < (l0.length : Int) then (object_Tree.j2 k2 l0 x4_1 x42_2 (l0.length : Int) x42_2 (!(Op.bytesLess (((rd_T38 l0 (ji23)).f0).toList) (((rd_T38 l0 x42_2).f0).toList)))) else (none)) else (none)) else (none)) else (none)) = some (r1, r2) := by first | (rw [hji23] at H; exact H) | (simp only [hji23] at H ⊢; exact H)
          have hji23w : (IntKind.i64.wrap (x42_2 - 1)) = ji23 := (i64_w _).trans hji23
          by_cases c24 : 0 ≤ (ji23)
          ·rw [if_pos c24] at H
           have c24b0 : decide (0 ≤ (ji23)) = true := decide_eq_true c24
           clear c24
           by_cases c25 : (ji23) < (l0.length : Int)
           ·rw [if_pos c25] at H
            have c25b0 : decide ((ji23) < (l0.length : Int)) = true := decide_eq_true c25
            clear c25
            by_cases c26 : 0 ≤ x42_2
            ·rw [if_pos c26] at H
             have c26b0 : decide (0 ≤ x42_2) = true := decide_eq_true c26
             clear c26
             by_cases c27 : x42_2 < (l0.length : Int)
             ·rw [if_pos c27] at H
              have c27b0 : decide (x42_2 < (l0.length : Int)) = true := decide_eq_true c27
              clear c27
              have H' := Aside0.mk H
              clear H
              try go_wp2
              have n0_ := Aside0.mk (Kd.R_drew HO_4.out)
              have n1_ := Aside0.mk (below_drew1 HB.out)
              clear HO_4
              clear HB
              have HO_4 := n0_
              have HB := n1_
              clear n0_ n1_
              have p144 : 0 ≤ ((ji23) : Int) := of_decide_eq_true (by first | (with_reducible assumption) | assumption)
              have q144 : (ji23) < (l0.length : Int) := of_decide_eq_true (by first | (with_reducible assumption) | assumption)
              obtain ⟨ad144, e144, hx144_0, hx144_1⟩ := at_T38 HR0.out (ji23) p144 q144
              have hw144_1 := hx144_1
              have hw144_0 := hx144_0
              cases e144
              try replace hx144_0 := (HB.out.cell (World.block_lt_of_cell? w _ hx144_0)).trans hx144_0
              try replace hx144_1 := (HB.out.cell (World.block_lt_of_cell? w _ hx144_1)).trans hx144_1
              replace p144 := eq_true p144
              replace q144 := eq_true q144
              have p145 : 0 ≤ (x42_2 : Int) := of_decide_eq_true (by first | (with_reducible assumption) | assumption)
              have q145 : x42_2 < (l0.length : Int) := of_decide_eq_true (by first | (with_reducible assumption) | assumption)
              obtain ⟨ad145, e145, hx145_0, hx145_1⟩ := at_T38 HR0.out x42_2 p145 q145
              have hw145_1 := hx145_1
              have hw145_0 := hx145_0
              obtain rfl : ad144 = ad145 := (by injection e145)
              try replace hx145_0 := (HB.out.cell (World.block_lt_of_cell? w _ hx145_0)).trans hx145_0
              try replace hx145_1 := (HB.out.cell (World.block_lt_of_cell? w _ hx145_1)).trans hx145_1
              replace p145 := eq_true p145
              replace q145 := eq_true q145
              refine start_ (n := 16) (S := fun w' => w'.cell? (ad144.add (((ji23)).toNat * 2)) = some (.string ((rd_T38 l0 (ji23)).f0)) ∧ w'.cell? ⟨(ad144.add (((ji23)).toNat * 2)).block, (ad144.add (((ji23)).toNat * 2)).off + 1, none⟩ = some (.int .u64 ((rd_T38 l0 (ji23)).f1)) ∧ w'.cell? (ad144.add ((x42_2).toNat * 2)) = some (.string ((rd_T38 l0 x42_2).f0)) ∧ w'.cell? ⟨(ad144.add ((x42_2).toNat * 2)).block, (ad144.add ((x42_2).toNat * 2)).off + 1, none⟩ = some (.int .u64 ((rd_T38 l0 x42_2).f1))) (ds := []) (vb 0 16) (by kernel_rfl) rfl rfl ⟨((HB.out.cell (World.block_lt_of_cell? w _ hw144_0)).trans hw144_0), ((HB.out.cell (World.block_lt_of_cell? w _ hw144_1)).trans hw144_1), ((HB.out.cell (World.block_lt_of_cell? w _ hw145_0)).trans hw145_0), ((HB.out.cell (World.block_lt_of_cell? w _ hw145_1)).trans hw145_1)⟩ (fun hHeld => ?_); refine with_tabW object_Tree.tab15 object_Tree.bits15 (fun HT_ HW_ => ?_)
              generalize wr.drew = w28 at HO_4 HB hx144_0 hx144_1 hx145_0 hx145_1 hHeld ⊢
              refine pure_ (i := 0) (N := some 45) (v := ?_) (a' := ?_) (vb 1 16) rfl rfl (any_of HT_.out (by kernel_rfl)) (fun _ _ _ h => h) (Or.inl ⟨by rfl, ?_⟩) ?_ ?_
              rotate_left
              ·intro w'
               go_simp
               with_reducible rfl
              rotate_left
              ·simp only [Act.put, List.setIfInBounds_toArray, List.set_cons_zero, List.set_cons_succ, i64_w, i32_w]
               rfl
              refine pure_ (i := 1) (N := some 46) (v := ?_) (a' := ?_) (vb 3 16) rfl rfl (any_of HT_.out (by kernel_rfl)) (fun _ _ _ h => h) (Or.inl ⟨by rfl, ?_⟩) ?_ ?_
              rotate_left
              ·intro w'
               go_simp
               with_reducible rfl
              rotate_left
              ·simp only [Act.put, List.setIfInBounds_toArray, List.set_cons_zero, List.set_cons_succ, i64_w, i32_w]
               rfl
              refine pure_ (i := 2) (N := some 47) (v := ?_) (a' := ?_) (vb 7 16) rfl rfl (any_of HT_.out (by kernel_rfl)) (fun _ _ _ h => h) (Or.inl ⟨by rfl, ?_⟩) ?_ ?_
              rotate_left
              ·intro w'
               go_simp
               with_reducible rfl
              rotate_left
              ·simp only [Act.put, List.setIfInBounds_toArray, List.set_cons_zero, List.set_cons_succ, i64_w, i32_w]
               rfl
              refine pure_ (i := 3) (N := some 48) (v := ?_) (a' := ?_) (vb 15 16) rfl rfl (any_of HT_.out (by kernel_rfl)) (fun _ _ _ h => h) (Or.inl ⟨by rfl, ?_⟩) ?_ ?_
              rotate_left
              ·intro w'
               go_simp
               with_reducible rfl
              rotate_left
              ·simp only [Act.put, List.setIfInBounds_toArray, List.set_cons_zero, List.set_cons_succ, i64_w, i32_w]
               rfl
              refine pure_ (i := 4) (N := some 49) (v := ?_) (a' := ?_) (vb 31 16) rfl rfl (any_of HT_.out (by kernel_rfl)) (fun _ _ _ h => h) (Or.inl ⟨by rfl, ?_⟩) ?_ ?_
              rotate_left
              ·intro w'
               go_simp
               with_reducible rfl
              rotate_left
              ·simp only [Act.put, List.setIfInBounds_toArray, List.set_cons_zero, List.set_cons_succ, i64_w, i32_w]
               rfl
              refine pure_ (i := 5) (N := some 50) (v := ?_) (a' := ?_) (vb 63 16) rfl rfl (any_of HT_.out (by kernel_rfl)) (fun _ _ _ h => h) (Or.inl ⟨by rfl, ?_⟩) ?_ ?_
              rotate_left
              ·intro w'
               go_simp
               with_reducible rfl
              rotate_left
              ·simp only [Act.put, List.setIfInBounds_toArray, List.set_cons_zero, List.set_cons_succ, i64_w, i32_w]
               rfl
              refine pure_ (i := 6) (N := some 51) (v := ?_) (a' := ?_) (vb 127 16) rfl rfl (any_of HT_.out (by kernel_rfl)) (fun _ _ _ h => h) (Or.inl ⟨by rfl, ?_⟩) ?_ ?_
              rotate_left
              ·intro w'
               go_simp
               with_reducible rfl
              rotate_left
              ·simp only [Act.put, List.setIfInBounds_toArray, List.set_cons_zero, List.set_cons_succ, i64_w, i32_w]
               rfl
              refine pure_ (i := 7) (N := some 52) (v := ?_) (a' := ?_) (vb 255 16) rfl rfl (any_of HT_.out (by kernel_rfl)) (fun _ _ _ h => h) (Or.inl ⟨by rfl, ?_⟩) ?_ ?_
              rotate_left
              ·intro w'
               go_simp
               with_reducible rfl
              rotate_left
              ·simp only [Act.put, List.setIfInBounds_toArray, List.set_cons_zero, List.set_cons_succ, i64_w, i32_w]
               rfl
              refine pure_ (i := 9) (N := some 54) (v := ?_) (a' := ?_) (vb 767 16) rfl rfl (any_of HT_.out (by kernel_rfl)) (fun _ _ _ h => h) (Or.inl ⟨by rfl, ?_⟩) ?_ ?_
              rotate_left
              ·intro w'
               go_simp
               with_reducible rfl
              rotate_left
              ·simp only [Act.put, List.setIfInBounds_toArray, List.set_cons_zero, List.set_cons_succ, i64_w, i32_w]
               rfl
              refine pure_ (i := 10) (N := some 55) (v := ?_) (a' := ?_) (vb 1791 16) rfl rfl (any_of HT_.out (by kernel_rfl)) (fun _ _ _ h => h) (Or.inl ⟨by rfl, ?_⟩) ?_ ?_
              rotate_left
              ·intro w'
               go_simp
               with_reducible rfl
              rotate_left
              ·simp only [Act.put, List.setIfInBounds_toArray, List.set_cons_zero, List.set_cons_succ, i64_w, i32_w]
               rfl
              refine pure_ (i := 11) (N := some 56) (v := ?_) (a' := ?_) (vb 3839 16) rfl rfl (any_of HT_.out (by kernel_rfl)) (fun _ _ _ h => h) (Or.inl ⟨by rfl, ?_⟩) ?_ ?_
              rotate_left
              ·intro w'
               go_simp
               with_reducible rfl
              rotate_left
              ·simp only [Act.put, List.setIfInBounds_toArray, List.set_cons_zero, List.set_cons_succ, i64_w, i32_w]
               rfl
              refine pure_ (i := 12) (N := some 57) (v := ?_) (a' := ?_) (vb 7935 16) rfl rfl (any_of HT_.out (by kernel_rfl)) (fun _ _ _ h => h) (Or.inl ⟨by rfl, ?_⟩) ?_ ?_
              rotate_left
              ·intro w'
               go_simp
               with_reducible rfl
              rotate_left
              ·simp only [Act.put, List.setIfInBounds_toArray, List.set_cons_zero, List.set_cons_succ, i64_w, i32_w]
               rfl
              refine take_ (i := 8) (N := some 53) (v := ?_) (a' := ?_) (vb 8191 16) rfl rfl (take_ofW HT_.out HW_.out (by kernel_rfl)) (fun _ _ _ h => h) (Or.inl ⟨by rfl, ?_⟩) hHeld ?_ ?_
              rotate_left
              ·rintro w' ⟨s0, s1, s2, s3⟩
               go_simp
               with_reducible rfl
              rotate_left
              ·simp only [Act.put, List.setIfInBounds_toArray, List.set_cons_zero, List.set_cons_succ, i64_w, i32_w]
               rfl
              refine take_ (i := 13) (N := some 58) (v := ?_) (a' := ?_) (vb 16383 16) rfl rfl (take_ofW HT_.out HW_.out (by kernel_rfl)) (fun _ _ _ h => h) (Or.inl ⟨by rfl, ?_⟩) hHeld ?_ ?_
              rotate_left
              ·rintro w' ⟨s0, s1, s2, s3⟩
               go_simp
               with_reducible rfl
              rotate_left
              ·simp only [Act.put, List.setIfInBounds_toArray, List.set_cons_zero, List.set_cons_succ, i64_w, i32_w]
               rfl
              refine pure_ (i := 14) (N := some 59) (v := ?_) (a' := ?_) (vb 32767 16) rfl rfl (any_of HT_.out (by kernel_rfl)) (fun _ _ _ h => h) (Or.inl ⟨by rfl, ?_⟩) ?_ ?_
              rotate_left
              ·intro w'
               go_simp
               with_reducible rfl
              rotate_left
              ·simp only [Act.put, List.setIfInBounds_toArray, List.set_cons_zero, List.set_cons_succ, i64_w, i32_w]
               rfl
              refine pure_ (i := 15) (N := some 60) (v := ?_) (a' := ?_) (vb 65535 16) rfl rfl (any_of HT_.out (by kernel_rfl)) (fun _ _ _ h => h) (Or.inl ⟨by rfl, ?_⟩) ?_ ?_
              rotate_left
              ·intro w'
               go_simp
               with_reducible rfl
              rotate_left
              ·simp only [Act.put, List.setIfInBounds_toArray, List.set_cons_zero, List.set_cons_succ, i64_w, i32_w]
               rfl
              refine done_ (done_of HT_.out (by kernel_rfl)) ?_
              try go_wp2
              go_meet
              case rel => exact ⟨_, (!(Op.bytesLess (((rd_T38 l0 (ji23)).f0).toList) (((rd_T38 l0 x42_2).f0).toList))), (by first | rfl | (simp; done) | (simp only [← hji23] <;> (first | rfl | simp)) | (simp [*]; done)), H', ⟨by have := HK1.out; have := HK2.out; first | omega | exact Nat.le_refl _⟩, ⟨by (with_reducible repeat (first | apply Kd.R_alloc | apply Kd.R_drewN | apply Kd.R_drew)); exact HO_4.out⟩, ⟨by repeat (first | (with_reducible first | exact HB.out | apply below_alloc | apply pw_below_drewN | apply below_drew1) | exact HB.out)⟩⟩
             ·rw [if_neg c27] at H
              exact absurd H (by simp)
            ·rw [if_neg c26] at H
             exact absurd H (by simp)
           ·rw [if_neg c25] at H
            exact absurd H (by simp)
          ·rw [if_neg c24] at H
           exact absurd H (by simp)
         ·rw [if_neg c22] at H
          have c22b0 : decide (0 < x42_2) = false := decide_eq_false c22
          clear c22
          (first | rw [c22b0] | (simp only [i64_w, i32_w]; rw [c22b0]) | skip)
          have H' := Aside0.mk H
          clear H
          try go_wp2
          have n0_ := Aside0.mk (Kd.R_drew HO_4.out)
          have n1_ := Aside0.mk (below_drew1 HB.out)
          clear HO_4
          clear HB
          have HO_4 := n0_
          have HB := n1_
          clear n0_ n1_
          refine start_ (n := 16) (S := fun w' => True) (ds := []) (vb 0 16) (by kernel_rfl) rfl rfl trivial (fun hHeld => ?_); refine with_tabW object_Tree.tab15 object_Tree.bits15 (fun HT_ HW_ => ?_)
          generalize wr.drew = w29 at HO_4 HB hHeld ⊢
          refine pure_ (i := 0) (N := some 45) (v := ?_) (a' := ?_) (vb 1 16) rfl rfl (any_of HT_.out (by kernel_rfl)) (fun _ _ _ h => h) (Or.inl ⟨by rfl, ?_⟩) ?_ ?_
          rotate_left
          ·intro w'
           go_simp
           with_reducible rfl
          rotate_left
          ·simp only [Act.put, List.setIfInBounds_toArray, List.set_cons_zero, List.set_cons_succ, i64_w, i32_w]
           rfl
          refine pure_ (i := 1) (N := some 46) (v := ?_) (a' := ?_) (vb 3 16) rfl rfl (any_of HT_.out (by kernel_rfl)) (fun _ _ _ h => h) (Or.inl ⟨by rfl, ?_⟩) ?_ ?_
          rotate_left
          ·intro w'
           go_simp
           with_reducible rfl
          rotate_left
          ·simp only [Act.put, List.setIfInBounds_toArray, List.set_cons_zero, List.set_cons_succ, i64_w, i32_w]
           rfl
          refine pure_ (i := 2) (N := some 47) (v := ?_) (a' := ?_) (vb 7 16) rfl rfl (any_of HT_.out (by kernel_rfl)) (fun _ _ _ h => h) (Or.inl ⟨by rfl, ?_⟩) ?_ ?_
          rotate_left
          ·intro w'
           go_simp
           with_reducible rfl
          rotate_left
          ·simp only [Act.put, List.setIfInBounds_toArray, List.set_cons_zero, List.set_cons_succ, i64_w, i32_w]
           rfl
          refine pure_ (i := 3) (N := some 48) (v := undef) (a' := ?_) (vb 15 16) rfl rfl (any_of HT_.out (by kernel_rfl)) (fun _ _ _ h => h) (Or.inr ⟨by rfl, rfl⟩) ?_ ?_
          rotate_left
          ·simp only [Act.put, List.setIfInBounds_toArray, List.set_cons_zero, List.set_cons_succ, i64_w, i32_w]
           rfl
          refine pure_ (i := 4) (N := some 49) (v := undef) (a' := ?_) (vb 31 16) rfl rfl (any_of HT_.out (by kernel_rfl)) (fun _ _ _ h => h) (Or.inr ⟨by rfl, rfl⟩) ?_ ?_
          rotate_left
          ·simp only [Act.put, List.setIfInBounds_toArray, List.set_cons_zero, List.set_cons_succ, i64_w, i32_w]
           rfl
          refine pure_ (i := 5) (N := some 50) (v := undef) (a' := ?_) (vb 63 16) rfl rfl (any_of HT_.out (by kernel_rfl)) (fun _ _ _ h => h) (Or.inr ⟨by rfl, rfl⟩) ?_ ?_
          rotate_left
          ·simp only [Act.put, List.setIfInBounds_toArray, List.set_cons_zero, List.set_cons_succ, i64_w, i32_w]
           rfl
          refine pure_ (i := 6) (N := some 51) (v := undef) (a' := ?_) (vb 127 16) rfl rfl (any_of HT_.out (by kernel_rfl)) (fun _ _ _ h => h) (Or.inr ⟨by rfl, rfl⟩) ?_ ?_
          rotate_left
          ·simp only [Act.put, List.setIfInBounds_toArray, List.set_cons_zero, List.set_cons_succ, i64_w, i32_w]
           rfl
          refine pure_ (i := 7) (N := some 52) (v := undef) (a' := ?_) (vb 255 16) rfl rfl (any_of HT_.out (by kernel_rfl)) (fun _ _ _ h => h) (Or.inr ⟨by rfl, rfl⟩) ?_ ?_
          rotate_left
          ·simp only [Act.put, List.setIfInBounds_toArray, List.set_cons_zero, List.set_cons_succ, i64_w, i32_w]
           rfl
          refine pure_ (i := 8) (N := some 53) (v := undef) (a' := ?_) (vb 511 16) rfl rfl (any_of HT_.out (by kernel_rfl)) (fun _ _ _ h => h) (Or.inr ⟨by rfl, rfl⟩) ?_ ?_
          rotate_left
          ·simp only [Act.put, List.setIfInBounds_toArray, List.set_cons_zero, List.set_cons_succ, i64_w, i32_w]
           rfl
          refine pure_ (i := 9) (N := some 54) (v := undef) (a' := ?_) (vb 1023 16) rfl rfl (any_of HT_.out (by kernel_rfl)) (fun _ _ _ h => h) (Or.inr ⟨by rfl, rfl⟩) ?_ ?_
          rotate_left
          ·simp only [Act.put, List.setIfInBounds_toArray, List.set_cons_zero, List.set_cons_succ, i64_w, i32_w]
           rfl
          refine pure_ (i := 10) (N := some 55) (v := undef) (a' := ?_) (vb 2047 16) rfl rfl (any_of HT_.out (by kernel_rfl)) (fun _ _ _ h => h) (Or.inr ⟨by rfl, rfl⟩) ?_ ?_
          rotate_left
          ·simp only [Act.put, List.setIfInBounds_toArray, List.set_cons_zero, List.set_cons_succ, i64_w, i32_w]
           rfl
          refine pure_ (i := 11) (N := some 56) (v := undef) (a' := ?_) (vb 4095 16) rfl rfl (any_of HT_.out (by kernel_rfl)) (fun _ _ _ h => h) (Or.inr ⟨by rfl, rfl⟩) ?_ ?_
          rotate_left
          ·simp only [Act.put, List.setIfInBounds_toArray, List.set_cons_zero, List.set_cons_succ, i64_w, i32_w]
           rfl
          refine pure_ (i := 12) (N := some 57) (v := undef) (a' := ?_) (vb 8191 16) rfl rfl (any_of HT_.out (by kernel_rfl)) (fun _ _ _ h => h) (Or.inr ⟨by rfl, rfl⟩) ?_ ?_
          rotate_left
          ·simp only [Act.put, List.setIfInBounds_toArray, List.set_cons_zero, List.set_cons_succ, i64_w, i32_w]
           rfl
          refine pure_ (i := 13) (N := some 58) (v := undef) (a' := ?_) (vb 16383 16) rfl rfl (any_of HT_.out (by kernel_rfl)) (fun _ _ _ h => h) (Or.inr ⟨by rfl, rfl⟩) ?_ ?_
          rotate_left
          ·simp only [Act.put, List.setIfInBounds_toArray, List.set_cons_zero, List.set_cons_succ, i64_w, i32_w]
           rfl
          refine pure_ (i := 14) (N := some 59) (v := undef) (a' := ?_) (vb 32767 16) rfl rfl (any_of HT_.out (by kernel_rfl)) (fun _ _ _ h => h) (Or.inr ⟨by rfl, rfl⟩) ?_ ?_
          rotate_left
          ·simp only [Act.put, List.setIfInBounds_toArray, List.set_cons_zero, List.set_cons_succ, i64_w, i32_w]
           rfl
          refine pure_ (i := 15) (N := some 60) (v := ?_) (a' := ?_) (vb 65535 16) rfl rfl (any_of HT_.out (by kernel_rfl)) (fun _ _ _ h => h) (Or.inl ⟨by rfl, ?_⟩) ?_ ?_
          rotate_left
          ·intro w'
           go_simp
           with_reducible rfl
          rotate_left
          ·simp only [Act.put, List.setIfInBounds_toArray, List.set_cons_zero, List.set_cons_succ, i64_w, i32_w]
           rfl
          refine done_ (done_of HT_.out (by kernel_rfl)) ?_
          try go_wp2
          go_meet
          case rel => exact ⟨_, (false), (by first | rfl | (simp; done) | (simp [*]; done)), H', ⟨by have := HK1.out; have := HK2.out; first | omega | exact Nat.le_refl _⟩, ⟨by (with_reducible repeat (first | apply Kd.R_alloc | apply Kd.R_drewN | apply Kd.R_drew)); exact HO_4.out⟩, ⟨by repeat (first | (with_reducible first | exact HB.out | apply below_alloc | apply pw_below_drewN | apply below_drew1) | exact HB.out)⟩⟩
        case rest =>
         clear HC21
         try clear p1
         try clear q1
         try clear hx1
         try clear c2
         try clear c2b0
         try clear c2b1
         try clear p2
         try clear c3
         try clear c3b0
         try clear c4
         try clear c4b0
         try clear c5
         try clear c5b0
         try clear p6
         try clear c7
         try clear c7b0
         try clear c7b1
         try clear c8
         try clear c9
         try clear p13
         try clear q13
         try clear hx13
         try clear p14
         try clear q14
         try clear hx14
         try clear c20
         try clear c20b0
         try clear c22
         try clear c22b0
         try clear c24
         try clear c24b0
         try clear c25
         try clear c25b0
         try clear c26
         try clear c26b0
         try clear c27
         try clear c27b0
         try clear hcz12_0
         try clear hcz12_1
         try clear hcz19_0
         try clear hcz19_1
         try clear hfz12_0
         try clear hfz12_1
         try clear hfz19_0
         try clear hfz19_1
         try clear hx132_0
         try clear hx132_1
         try clear hx144_0
         try clear hx144_1
         try clear hx145_0
         try clear hx145_1
         try clear p1
         try clear p13
         try clear p132
         try clear p144
         try clear p145
         try clear p2
         try clear p6
         try clear q1
         try clear q13
         try clear q132
         try clear q144
         try clear q145
         obtain ⟨kq, x60_20, rfl, HA, HJ20, HO_4, HB⟩ := hcut
         cases kq with
         | zero => exact absurd HA.out (by simp [object_Tree.j2])
         | succ kj20 =>
          have H := HA.out
          clear HA
          simp only [object_Tree.j2] at H
          by_cases c30 : x60_20 = true
          ·subst c30
           have H1 : (some (([] : List Int), 12)) = some (r1, r2) := by rw [if_pos rfl] at H; exact H
           clear H
           have H := H1
           clear H1
           simp only [Option.some.injEq, Prod.mk.injEq] at H
           obtain ⟨rfl, rfl⟩ := H
           go_wp2
           go_ret2
           exact ⟨_, by first | rfl | (simp [errW_none, errW_some] <;> rfl) | (simp [*, errW_none, errW_some] <;> rfl), by first | exact Kd.R_nil _ _ _ _ _ | exact Kd.N_nil _ _ _ _ _ | exact Kd.V_nil _ _ _ _ _ | exact Kd.Q_nil _ _ _ _ _ | exact Kd.S_nil _ _ _ _ _, by repeat (first | (with_reducible first | exact HB.out | apply below_alloc | apply pw_below_drewN | apply below_drew1) | exact HB.out)⟩
          ·replace c30 := Bool.eq_false_iff.mpr c30
           subst c30
           have H1 : (if 0 ≤ x42_2 then (if x42_2 < (l0.length : Int) then ((path_Parts.f kj20 ((rd_T38 l0 x42_2).f0)).bind fun t147 => (object_Tree.l2 kj20 l0 x4_1 x42_2 (l0.length : Int) x42_2 t147 (t147.length : Int) 0)) else (none)) else (none)) = some (r1, r2) := by rw [if_neg (show ¬ (false = true) by decide)] at H; exact H
           clear H
           have H := H1
           clear H1
           by_cases c31 : 0 ≤ x42_2
           ·rw [if_pos c31] at H
            have c31b0 : decide (0 ≤ x42_2) = true := decide_eq_true c31
            clear c31
            by_cases c32 : x42_2 < (l0.length : Int)
            ·rw [if_pos c32] at H
             have c32b0 : decide (x42_2 < (l0.length : Int)) = true := decide_eq_true c32
             clear c32
             replace H := Option.bind_eq_some_iff.mp H
             obtain ⟨t147, A330, H⟩ := H
             replace H : (object_Tree.l2 kj20 l0 x4_1 x42_2 (l0.length : Int) x42_2 t147 (t147.length : Int) 0) = some (r1, r2) := H
             have A33 := Aside0.mk A330
             clear A330
             have H' := Aside0.mk H
             clear H
             have p146 : 0 ≤ (x42_2 : Int) := of_decide_eq_true (by first | (with_reducible assumption) | assumption)
             have q146 : x42_2 < (l0.length : Int) := of_decide_eq_true (by first | (with_reducible assumption) | assumption)
             obtain ⟨ad146, e146, hx146_0, hx146_1⟩ := at_T38 HR0.out x42_2 p146 q146
             cases e146
             try replace hx146_0 := (HB.out.cell (World.block_lt_of_cell? w _ hx146_0)).trans hx146_0
             try replace hx146_1 := (HB.out.cell (World.block_lt_of_cell? w _ hx146_1)).trans hx146_1
             replace p146 := eq_true p146
             replace q146 := eq_true q146
             go_wp2_with (first | ((with_reducible refine gate_callee (f := 42) rfl ?_); refine goesL_ (some 66) rfl rfl Try.func42 (by kernel_rfl) rfl #[.string ((rd_T38 l0 x42_2).f0)] rfl (by (try simp only [List.map_toArray, List.map_cons, List.map_nil]); first | done | rfl | (simp only [List.length_drop, List.length_take]; rfl)) ?_; (with_reducible refine (path_Parts.calls kj20 ((rd_T38 l0 x42_2).f0) t147 _ A33.out).mono ?_); rintro e w34 ⟨v148, rfl, ho0, hb⟩; refine ⟨_, rfl, ?_⟩; have n0_ := Aside0.mk (Kd.R_below (by (with_reducible repeat (first | apply Kd.R_alloc | apply Kd.R_drewN | apply Kd.R_drew)); exact HO_4.out) hb); have n1_ := Aside0.mk (Kd.R_lower ho0 (below_size (by repeat (first | (with_reducible first | exact HB.out | apply below_alloc | apply pw_below_drewN | apply below_drew1) | exact HB.out)))); have n2_ := Aside0.mk (below_step (by repeat (first | (with_reducible first | exact HB.out | apply below_alloc | apply pw_below_drewN | apply below_drew1) | exact HB.out)) hb); clear HO_4; clear HB; have HO_4 := n0_; have HO149 := n1_; have HB := n2_; clear n0_ n1_ n2_; (try clear hb); (try clear hb2); (try clear hk); (try clear hi); (try clear ho0); obtain ⟨Ao35, co35, eo35⟩ := Kd.R_slice HO149.out; subst eo35))
             go_loopg [68] kj20 (fun kq v68 w' => ∃ (x68_4 : Int), v68 = .int .i64 x68_4 ∧ Aside0 (object_Tree.l2 kq l0 x4_1 x42_2 (l0.length : Int) x42_2 t147 (t147.length : Int) x68_4 = some (r1, r2)) ∧ Aside0 (kq ≤ kj20) ∧ Aside0 (Kd.R (Kd.int .u8) 5 w' w.heap.size (fun _ => True) u4 x4_1) ∧ Aside0 (Kd.R Kd.string 9 w' w.heap.size (fun _ => True) (.slice Ao35 t147.length co35) t147) ∧ Aside0 (Below w.heap.size w w'))
             case atStart => exact ⟨(0), (by first | rfl | (simp; done) | (simp [*]; done)), H', ⟨Nat.le_refl _⟩, ⟨by (with_reducible repeat (first | apply Kd.R_alloc | apply Kd.R_drewN | apply Kd.R_drew)); exact HO_4.out⟩, ⟨by (with_reducible repeat (first | apply Kd.R_alloc | apply Kd.R_drewN | apply Kd.R_drew)); exact HO149.out⟩, ⟨by repeat (first | (with_reducible first | exact HB.out | apply below_alloc | apply pw_below_drewN | apply below_drew1) | exact HB.out)⟩⟩
             case round =>
              clear H'
              try clear p1
              try clear q1
              try clear hx1
              try clear c2
              try clear c2b0
              try clear c2b1
              try clear p2
              try clear c3
              try clear c3b0
              try clear c4
              try clear c4b0
              try clear c5
              try clear c5b0
              try clear p6
              try clear c7
              try clear c7b0
              try clear c7b1
              try clear c8
              try clear c9
              try clear p13
              try clear q13
              try clear hx13
              try clear p14
              try clear q14
              try clear hx14
              try clear c20
              try clear c20b0
              try clear c22
              try clear c22b0
              try clear c24
              try clear c24b0
              try clear c25
              try clear c25b0
              try clear c26
              try clear c26b0
              try clear c27
              try clear c27b0
              try clear c30
              try clear c31
              try clear c31b0
              try clear c32
              try clear c32b0
              try clear hcz12_0
              try clear hcz12_1
              try clear hcz19_0
              try clear hcz19_1
              try clear hfz12_0
              try clear hfz12_1
              try clear hfz19_0
              try clear hfz19_1
              try clear hx132_0
              try clear hx132_1
              try clear hx144_0
              try clear hx144_1
              try clear hx145_0
              try clear hx145_1
              try clear hx146_0
              try clear hx146_1
              try clear p1
              try clear p13
              try clear p132
              try clear p14
              try clear p144
              try clear p145
              try clear p146
              try clear p2
              try clear p6
              try clear q1
              try clear q13
              try clear q132
              try clear q14
              try clear q144
              try clear q145
              try clear q146
              obtain ⟨x68_4, rfl, HA, HK4, HO_4, HO_66, HB⟩ := hrel
              cases gk with
              | zero => exact absurd HA.out (by simp [object_Tree.l2])
              | succ k4 =>
               have H := HA.out
               clear HA
               simp only [object_Tree.l2] at H
               by_cases c36 : x68_4 < (t147.length : Int)
               ·rw [if_pos c36] at H
                have c36b0 : decide (x68_4 < (t147.length : Int)) = true := decide_eq_true c36
                clear c36
                by_cases c37 : 0 ≤ x68_4
                ·rw [if_pos c37] at H
                 have c37b0 : decide (0 ≤ x68_4) = true := decide_eq_true c37
                 clear c37
                 by_cases c38 : x68_4 < (t147.length : Int)
                 ·rw [if_pos c38] at H
                  have c38b0 : decide (x68_4 < (t147.length : Int)) = true := decide_eq_true c38
                  clear c38
                  by_cases c39 : 0 ≤ x42_2
                  ·rw [if_pos c39] at H
                   have c39b0 : decide (0 ≤ x42_2) = true := decide_eq_true c39
                   clear c39
                   by_cases c40 : x42_2 < (l0.length : Int)
                   ·rw [if_pos c40] at H
                    have c40b0 : decide (x42_2 < (l0.length : Int)) = true := decide_eq_true c40
                    clear c40
                    by_cases c41 : (rdOf ByteArray.empty t147 x68_4).toList = ((rd_T38 l0 x42_2).f0).toList
                    ·rw [if_pos c41] at H
                     have c41b0 : ((rdOf ByteArray.empty t147 x68_4).toList == ((rd_T38 l0 x42_2).f0).toList) = true := beq_iff_eq.mpr c41
                     have c41b1 : ((rdOf ByteArray.empty t147 x68_4).toList != ((rd_T38 l0 x42_2).f0).toList) = false := bne_eq_false_iff_eq.mpr c41
                     clear c41
                     have H' := Aside0.mk H
                     clear H
                     have p150 : 0 ≤ (x68_4 : Int) := of_decide_eq_true (by first | (with_reducible assumption) | assumption)
                     have q150 : x68_4 < (t147.length : Int) := of_decide_eq_true (by first | (with_reducible assumption) | assumption)
                     obtain ⟨ad150, e150, hx150_0⟩ := Kd.at_string (Kd.R_reads' HO_66.out).2.2 x68_4 p150 q150
                     cases e150
                     replace p150 := eq_true p150
                     replace q150 := eq_true q150
                     have p151 : 0 ≤ (x42_2 : Int) := of_decide_eq_true (by first | (with_reducible assumption) | assumption)
                     have q151 : x42_2 < (l0.length : Int) := of_decide_eq_true (by first | (with_reducible assumption) | assumption)
                     obtain ⟨ad151, e151, hx151_0, hx151_1⟩ := at_T38 HR0.out x42_2 p151 q151
                     obtain rfl : ad146 = ad151 := (by injection e151)
                     try replace hx151_0 := (HB.out.cell (World.block_lt_of_cell? w _ hx151_0)).trans hx151_0
                     try replace hx151_1 := (HB.out.cell (World.block_lt_of_cell? w _ hx151_1)).trans hx151_1
                     replace p151 := eq_true p151
                     replace q151 := eq_true q151
                     go_wp2
                     go_roundg k4
                     case measure => have := HK1.out; have := HK2.out; have := HJ20.out; have := HK4.out; omega
                     case rel => exact ⟨(wrap64 (x42_2 + 1)), (by first | rfl | (simp; done) | (simp [*]; done)), H', ⟨by have := HK1.out; have := HK2.out; have := HJ20.out; have := HK4.out; omega⟩, ⟨by (with_reducible repeat (first | apply Kd.R_alloc | apply Kd.R_drewN | apply Kd.R_drew)); exact HO_4.out⟩, ⟨by repeat (first | (with_reducible first | exact HB.out | apply below_alloc | apply pw_below_drewN | apply below_drew1) | exact HB.out)⟩⟩
                    ·rw [if_neg c41] at H
                     have c41b0 : ((rdOf ByteArray.empty t147 x68_4).toList == ((rd_T38 l0 x42_2).f0).toList) = false := beq_eq_false_iff_ne.mpr c41
                     have c41b1 : ((rdOf ByteArray.empty t147 x68_4).toList != ((rd_T38 l0 x42_2).f0).toList) = true := bne_iff_ne.mpr c41
                     have c42b0 := eq_true (of_decide_eq_true (by first | (with_reducible assumption) | assumption) : 0 ≤ x42_2)
                     by_cases c43 : x42_2 ≤ (l0.length : Int)
                     ·rw [if_pos c43] at H
                      have c43b0 := eq_true c43
                      have c43b1 : decide (x42_2 ≤ (l0.length : Int)) = true := decide_eq_true c43
                      clear c43
                      obtain ⟨y152, hy152⟩ : ∃ y_ : List (S38), y_ = (l0.take (x42_2 : Int).toNat) := ⟨_, rfl⟩
                      replace H : ((api_Entry_string.f y152 (rdOf ByteArray.empty t147 x68_4)).bind fun bt156 => (if bt156.2 = true then (some (([] : List Int), 12)) else (object_Tree.l2 k4 l0 x4_1 x42_2 (l0.length : Int) x42_2 t147 (t147.length : Int) (wrap64 (x68_4 + 1))))) = some (r1, r2) := by first | (rw [hy152]; with_reducible exact H) | (have H2_ := (Option.bind_some _ _).symm.trans H; rw [hy152]; with_reducible exact H2_) | (have H2_ := (Option.bind_some _ _).symm.trans H; with_reducible exact H2_) | with_reducible exact H | (rw [hy152]; exact H) | exact H
                      have Ny152 := Aside0.mk hy152
                      clear hy152
                      replace H := Option.bind_eq_some_iff.mp H
                      obtain ⟨⟨t156, t157⟩, A440, H⟩ := H
                      replace H : (if t157 = true then (some (([] : List Int), 12)) else (object_Tree.l2 k4 l0 x4_1 x42_2 (l0.length : Int) x42_2 t147 (t147.length : Int) (wrap64 (x68_4 + 1)))) = some (r1, r2) := H
                      have A44 := Aside0.mk A440
                      clear A440
                      by_cases c45 : t157 = true
                      ·subst c45
                       have H1 : (some (([] : List Int), 12)) = some (r1, r2) := by rw [if_pos rfl] at H; exact H
                       clear H
                       have H := H1
                       clear H1
                       simp only [Option.some.injEq, Prod.mk.injEq] at H
                       obtain ⟨rfl, rfl⟩ := H
                       have p150 : 0 ≤ (x68_4 : Int) := of_decide_eq_true (by first | (with_reducible assumption) | assumption)
                       have q150 : x68_4 < (t147.length : Int) := of_decide_eq_true (by first | (with_reducible assumption) | assumption)
                       obtain ⟨ad150, e150, hx150_0⟩ := Kd.at_string (Kd.R_reads' HO_66.out).2.2 x68_4 p150 q150
                       cases e150
                       replace p150 := eq_true p150
                       replace q150 := eq_true q150
                       have p151 : 0 ≤ (x42_2 : Int) := of_decide_eq_true (by first | (with_reducible assumption) | assumption)
                       have q151 : x42_2 < (l0.length : Int) := of_decide_eq_true (by first | (with_reducible assumption) | assumption)
                       obtain ⟨ad151, e151, hx151_0, hx151_1⟩ := at_T38 HR0.out x42_2 p151 q151
                       obtain rfl : ad146 = ad151 := (by injection e151)
                       try replace hx151_0 := (HB.out.cell (World.block_lt_of_cell? w _ hx151_0)).trans hx151_0
                       try replace hx151_1 := (HB.out.cell (World.block_lt_of_cell? w _ hx151_1)).trans hx151_1
                       replace p151 := eq_true p151
                       replace q151 := eq_true q151
                       have q46 : (x42_2 : Int) ≤ ((l0.length : Int) : Int) := of_decide_eq_true (by first | (with_reducible assumption) | assumption)
                       obtain ⟨i046, hi046, _, hsz46, _⟩ := info_parts info38
                       have hroom46 : l0.length ≤ c0 := HC0.out
                       have hC46 : Kd.C k38 _ (some ad146) l0.length l0 := HR0.out
                       have hcut46 := cut_to (P := Try.prog) 22 38 .i64 Try.underlying22 hi046 (some ad146) l0.length c0 x42_2 (of_decide_eq_true (by first | (with_reducible assumption) | assumption)) q46 hroom46
                       have hr46 := Kd.C_take (m := (x42_2 : Int).toNat) hC46 (by omega)
                       have hy46 : y152.length = (x42_2 : Int).toNat := (by rw [Ny152.out, List.length_take]; omega)
                       rw [← Ny152.out] at hr46
                       rw [← hy46] at hcut46
                       have HR155 := Aside0.mk hr46
                       have HC155 := Aside0.mk (show y152.length ≤ c0 from by omega)
                       clear hr46 hC46 hroom46 hi046 hsz46
                       have KY46 := Aside0.mk hy46
                       clear hy46
                       replace q46 := eq_true q46
                       go_wp2_with (first | ((with_reducible refine gate_callee (f := 57) rfl ?_); refine goesL_ (some 84) rfl rfl Try.func57 (by kernel_rfl) rfl #[.slice (some ad146) y152.length c0, .string (rdOf ByteArray.empty t147 x68_4), .func (.func 58) #[] #[]] rfl (by (try simp only [List.map_toArray, List.map_cons, List.map_nil]); first | done | rfl | (simp only [List.length_drop, List.length_take]; rfl)) ?_; (with_reducible refine (api_Entry_string.calls _ _ y152 (rdOf ByteArray.empty t147 x68_4) t156 true _ ?side1 ?side2 A44.out).mono ?_); (case side1 => repeat (first | exact (Kd.C_below HR155.out HB.out) | (with_reducible refine Kd.C_alloc ?_ _) | (with_reducible refine Kd.C_drewN ?_ _) | (with_reducible refine Kd.C_drew ?_))); (case side2 => exact HC155.out); rintro e w47 ⟨rfl, hb⟩; refine ⟨_, rfl, ?_⟩; have n0_ := Aside0.mk (Kd.R_below (by (with_reducible repeat (first | apply Kd.R_alloc | apply Kd.R_drewN | apply Kd.R_drew)); exact HO_4.out) hb); have n1_ := Aside0.mk (Kd.R_below (by (with_reducible repeat (first | apply Kd.R_alloc | apply Kd.R_drewN | apply Kd.R_drew)); exact HO_66.out) hb); have n2_ := Aside0.mk (below_step (by repeat (first | (with_reducible first | exact HB.out | apply below_alloc | apply pw_below_drewN | apply below_drew1) | exact HB.out)) hb); clear HO_4; clear HO_66; clear HB; have HO_4 := n0_; have HO_66 := n1_; have HB := n2_; clear n0_ n1_ n2_; (try clear hb); (try clear hb2); (try clear hk); (try clear hi)))
                       go_ret2
                       exact ⟨_, by first | rfl | (simp [errW_none, errW_some] <;> rfl) | (simp [*, errW_none, errW_some] <;> rfl), by first | exact Kd.R_nil _ _ _ _ _ | exact Kd.N_nil _ _ _ _ _ | exact Kd.V_nil _ _ _ _ _ | exact Kd.Q_nil _ _ _ _ _ | exact Kd.S_nil _ _ _ _ _, by repeat (first | (with_reducible first | exact HB.out | apply below_alloc | apply pw_below_drewN | apply below_drew1) | exact HB.out)⟩
                      ·replace c45 := Bool.eq_false_iff.mpr c45
                       subst c45
                       have H1 : (object_Tree.l2 k4 l0 x4_1 x42_2 (l0.length : Int) x42_2 t147 (t147.length : Int) (wrap64 (x68_4 + 1))) = some (r1, r2) := by rw [if_neg (show ¬ (false = true) by decide)] at H; exact H
                       clear H
                       have H := H1
                       clear H1
                       have H' := Aside0.mk H
                       clear H
                       have p150 : 0 ≤ (x68_4 : Int) := of_decide_eq_true (by first | (with_reducible assumption) | assumption)
                       have q150 : x68_4 < (t147.length : Int) := of_decide_eq_true (by first | (with_reducible assumption) | assumption)
                       obtain ⟨ad150, e150, hx150_0⟩ := Kd.at_string (Kd.R_reads' HO_66.out).2.2 x68_4 p150 q150
                       cases e150
                       replace p150 := eq_true p150
                       replace q150 := eq_true q150
                       have p151 : 0 ≤ (x42_2 : Int) := of_decide_eq_true (by first | (with_reducible assumption) | assumption)
                       have q151 : x42_2 < (l0.length : Int) := of_decide_eq_true (by first | (with_reducible assumption) | assumption)
                       obtain ⟨ad151, e151, hx151_0, hx151_1⟩ := at_T38 HR0.out x42_2 p151 q151
                       obtain rfl : ad146 = ad151 := (by injection e151)
                       try replace hx151_0 := (HB.out.cell (World.block_lt_of_cell? w _ hx151_0)).trans hx151_0
                       try replace hx151_1 := (HB.out.cell (World.block_lt_of_cell? w _ hx151_1)).trans hx151_1
                       replace p151 := eq_true p151
                       replace q151 := eq_true q151
                       have q48 : (x42_2 : Int) ≤ ((l0.length : Int) : Int) := of_decide_eq_true (by first | (with_reducible assumption) | assumption)
                       obtain ⟨i048, hi048, _, hsz48, _⟩ := info_parts info38
                       have hroom48 : l0.length ≤ c0 := HC0.out
                       have hC48 : Kd.C k38 _ (some ad146) l0.length l0 := HR0.out
                       have hcut48 := cut_to (P := Try.prog) 22 38 .i64 Try.underlying22 hi048 (some ad146) l0.length c0 x42_2 (of_decide_eq_true (by first | (with_reducible assumption) | assumption)) q48 hroom48
                       have hr48 := Kd.C_take (m := (x42_2 : Int).toNat) hC48 (by omega)
                       have hy48 : y152.length = (x42_2 : Int).toNat := (by rw [Ny152.out, List.length_take]; omega)
                       rw [← Ny152.out] at hr48
                       rw [← hy48] at hcut48
                       have HR155 := Aside0.mk hr48
                       have HC155 := Aside0.mk (show y152.length ≤ c0 from by omega)
                       clear hr48 hC48 hroom48 hi048 hsz48
                       have KY48 := Aside0.mk hy48
                       clear hy48
                       replace q48 := eq_true q48
                       go_wp2_with (first | ((with_reducible refine gate_callee (f := 57) rfl ?_); refine goesL_ (some 84) rfl rfl Try.func57 (by kernel_rfl) rfl #[.slice (some ad146) y152.length c0, .string (rdOf ByteArray.empty t147 x68_4), .func (.func 58) #[] #[]] rfl (by (try simp only [List.map_toArray, List.map_cons, List.map_nil]); first | done | rfl | (simp only [List.length_drop, List.length_take]; rfl)) ?_; (with_reducible refine (api_Entry_string.calls _ _ y152 (rdOf ByteArray.empty t147 x68_4) t156 false _ ?side1 ?side2 A44.out).mono ?_); (case side1 => repeat (first | exact (Kd.C_below HR155.out HB.out) | (with_reducible refine Kd.C_alloc ?_ _) | (with_reducible refine Kd.C_drewN ?_ _) | (with_reducible refine Kd.C_drew ?_))); (case side2 => exact HC155.out); rintro e w49 ⟨rfl, hb⟩; refine ⟨_, rfl, ?_⟩; have n0_ := Aside0.mk (Kd.R_below (by (with_reducible repeat (first | apply Kd.R_alloc | apply Kd.R_drewN | apply Kd.R_drew)); exact HO_4.out) hb); have n1_ := Aside0.mk (Kd.R_below (by (with_reducible repeat (first | apply Kd.R_alloc | apply Kd.R_drewN | apply Kd.R_drew)); exact HO_66.out) hb); have n2_ := Aside0.mk (below_step (by repeat (first | (with_reducible first | exact HB.out | apply below_alloc | apply pw_below_drewN | apply below_drew1) | exact HB.out)) hb); clear HO_4; clear HO_66; clear HB; have HO_4 := n0_; have HO_66 := n1_; have HB := n2_; clear n0_ n1_ n2_; (try clear hb); (try clear hb2); (try clear hk); (try clear hi)))
                       go_roundg k4
                       case measure => have := HK1.out; have := HK2.out; have := HJ20.out; have := HK4.out; omega
                       case rel => exact ⟨(wrap64 (x68_4 + 1)), (by first | rfl | (simp; done) | (simp [*]; done)), H', ⟨by have := HK1.out; have := HK2.out; have := HJ20.out; have := HK4.out; omega⟩, ⟨by (with_reducible repeat (first | apply Kd.R_alloc | apply Kd.R_drewN | apply Kd.R_drew)); exact HO_4.out⟩, ⟨by (with_reducible repeat (first | apply Kd.R_alloc | apply Kd.R_drewN | apply Kd.R_drew)); exact HO_66.out⟩, ⟨by repeat (first | (with_reducible first | exact HB.out | apply below_alloc | apply pw_below_drewN | apply below_drew1) | exact HB.out)⟩⟩
                     ·rw [if_neg c43] at H
                      exact absurd H (by simp)
                   ·rw [if_neg c40] at H
                    exact absurd H (by simp)
                  ·rw [if_neg c39] at H
                   exact absurd H (by simp)
                 ·rw [if_neg c38] at H
                  exact absurd H (by simp)
                ·rw [if_neg c37] at H
                 exact absurd H (by simp)
               ·rw [if_neg c36] at H
                have c36b0 : decide (x68_4 < (t147.length : Int)) = false := decide_eq_false c36
                clear c36
                have H' := Aside0.mk H
                clear H
                go_wp2
                go_roundg k4
                case measure => have := HK1.out; have := HK2.out; have := HJ20.out; have := HK4.out; omega
                case rel => exact ⟨(wrap64 (x42_2 + 1)), (by first | rfl | (simp; done) | (simp [*]; done)), H', ⟨by have := HK1.out; have := HK2.out; have := HJ20.out; have := HK4.out; omega⟩, ⟨by (with_reducible repeat (first | apply Kd.R_alloc | apply Kd.R_drewN | apply Kd.R_drew)); exact HO_4.out⟩, ⟨by repeat (first | (with_reducible first | exact HB.out | apply below_alloc | apply pw_below_drewN | apply below_drew1) | exact HB.out)⟩⟩
            ·rw [if_neg c32] at H
             exact absurd H (by simp)
           ·rw [if_neg c31] at H
            exact absurd H (by simp)
       ·rw [if_neg c20] at H
        have c20b0 : decide (x42_2 < (l0.length : Int)) = false := decide_eq_false c20
        clear c20
        simp only [Option.some.injEq, Prod.mk.injEq] at H
        obtain ⟨rfl, rfl⟩ := H
        go_wp2
        go_ret2
        exact ⟨_, by first | rfl | (simp [errW_none, errW_some] <;> rfl) | (simp [*, errW_none, errW_some] <;> rfl), by (with_reducible repeat (first | apply Kd.R_alloc | apply Kd.R_drewN | apply Kd.R_drew)); exact HO_4.out, by repeat (first | (with_reducible first | exact HB.out | apply below_alloc | apply pw_below_drewN | apply below_drew1) | exact HB.out)⟩

end Go.Proofs.Ytjnefjggmeieaaa.MT

/- Laid by this claim's own program (myprint) out of the translation: functions that the laws of the group T reach, each as a plain function, with the proof that the Go code comes to it. No condition. -/
import Derived.Test.YtjnefjggmeieaaaMTx0
import Derived.Test.YtjnefjggmeieaaaMTx4
import Derived.Test.YtjnefjggmeieaaaMTx8
import Derived.Test.YtjnefjggmeieaaaMTx9
import Derived.Test.YtjnefjggmeieaaaMTx12
import Derived.Test.YtjnefjggmeieaaaMTx16
import Derived.Test.YtjnefjggmeieaaaMTx20
import Derived.Test.YtjnefjggmeieaaaMTx21
import Derived.Test.YtjnefjggmeieaaaMTx22
namespace Go.Proofs.Ytjnefjggmeieaaa.MT
open Go.Proofs.Ytjnefjggmeieaaa.Opening
open Go.RowKit Go.Proofs.YtjnefjggmeieaaaW.PrintWords Go.Proofs.YtjnefjggmeieaaaW.PrintLast Go.Proofs.YtjnefjggmeieaaaW.PrintMore
attribute [local go_sem] max2_int min2_int max_two min_two max_three min_three max_four min_four   -- for this text's walks alone
set_option linter.unusedVariables false
set_option linter.unusedSimpArgs false

/-! ### forebearlaw10_TreeDiffs: function 6 -/
def forebearlaw10_TreeDiffs.j0 : Nat → List (S38) → List (S38) → Bool → List ByteArray → Option (Bool)
 | 0, _, _, _, _ => none
 | k + 1, x0, x1, x26, x458000 => if x26 = true then (some true) else ((some (([] : List (S38)) : List (S38))).bind fun y459 => (if y459.length + x0.length < 5864062014805 then ((some (y459 ++ x0 : List (S38))).bind fun y462 => ((some (([] : List (S38)) : List (S38))).bind fun y465 => (if y465.length + x1.length < 5864062014805 then ((some (y465 ++ x1 : List (S38))).bind fun y468 => ((forebearlaw08_Entries.f k x0).bind fun t471 => ((forebearlaw08_Entries.f k x1).bind fun t474 => ((path_Set_Paths.f x458000).bind fun t477 => ((forebearref10_Diff.f k t471 t474 t477).bind fun t480 => ((tree_Diff.f k y462 y468 x458000).bind fun t483 => ((forebearlaw10_same.f k t483 t480).bind fun t486 => (if t486 = true then ((tree_Same.f k y462 y468 x458000).bind fun t487 => (if (t487 == ((t480.length : Int) == 0)) = true then ((forebearlaw08_Entries.f k y462).bind fun t488 => ((forebearlaw08_Entries.f k x0).bind fun t491 => ((forebearref08_SameTree.f k t488 t491).bind fun t494 => (if t494 = true then ((forebearlaw08_Entries.f k y468).bind fun t495 => ((forebearlaw08_Entries.f k x1).bind fun t498 => ((forebearref08_SameTree.f k t495 t498).bind fun t501 => (some t501)))) else (some false))))) else (some false))) else (some false))))))))) else (none)))) else (none)))
def forebearlaw10_TreeDiffs.f (k : Nat) (l0 : List (S38)) (l1 : List (S38)) (l2 : List ByteArray) : Option (Bool) := (forebearlaw10_awake.f k).bind fun t452 => (if t452 = true then ((path_Limit.f k l2).bind fun bt453 => (if bt453.2 = 0 then ((forebearlaw10_right.f k l0 l1).bind fun t458 => (forebearlaw10_TreeDiffs.j0 k l0 l1 (!t458) bt453.1)) else (forebearlaw10_TreeDiffs.j0 k l0 l1 true bt453.1))) else (some false))
theorem forebearlaw10_TreeDiffs.mono_l : ∀ k, (∀ y0 y1 y2 y3, LeO (forebearlaw10_TreeDiffs.j0 k y0 y1 y2 y3) (forebearlaw10_TreeDiffs.j0 (k + 1) y0 y1 y2 y3))
 | 0 => fun _ _ _ _ r h => by simp [forebearlaw10_TreeDiffs.j0] at h
 | k + 1 => by
  have ih0 := forebearlaw10_TreeDiffs.mono_l k
  ·intro y0 y1 y2 y3
   unfold forebearlaw10_TreeDiffs.j0
   repeat' first
   | (with_reducible exact ih0 _ _ _ _)
   | (with_reducible exact forebearlaw08_Entries.mono _ _)
   | (with_reducible exact forebearlaw10_awake.mono _)
   | (with_reducible exact forebearlaw10_right.mono _ _ _)
   | (with_reducible exact forebearlaw10_same.mono _ _ _)
   | (with_reducible exact forebearref08_SameTree.mono _ _ _)
   | (with_reducible exact forebearref10_Diff.mono _ _ _ _)
   | (with_reducible exact path_Limit.mono _ _)
   | (with_reducible exact tree_Diff.mono _ _ _ _)
   | (with_reducible exact tree_Same.mono _ _ _ _)
   | (with_reducible exact LeO.refl _)
   | (with_reducible exact LeO.none _)
   | (with_reducible refine LeO.ite ?_ ?_)
   | (with_reducible refine LeO.bind ?_ (fun _ => ?_))
   | exact ih0 _ _ _ _
   | exact forebearlaw08_Entries.mono _ _
   | exact forebearlaw10_awake.mono _
   | exact forebearlaw10_right.mono _ _ _
   | exact forebearlaw10_same.mono _ _ _
   | exact forebearref08_SameTree.mono _ _ _
   | exact forebearref10_Diff.mono _ _ _ _
   | exact path_Limit.mono _ _
   | exact tree_Diff.mono _ _ _ _
   | exact tree_Same.mono _ _ _ _
   | exact LeO.none _
   | refine LeO.ite ?_ ?_
   | refine LeO.bind ?_ (fun _ => ?_)
theorem forebearlaw10_TreeDiffs.mono : ∀ a0 a1 a2 k, LeO (forebearlaw10_TreeDiffs.f k a0 a1 a2) (forebearlaw10_TreeDiffs.f (k + 1) a0 a1 a2) := by
 intro a0 a1 a2 k
 have ih0 := forebearlaw10_TreeDiffs.mono_l k
 unfold forebearlaw10_TreeDiffs.f
 repeat' first
   | (with_reducible exact ih0 _ _ _ _)
   | (with_reducible exact forebearlaw08_Entries.mono _ _)
   | (with_reducible exact forebearlaw10_awake.mono _)
   | (with_reducible exact forebearlaw10_right.mono _ _ _)
   | (with_reducible exact forebearlaw10_same.mono _ _ _)
   | (with_reducible exact forebearref08_SameTree.mono _ _ _)
   | (with_reducible exact forebearref10_Diff.mono _ _ _ _)
   | (with_reducible exact path_Limit.mono _ _)
   | (with_reducible exact tree_Diff.mono _ _ _ _)
   | (with_reducible exact tree_Same.mono _ _ _ _)
   | (with_reducible exact LeO.refl _)
   | (with_reducible exact LeO.none _)
   | (with_reducible refine LeO.ite ?_ ?_)
   | (with_reducible refine LeO.bind ?_ (fun _ => ?_))
   | exact ih0 _ _ _ _
   | exact forebearlaw08_Entries.mono _ _
   | exact forebearlaw10_awake.mono _
   | exact forebearlaw10_right.mono _ _ _
   | exact forebearlaw10_same.mono _ _ _
   | exact forebearref08_SameTree.mono _ _ _
   | exact forebearref10_Diff.mono _ _ _ _
   | exact path_Limit.mono _ _
   | exact tree_Diff.mono _ _ _ _
   | exact tree_Same.mono _ _ _ _
   | exact LeO.none _
   | refine LeO.ite ?_ ?_
   | refine LeO.bind ?_ (fun _ => ?_)
def forebearlaw10_TreeDiffs.T8 : Bool × List (List Nat × List Nat) := (true, [([], []), ([0], [0]), ([], []), ([2, 1], [2]), ([], []), ([4, 3], [4]), ([1, 3, 5, 5], [1, 3, 5]), ([6, 6, 0, 1, 2, 3, 4, 5, 6], [6])])
def forebearlaw10_TreeDiffs.B8 : List Nat := [0, 1, 0, 7, 0, 31, 63, 127]
theorem forebearlaw10_TreeDiffs.tab8 : rtab .any (opsOf Try.f6 8) = forebearlaw10_TreeDiffs.T8 := by kernel_rfl
theorem forebearlaw10_TreeDiffs.bits8 : waitsOk forebearlaw10_TreeDiffs.T8.2 forebearlaw10_TreeDiffs.B8 = true := by kernel_rfl
set_option maxHeartbeats 8000000 in
set_option maxRecDepth 100000 in
theorem forebearlaw10_TreeDiffs.calls (k : Nat) (A0 : Option Addr) (c0 : Nat) (l0 : List (S38)) (A1 : Option Addr) (c1 : Nat) (l1 : List (S38)) (A2 : Option Addr) (c2 : Nat) (l2 : List ByteArray) (r : Bool) (w : World) (hr0 : Kd.C k38 w A0 l0.length l0) (hc0 : l0.length ≤ c0) (hr1 : Kd.C k38 w A1 l1.length l1) (hc1 : l1.length ≤ c1) (hr2 : Kd.C Kd.string w A2 l2.length l2) (hc2 : l2.length ≤ c2) (h : forebearlaw10_TreeDiffs.f k l0 l1 l2 = some r) (hr_ : r = true := by rfl) :
  Calls Try.prog 6 #[.slice A0 l0.length c0, .slice A1 l1.length c1, .slice A2 l2.length c2] w fun e w' => e = .returned (.bool r) ∧ Below w.heap.size w w' := by
 have hu46 := Try.underlying46
 have HR0 := Aside0.mk hr0
 have HC0 := Aside0.mk hc0
 clear hr0 hc0
 have HR1 := Aside0.mk hr1
 have HC1 := Aside0.mk hc1
 clear hr1 hc1
 have HR2 := Aside0.mk hr2
 have HC2 := Aside0.mk hc2
 clear hr2 hc2
 have HB := Aside0.mk (Below.refl w.heap.size w)
 have HR_ := Aside0.mk hr_
 clear hr_
 have H : ((forebearlaw10_awake.f k).bind fun t452 => (if t452 = true then ((path_Limit.f k l2).bind fun bt453 => (if bt453.2 = 0 then ((forebearlaw10_right.f k l0 l1).bind fun t458 => (forebearlaw10_TreeDiffs.j0 k l0 l1 (!t458) bt453.1)) else (forebearlaw10_TreeDiffs.j0 k l0 l1 true bt453.1))) else (some false))) = some r := h
 clear h
 replace H := Option.bind_eq_some_iff.mp H
 obtain ⟨t452, A40, H⟩ := H
 replace H : (if t452 = true then ((path_Limit.f k l2).bind fun bt453 => (if bt453.2 = 0 then ((forebearlaw10_right.f k l0 l1).bind fun t458 => (forebearlaw10_TreeDiffs.j0 k l0 l1 (!t458) bt453.1)) else (forebearlaw10_TreeDiffs.j0 k l0 l1 true bt453.1))) else (some false)) = some r := H
 have A4 := Aside0.mk A40
 clear A40
 by_cases c5 : t452 = true
 ·subst c5
  have H1 : ((path_Limit.f k l2).bind fun bt453 => (if bt453.2 = 0 then ((forebearlaw10_right.f k l0 l1).bind fun t458 => (forebearlaw10_TreeDiffs.j0 k l0 l1 (!t458) bt453.1)) else (forebearlaw10_TreeDiffs.j0 k l0 l1 true bt453.1))) = some r := by rw [if_pos rfl] at H; exact H
  clear H
  have H := H1
  clear H1
  replace H := Option.bind_eq_some_iff.mp H
  obtain ⟨⟨t453, t456⟩, A60, H⟩ := H
  replace H : (if t456 = 0 then ((forebearlaw10_right.f k l0 l1).bind fun t458 => (forebearlaw10_TreeDiffs.j0 k l0 l1 (!t458) t453)) else (forebearlaw10_TreeDiffs.j0 k l0 l1 true t453)) = some r := H
  have A6 := Aside0.mk A60
  clear A60
  have HC7 := Aside0.mk H
  clear H
  go_enter Try.func6, Try.ntmps6
  go_upto_region 4 with (first | ((with_reducible refine gate_callee (f := 8) rfl ?_); refine goesL_ (some 12) rfl rfl Try.func8 (by kernel_rfl) rfl #[] rfl (by (try simp only [List.map_toArray, List.map_cons, List.map_nil]); first | done | rfl | (simp only [List.length_drop, List.length_take]; rfl)) ?_; (with_reducible refine (forebearlaw10_awake.calls k  true _ A4.out).mono ?_); rintro e w8 ⟨rfl, hb⟩; refine ⟨_, rfl, ?_⟩; have n0_ := Aside0.mk (below_step (by repeat (first | (with_reducible first | exact HB.out | apply below_alloc | apply pw_below_drewN | apply below_drew1) | exact HB.out)) hb); clear HB; have HB := n0_; clear n0_; (try clear hb); (try clear hb2); (try clear hk); (try clear hi)) | ((with_reducible refine gate_callee (f := 22) rfl ?_); refine goesL_ (some 16) rfl rfl Try.func22 (by kernel_rfl) rfl #[.slice A2 l2.length c2] rfl (by (try simp only [List.map_toArray, List.map_cons, List.map_nil]); first | done | rfl | (simp only [List.length_drop, List.length_take]; rfl)) ?_; (with_reducible refine (path_Limit.calls k _ _ l2 t453 t456 _ ?side1 ?side2 A6.out).mono ?_); (case side1 => repeat (first | exact (Kd.C_below HR2.out HB.out) | (with_reducible refine Kd.C_alloc ?_ _) | (with_reducible refine Kd.C_drewN ?_ _) | (with_reducible refine Kd.C_drew ?_))); (case side2 => exact HC2.out); rintro e w9 ⟨v454, rfl, ho0, hb⟩; refine ⟨_, rfl, ?_⟩; have n0_ := Aside0.mk (Kd.R_lower ho0 (below_size (by repeat (first | (with_reducible first | exact HB.out | apply below_alloc | apply pw_below_drewN | apply below_drew1) | exact HB.out)))); have n1_ := Aside0.mk (below_step (by repeat (first | (with_reducible first | exact HB.out | apply below_alloc | apply pw_below_drewN | apply below_drew1) | exact HB.out)) hb); clear HB; have HO455 := n0_; have HB := n1_; clear n0_ n1_; (try clear hb); (try clear hb2); (try clear hk); (try clear hi); (try clear ho0)) | ((with_reducible refine gate_dst (N := 7) rfl ?_); (try (refine gate_guard (by rfl) ?_; dsimp only)); refine box_event ?hg (N := 7) ?hd (cs := #[.slice none 0 0]) (t := 46) ?hr ?_; (case hd => rfl); (case hg => rfl); (case hr => first | (go_simp; done) | (go_simp; rfl)); intro gb457 hg w10 hbox hb; have n0_ := Aside0.mk (Kd.R_below (by (with_reducible repeat (first | apply Kd.R_alloc | apply Kd.R_drewN | apply Kd.R_drew)); exact HO455.out) hb); have n1_ := Aside0.mk (below_step (by repeat (first | (with_reducible first | exact HB.out | apply below_alloc | apply pw_below_drewN | apply below_drew1) | exact HB.out)) hb); have n2_ := Aside0.mk (hbox); have n3_ := Aside0.mk ((by rw [hg]; exact (below_size (by repeat (first | (with_reducible first | exact HB.out | apply below_alloc | apply pw_below_drewN | apply below_drew1) | exact HB.out))) : w.heap.size ≤ gb457)); have n4_ := Aside0.mk ((by rw [hg]; exact (below_size (by repeat (first | (with_reducible first | exact HB.out | apply below_alloc | apply pw_below_drewN | apply below_drew1) | exact HB.out))) : w.heap.size ≤ gb457)); clear HO455; clear HB; have HO455 := n0_; have HB := n1_; have BK457 := n2_; have GW457 := n3_; have GE457 := n4_; clear n0_ n1_ n2_ n3_ n4_; clear hb hbox hg; obtain ⟨Ao11, co11, eo11⟩ := Kd.R_slice HO455.out; subst eo11; have hcz12_0 : w10.cell? ⟨gb457, 0, none⟩ = some (.slice none 0 0) := (blk_cell BK457.out 0).trans rfl; have hfz12_0 := blk_frozen BK457.out 0))
  (try simp only [Act.put, List.setIfInBounds_toArray, List.set_cons_zero, List.set_cons_succ])
  go_cut [26] (fun v26 wc => ∃ (kq : Nat) (x26_6 : Bool), v26 = .bool x26_6 ∧ Aside0 (forebearlaw10_TreeDiffs.j0 kq l0 l1 x26_6 t453 = some r) ∧ Aside0 (kq ≤ k) ∧ Aside0 (Kd.R Kd.string 9 wc w.heap.size (fun _ => True) (.slice Ao11 t453.length co11) t453) ∧ Aside0 (wc.heap[gb457]? = some (.cells #[(.slice Ao11 t453.length co11)] 46 (0, 0))) ∧ Aside0 (Below w.heap.size w wc))
  case first =>
   have H := HC7.out
   clear HC7
   by_cases c13 : t456 = 0
   ·rw [if_pos c13] at H
    have c13b0 : (t456 == 0) = true := beq_iff_eq.mpr c13
    have c13b1 : (t456 != 0) = false := bne_eq_false_iff_eq.mpr c13
    clear c13
    (first | rw [c13b0] | (simp only [i64_w, i32_w]; rw [c13b0]) | skip)
    replace H := Option.bind_eq_some_iff.mp H
    obtain ⟨t458, A140, H⟩ := H
    replace H : (forebearlaw10_TreeDiffs.j0 k l0 l1 (!t458) t453) = some r := H
    have A14 := Aside0.mk A140
    clear A140
    have H' := Aside0.mk H
    clear H
    go_wp2_with (first | (go_at_call 9; (with_reducible refine (forebearlaw10_right.calls k _ _ l0 _ _ l1 t458 _ ?side1 ?side2 ?side3 ?side4 A14.out).mono ?_); (case side1 => exact Kd.C_below HR0.out (by repeat (first | (with_reducible first | exact HB.out | apply below_alloc | apply pw_below_drewN | apply below_drew1 | refine below_set ?_ GE457.out) | exact HB.out))); (case side2 => exact HC0.out); (case side3 => exact Kd.C_below HR1.out (by repeat (first | (with_reducible first | exact HB.out | apply below_alloc | apply pw_below_drewN | apply below_drew1 | refine below_set ?_ GE457.out) | exact HB.out))); (case side4 => exact HC1.out); rintro e w15 ⟨rfl, hb⟩; have n0_ := Aside0.mk (Kd.R_below (by (with_reducible repeat (first | apply Kd.R_alloc | apply Kd.R_drewN | apply Kd.R_drew)); exact (Kd.R_mono (Kd.R_far (p := ⟨gb457, 0, none⟩) (Kd.R_types HO455.out BK457.out (by decide)) (fun _ hk => hk.2) (.slice Ao11 t453.length co11)) (fun _ h_ => h_.1))) hb); have n1_ := Aside0.mk (blk_below (g := gb457) (o := .cells #[.slice Ao11 t453.length co11] 46 (0, 0)) (by (with_reducible repeat (first | refine blk_drewN ?_ _ | refine blk_drew ?_ | refine blk_alloc ?_ _)); refine blk_put (cs := #[.slice none 0 0]) ?_ 0 _ rfl; (with_reducible repeat (first | refine blk_drewN ?_ _ | refine blk_drew ?_ | refine blk_alloc ?_ _)); exact BK457.out) hb); have n2_ := Aside0.mk (below_step (by repeat (first | (with_reducible first | exact HB.out | apply below_alloc | apply pw_below_drewN | apply below_drew1 | refine below_set ?_ GE457.out) | exact HB.out)) hb); clear HO455; clear BK457; clear HB; have HO455 := n0_; have BK457 := n1_; have HB := n2_; clear n0_ n1_ n2_; (try clear hb); (try clear hb2); (try clear hk); (try clear hi)))
    go_meet
    case rel => exact ⟨_, (!t458), (by first | rfl | (simp; done) | (simp [*]; done)), H', ⟨by first | omega | exact Nat.le_refl _⟩, ⟨by (with_reducible repeat (first | apply Kd.R_alloc | apply Kd.R_drewN | apply Kd.R_drew)); exact HO455.out⟩, ⟨by (with_reducible repeat (first | refine blk_drewN ?_ _ | refine blk_drew ?_ | refine blk_alloc ?_ _)); exact BK457.out⟩, ⟨by repeat (first | (with_reducible first | exact HB.out | apply below_alloc | apply pw_below_drewN | apply below_drew1 | refine below_set ?_ GE457.out) | exact HB.out)⟩⟩
   ·rw [if_neg c13] at H
    have c13b0 : (t456 == 0) = false := beq_eq_false_iff_ne.mpr c13
    have c13b1 : (t456 != 0) = true := bne_iff_ne.mpr c13
    (first | rw [c13b0] | (simp only [i64_w, i32_w]; rw [c13b0]) | skip)
    have H' := Aside0.mk H
    clear H
    go_wp2
    go_meet
    case rel => exact ⟨_, (true), (by first | rfl | (simp; done) | (simp [*]; done)), H', ⟨by first | omega | exact Nat.le_refl _⟩, ⟨by (with_reducible repeat (first | apply Kd.R_alloc | apply Kd.R_drewN | apply Kd.R_drew)); exact Kd.R_mono (Kd.R_far (p := ⟨gb457, 0, none⟩) (Kd.R_types HO455.out BK457.out (by decide)) (fun _ hk => hk.2) (.slice Ao11 t453.length co11)) (fun _ hk => trivial)⟩, ⟨by (with_reducible repeat (first | refine blk_drewN ?_ _ | refine blk_drew ?_ | refine blk_alloc ?_ _)); refine blk_put (cs := #[.slice none 0 0]) ?_ 0 _ rfl; (with_reducible repeat (first | refine blk_drewN ?_ _ | refine blk_drew ?_ | refine blk_alloc ?_ _)); exact BK457.out⟩, ⟨by repeat (first | (with_reducible first | exact HB.out | apply below_alloc | apply pw_below_drewN | apply below_drew1 | refine below_set ?_ GE457.out) | exact HB.out)⟩⟩
  case rest =>
   clear HC7
   try clear c1
   try clear c2
   try clear p2
   try clear c5
   try clear c6
   try clear c8
   try clear c13
   try clear c13b0
   try clear c13b1
   try clear hcz12_0
   try clear hfz12_0
   obtain ⟨kq, x26_6, rfl, HA, HJ6, HO_458000, BK457, HB⟩ := hcut
   cases kq with
   | zero => exact absurd HA.out (by simp [forebearlaw10_TreeDiffs.j0])
   | succ kj6 =>
    have H := HA.out
    clear HA
    simp only [forebearlaw10_TreeDiffs.j0] at H
    by_cases c16 : x26_6 = true
    ·subst c16
     have H1 : (some true) = some r := by rw [if_pos rfl] at H; exact H
     clear H
     have H := H1
     clear H1
     obtain rfl := Option.some.inj H
     go_wp2
     go_ret
     exact ⟨by first | rfl | (simp [errW_none, errW_some] <;> rfl) | (simp [*, errW_none, errW_some] <;> rfl), by repeat (first | (with_reducible first | exact HB.out | apply below_alloc | apply pw_below_drewN | apply below_drew1 | refine below_set ?_ GE457.out) | exact HB.out)⟩
    ·replace c16 := Bool.eq_false_iff.mpr c16
     subst c16
     have H1 : ((some (([] : List (S38)) : List (S38))).bind fun y459 => (if y459.length + l0.length < 5864062014805 then ((some (y459 ++ l0 : List (S38))).bind fun y462 => ((some (([] : List (S38)) : List (S38))).bind fun y465 => (if y465.length + l1.length < 5864062014805 then ((some (y465 ++ l1 : List (S38))).bind fun y468 => ((forebearlaw08_Entries.f kj6 l0).bind fun t471 => ((forebearlaw08_Entries.f kj6 l1).bind fun t474 => ((path_Set_Paths.f t453).bind fun t477 => ((forebearref10_Diff.f kj6 t471 t474 t477).bind fun t480 => ((tree_Diff.f kj6 y462 y468 t453).bind fun t483 => ((forebearlaw10_same.f kj6 t483 t480).bind fun t486 => (if t486 = true then ((tree_Same.f kj6 y462 y468 t453).bind fun t487 => (if (t487 == ((t480.length : Int) == 0)) = true then ((forebearlaw08_Entries.f kj6 y462).bind fun t488 => ((forebearlaw08_Entries.f kj6 l0).bind fun t491 => ((forebearref08_SameTree.f kj6 t488 t491).bind fun t494 => (if t494 = true then ((forebearlaw08_Entries.f kj6 y468).bind fun t495 => ((forebearlaw08_Entries.f kj6 l1).bind fun t498 => ((forebearref08_SameTree.f kj6 t495 t498).bind fun t501 => (some t501)))) else (some false))))) else (some false))) else (some false))))))))) else (none)))) else (none))) = some r := by rw [if_neg (show ¬ (false = true) by decide)] at H; exact H
     clear H
     have H := H1
     clear H1
     obtain ⟨y459, hy459⟩ : ∃ y_ : List (S38), y_ = (([] : List (S38))) := ⟨_, rfl⟩
     replace H : (if y459.length + l0.length < 5864062014805 then ((some (y459 ++ l0 : List (S38))).bind fun y462 => ((some (([] : List (S38)) : List (S38))).bind fun y465 => (if y465.length + l1.length < 5864062014805 then ((some (y465 ++ l1 : List (S38))).bind fun y468 => ((forebearlaw08_Entries.f kj6 l0).bind fun t471 => ((forebearlaw08_Entries.f kj6 l1).bind fun t474 => ((path_Set_Paths.f t453).bind fun t477 => ((forebearref10_Diff.f kj6 t471 t474 t477).bind fun t480 => ((tree_Diff.f kj6 y462 y468 t453).bind fun t483 => ((forebearlaw10_same.f kj6 t483 t480).bind fun t486 => (if t486 = true then ((tree_Same.f kj6 y462 y468 t453).bind fun t487 => (if (t487 == ((t480.length : Int) == 0)) = true then ((forebearlaw08_Entries.f kj6 y462).bind fun t488 => ((forebearlaw08_Entries.f kj6 l0).bind fun t491 => ((forebearref08_SameTree.f kj6 t488 t491).bind fun t494 => (if t494 = true then ((forebearlaw08_Entries.f kj6 y468).bind fun t495 => ((forebearlaw08_Entries.f kj6 l1).bind fun t498 => ((forebearref08_SameTree.f kj6 t495 t498).bind fun t501 => (some t501)))) else (some false))))) else (some false))) else (some false))))))))) else (none)))) else (none)) = some r := by first | (rw [hy459]; with_reducible exact H) | (have H2_ := (Option.bind_some _ _).symm.trans H; rw [hy459]; with_reducible exact H2_) | (have H2_ := (Option.bind_some _ _).symm.trans H; with_reducible exact H2_) | with_reducible exact H | (rw [hy459]; exact H) | exact H
     have Ny459 := Aside0.mk hy459
     clear hy459
     by_cases c17 : y459.length + l0.length < 5864062014805
     ·rw [if_pos c17] at H
      have LMc17 := Aside0.mk c17
      clear c17
      obtain ⟨y462, hy462⟩ : ∃ y_ : List (S38), y_ = (y459 ++ l0) := ⟨_, rfl⟩
      replace H : ((some (([] : List (S38)) : List (S38))).bind fun y465 => (if y465.length + l1.length < 5864062014805 then ((some (y465 ++ l1 : List (S38))).bind fun y468 => ((forebearlaw08_Entries.f kj6 l0).bind fun t471 => ((forebearlaw08_Entries.f kj6 l1).bind fun t474 => ((path_Set_Paths.f t453).bind fun t477 => ((forebearref10_Diff.f kj6 t471 t474 t477).bind fun t480 => ((tree_Diff.f kj6 y462 y468 t453).bind fun t483 => ((forebearlaw10_same.f kj6 t483 t480).bind fun t486 => (if t486 = true then ((tree_Same.f kj6 y462 y468 t453).bind fun t487 => (if (t487 == ((t480.length : Int) == 0)) = true then ((forebearlaw08_Entries.f kj6 y462).bind fun t488 => ((forebearlaw08_Entries.f kj6 l0).bind fun t491 => ((forebearref08_SameTree.f kj6 t488 t491).bind fun t494 => (if t494 = true then ((forebearlaw08_Entries.f kj6 y468).bind fun t495 => ((forebearlaw08_Entries.f kj6 l1).bind fun t498 => ((forebearref08_SameTree.f kj6 t495 t498).bind fun t501 => (some t501)))) else (some false))))) else (some false))) else (some false))))))))) else (none))) = some r := by first | (rw [hy462]; with_reducible exact H) | (have H2_ := (Option.bind_some _ _).symm.trans H; rw [hy462]; with_reducible exact H2_) | (have H2_ := (Option.bind_some _ _).symm.trans H; with_reducible exact H2_) | with_reducible exact H | (rw [hy462]; exact H) | exact H
      have Ny462 := Aside0.mk hy462
      clear hy462
      obtain ⟨y465, hy465⟩ : ∃ y_ : List (S38), y_ = (([] : List (S38))) := ⟨_, rfl⟩
      replace H : (if y465.length + l1.length < 5864062014805 then ((some (y465 ++ l1 : List (S38))).bind fun y468 => ((forebearlaw08_Entries.f kj6 l0).bind fun t471 => ((forebearlaw08_Entries.f kj6 l1).bind fun t474 => ((path_Set_Paths.f t453).bind fun t477 => ((forebearref10_Diff.f kj6 t471 t474 t477).bind fun t480 => ((tree_Diff.f kj6 y462 y468 t453).bind fun t483 => ((forebearlaw10_same.f kj6 t483 t480).bind fun t486 => (if t486 = true then ((tree_Same.f kj6 y462 y468 t453).bind fun t487 => (if (t487 == ((t480.length : Int) == 0)) = true then ((forebearlaw08_Entries.f kj6 y462).bind fun t488 => ((forebearlaw08_Entries.f kj6 l0).bind fun t491 => ((forebearref08_SameTree.f kj6 t488 t491).bind fun t494 => (if t494 = true then ((forebearlaw08_Entries.f kj6 y468).bind fun t495 => ((forebearlaw08_Entries.f kj6 l1).bind fun t498 => ((forebearref08_SameTree.f kj6 t495 t498).bind fun t501 => (some t501)))) else (some false))))) else (some false))) else (some false))))))))) else (none)) = some r := by first | (rw [hy465]; with_reducible exact H) | (have H2_ := (Option.bind_some _ _).symm.trans H; rw [hy465]; with_reducible exact H2_) | (have H2_ := (Option.bind_some _ _).symm.trans H; with_reducible exact H2_) | with_reducible exact H | (rw [hy465]; exact H) | exact H
      have Ny465 := Aside0.mk hy465
      clear hy465
      by_cases c18 : y465.length + l1.length < 5864062014805
      ·rw [if_pos c18] at H
       have LMc18 := Aside0.mk c18
       clear c18
       obtain ⟨y468, hy468⟩ : ∃ y_ : List (S38), y_ = (y465 ++ l1) := ⟨_, rfl⟩
       replace H : ((forebearlaw08_Entries.f kj6 l0).bind fun t471 => ((forebearlaw08_Entries.f kj6 l1).bind fun t474 => ((path_Set_Paths.f t453).bind fun t477 => ((forebearref10_Diff.f kj6 t471 t474 t477).bind fun t480 => ((tree_Diff.f kj6 y462 y468 t453).bind fun t483 => ((forebearlaw10_same.f kj6 t483 t480).bind fun t486 => (if t486 = true then ((tree_Same.f kj6 y462 y468 t453).bind fun t487 => (if (t487 == ((t480.length : Int) == 0)) = true then ((forebearlaw08_Entries.f kj6 y462).bind fun t488 => ((forebearlaw08_Entries.f kj6 l0).bind fun t491 => ((forebearref08_SameTree.f kj6 t488 t491).bind fun t494 => (if t494 = true then ((forebearlaw08_Entries.f kj6 y468).bind fun t495 => ((forebearlaw08_Entries.f kj6 l1).bind fun t498 => ((forebearref08_SameTree.f kj6 t495 t498).bind fun t501 => (some t501)))) else (some false))))) else (some false))) else (some false)))))))) = some r := by first | (rw [hy468]; with_reducible exact H) | (have H2_ := (Option.bind_some _ _).symm.trans H; rw [hy468]; with_reducible exact H2_) | (have H2_ := (Option.bind_some _ _).symm.trans H; with_reducible exact H2_) | with_reducible exact H | (rw [hy468]; exact H) | exact H
       have Ny468 := Aside0.mk hy468
       clear hy468
       replace H := Option.bind_eq_some_iff.mp H
       obtain ⟨t471, A190, H⟩ := H
       replace H : ((forebearlaw08_Entries.f kj6 l1).bind fun t474 => ((path_Set_Paths.f t453).bind fun t477 => ((forebearref10_Diff.f kj6 t471 t474 t477).bind fun t480 => ((tree_Diff.f kj6 y462 y468 t453).bind fun t483 => ((forebearlaw10_same.f kj6 t483 t480).bind fun t486 => (if t486 = true then ((tree_Same.f kj6 y462 y468 t453).bind fun t487 => (if (t487 == ((t480.length : Int) == 0)) = true then ((forebearlaw08_Entries.f kj6 y462).bind fun t488 => ((forebearlaw08_Entries.f kj6 l0).bind fun t491 => ((forebearref08_SameTree.f kj6 t488 t491).bind fun t494 => (if t494 = true then ((forebearlaw08_Entries.f kj6 y468).bind fun t495 => ((forebearlaw08_Entries.f kj6 l1).bind fun t498 => ((forebearref08_SameTree.f kj6 t495 t498).bind fun t501 => (some t501)))) else (some false))))) else (some false))) else (some false))))))) = some r := H
       have A19 := Aside0.mk A190
       clear A190
       replace H := Option.bind_eq_some_iff.mp H
       obtain ⟨t474, A200, H⟩ := H
       replace H : ((path_Set_Paths.f t453).bind fun t477 => ((forebearref10_Diff.f kj6 t471 t474 t477).bind fun t480 => ((tree_Diff.f kj6 y462 y468 t453).bind fun t483 => ((forebearlaw10_same.f kj6 t483 t480).bind fun t486 => (if t486 = true then ((tree_Same.f kj6 y462 y468 t453).bind fun t487 => (if (t487 == ((t480.length : Int) == 0)) = true then ((forebearlaw08_Entries.f kj6 y462).bind fun t488 => ((forebearlaw08_Entries.f kj6 l0).bind fun t491 => ((forebearref08_SameTree.f kj6 t488 t491).bind fun t494 => (if t494 = true then ((forebearlaw08_Entries.f kj6 y468).bind fun t495 => ((forebearlaw08_Entries.f kj6 l1).bind fun t498 => ((forebearref08_SameTree.f kj6 t495 t498).bind fun t501 => (some t501)))) else (some false))))) else (some false))) else (some false)))))) = some r := H
       have A20 := Aside0.mk A200
       clear A200
       replace H := Option.bind_eq_some_iff.mp H
       obtain ⟨t477, A210, H⟩ := H
       replace H : ((forebearref10_Diff.f kj6 t471 t474 t477).bind fun t480 => ((tree_Diff.f kj6 y462 y468 t453).bind fun t483 => ((forebearlaw10_same.f kj6 t483 t480).bind fun t486 => (if t486 = true then ((tree_Same.f kj6 y462 y468 t453).bind fun t487 => (if (t487 == ((t480.length : Int) == 0)) = true then ((forebearlaw08_Entries.f kj6 y462).bind fun t488 => ((forebearlaw08_Entries.f kj6 l0).bind fun t491 => ((forebearref08_SameTree.f kj6 t488 t491).bind fun t494 => (if t494 = true then ((forebearlaw08_Entries.f kj6 y468).bind fun t495 => ((forebearlaw08_Entries.f kj6 l1).bind fun t498 => ((forebearref08_SameTree.f kj6 t495 t498).bind fun t501 => (some t501)))) else (some false))))) else (some false))) else (some false))))) = some r := H
       have A21 := Aside0.mk A210
       clear A210
       replace H := Option.bind_eq_some_iff.mp H
       obtain ⟨t480, A220, H⟩ := H
       replace H : ((tree_Diff.f kj6 y462 y468 t453).bind fun t483 => ((forebearlaw10_same.f kj6 t483 t480).bind fun t486 => (if t486 = true then ((tree_Same.f kj6 y462 y468 t453).bind fun t487 => (if (t487 == ((t480.length : Int) == 0)) = true then ((forebearlaw08_Entries.f kj6 y462).bind fun t488 => ((forebearlaw08_Entries.f kj6 l0).bind fun t491 => ((forebearref08_SameTree.f kj6 t488 t491).bind fun t494 => (if t494 = true then ((forebearlaw08_Entries.f kj6 y468).bind fun t495 => ((forebearlaw08_Entries.f kj6 l1).bind fun t498 => ((forebearref08_SameTree.f kj6 t495 t498).bind fun t501 => (some t501)))) else (some false))))) else (some false))) else (some false)))) = some r := H
       have A22 := Aside0.mk A220
       clear A220
       replace H := Option.bind_eq_some_iff.mp H
       obtain ⟨t483, A230, H⟩ := H
       replace H : ((forebearlaw10_same.f kj6 t483 t480).bind fun t486 => (if t486 = true then ((tree_Same.f kj6 y462 y468 t453).bind fun t487 => (if (t487 == ((t480.length : Int) == 0)) = true then ((forebearlaw08_Entries.f kj6 y462).bind fun t488 => ((forebearlaw08_Entries.f kj6 l0).bind fun t491 => ((forebearref08_SameTree.f kj6 t488 t491).bind fun t494 => (if t494 = true then ((forebearlaw08_Entries.f kj6 y468).bind fun t495 => ((forebearlaw08_Entries.f kj6 l1).bind fun t498 => ((forebearref08_SameTree.f kj6 t495 t498).bind fun t501 => (some t501)))) else (some false))))) else (some false))) else (some false))) = some r := H
       have A23 := Aside0.mk A230
       clear A230
       replace H := Option.bind_eq_some_iff.mp H
       obtain ⟨t486, A240, H⟩ := H
       replace H : (if t486 = true then ((tree_Same.f kj6 y462 y468 t453).bind fun t487 => (if (t487 == ((t480.length : Int) == 0)) = true then ((forebearlaw08_Entries.f kj6 y462).bind fun t488 => ((forebearlaw08_Entries.f kj6 l0).bind fun t491 => ((forebearref08_SameTree.f kj6 t488 t491).bind fun t494 => (if t494 = true then ((forebearlaw08_Entries.f kj6 y468).bind fun t495 => ((forebearlaw08_Entries.f kj6 l1).bind fun t498 => ((forebearref08_SameTree.f kj6 t495 t498).bind fun t501 => (some t501)))) else (some false))))) else (some false))) else (some false)) = some r := H
       have A24 := Aside0.mk A240
       clear A240
       by_cases c25 : t486 = true
       ·subst c25
        have H1 : ((tree_Same.f kj6 y462 y468 t453).bind fun t487 => (if (t487 == ((t480.length : Int) == 0)) = true then ((forebearlaw08_Entries.f kj6 y462).bind fun t488 => ((forebearlaw08_Entries.f kj6 l0).bind fun t491 => ((forebearref08_SameTree.f kj6 t488 t491).bind fun t494 => (if t494 = true then ((forebearlaw08_Entries.f kj6 y468).bind fun t495 => ((forebearlaw08_Entries.f kj6 l1).bind fun t498 => ((forebearref08_SameTree.f kj6 t495 t498).bind fun t501 => (some t501)))) else (some false))))) else (some false))) = some r := by rw [if_pos rfl] at H; exact H
        clear H
        have H := H1
        clear H1
        replace H := Option.bind_eq_some_iff.mp H
        obtain ⟨t487, A260, H⟩ := H
        replace H : (if (t487 == ((t480.length : Int) == 0)) = true then ((forebearlaw08_Entries.f kj6 y462).bind fun t488 => ((forebearlaw08_Entries.f kj6 l0).bind fun t491 => ((forebearref08_SameTree.f kj6 t488 t491).bind fun t494 => (if t494 = true then ((forebearlaw08_Entries.f kj6 y468).bind fun t495 => ((forebearlaw08_Entries.f kj6 l1).bind fun t498 => ((forebearref08_SameTree.f kj6 t495 t498).bind fun t501 => (some t501)))) else (some false))))) else (some false)) = some r := H
        have A26 := Aside0.mk A260
        clear A260
        by_cases c27 : (t487 == ((t480.length : Int) == 0)) = true
        ·rw [if_pos c27] at H
         have c27b0 : (t487 == ((t480.length : Int) == 0)) = true := c27
         (try (have c27b1 : decide (t487 = ((t480.length : Int) == 0)) = true := by simpa using c27))
         (try (have c27b2 : (t487 == ((t480.length : Int) == 0)) = true := by simpa using c27))
         (try (have c27b3 : ((t480.length : Int) == 0) = t487 := (eq_of_beq (by simpa using c27)).symm))
         clear c27
         replace H := Option.bind_eq_some_iff.mp H
         obtain ⟨t488, A280, H⟩ := H
         replace H : ((forebearlaw08_Entries.f kj6 l0).bind fun t491 => ((forebearref08_SameTree.f kj6 t488 t491).bind fun t494 => (if t494 = true then ((forebearlaw08_Entries.f kj6 y468).bind fun t495 => ((forebearlaw08_Entries.f kj6 l1).bind fun t498 => ((forebearref08_SameTree.f kj6 t495 t498).bind fun t501 => (some t501)))) else (some false)))) = some r := H
         have A28 := Aside0.mk A280
         clear A280
         replace H := Option.bind_eq_some_iff.mp H
         obtain ⟨t491, A290, H⟩ := H
         replace H : ((forebearref08_SameTree.f kj6 t488 t491).bind fun t494 => (if t494 = true then ((forebearlaw08_Entries.f kj6 y468).bind fun t495 => ((forebearlaw08_Entries.f kj6 l1).bind fun t498 => ((forebearref08_SameTree.f kj6 t495 t498).bind fun t501 => (some t501)))) else (some false))) = some r := H
         have A29 := Aside0.mk A290
         clear A290
         replace H := Option.bind_eq_some_iff.mp H
         obtain ⟨t494, A300, H⟩ := H
         replace H : (if t494 = true then ((forebearlaw08_Entries.f kj6 y468).bind fun t495 => ((forebearlaw08_Entries.f kj6 l1).bind fun t498 => ((forebearref08_SameTree.f kj6 t495 t498).bind fun t501 => (some t501)))) else (some false)) = some r := H
         have A30 := Aside0.mk A300
         clear A300
         by_cases c31 : t494 = true
         ·subst c31
          have H1 : ((forebearlaw08_Entries.f kj6 y468).bind fun t495 => ((forebearlaw08_Entries.f kj6 l1).bind fun t498 => ((forebearref08_SameTree.f kj6 t495 t498).bind fun t501 => (some t501)))) = some r := by rw [if_pos rfl] at H; exact H
          clear H
          have H := H1
          clear H1
          replace H := Option.bind_eq_some_iff.mp H
          obtain ⟨t495, A320, H⟩ := H
          replace H : ((forebearlaw08_Entries.f kj6 l1).bind fun t498 => ((forebearref08_SameTree.f kj6 t495 t498).bind fun t501 => (some t501))) = some r := H
          have A32 := Aside0.mk A320
          clear A320
          replace H := Option.bind_eq_some_iff.mp H
          obtain ⟨t498, A330, H⟩ := H
          replace H : ((forebearref08_SameTree.f kj6 t495 t498).bind fun t501 => (some t501)) = some r := H
          have A33 := Aside0.mk A330
          clear A330
          replace H := Option.bind_eq_some_iff.mp H
          obtain ⟨t501, A340, H⟩ := H
          replace H : (some t501) = some r := H
          have A34 := Aside0.mk A340
          clear A340
          obtain rfl := Option.some.inj H
          try go_wp2_with (first | ((with_reducible refine gate_dst (N := 27) rfl ?_); (try (refine gate_guard (by rfl) ?_; dsimp only)); refine Kd.R_lit k38 _ 38 ?hg (N := 27) ?hd (xs := ([] : List (S38))) (inner := []) (ok := fun _ => True) (okp := fun _ => True) ?hr ?hp (fun _ hk => hk) trivial (Below.refl _ _) (Nat.le_refl _) (by simp) ?_; (case hd => rfl); (case hg => rfl); (case hr => first | (go_simp; done) | (go_simp; rfl)); (case hp => exact (Reps.none _ _)); intro v460 w35 ho36 hb hg_ hnew_; clear hg_ hnew_; (first | rw [← Ny459.out] at ho36 | (simp only [Int.reduceToNat] at ho36; rw [← Ny459.out] at ho36)); have n0_ := Aside0.mk (Kd.R_below (by (with_reducible repeat (first | apply Kd.R_alloc | apply Kd.R_drewN | apply Kd.R_drew)); exact HO_458000.out) hb); have n1_ := Aside0.mk (Kd.R_lower ho36 (below_size (by repeat (first | (with_reducible first | exact HB.out | apply below_alloc | apply pw_below_drewN | apply below_drew1 | refine below_set ?_ GE457.out) | exact HB.out)))); have n2_ := Aside0.mk (blk_below (g := gb457) (o := .cells #[.slice Ao11 t453.length co11] 46 (0, 0)) (by (with_reducible repeat (first | refine blk_drewN ?_ _ | refine blk_drew ?_ | refine blk_alloc ?_ _)); exact BK457.out) hb); have n3_ := Aside0.mk (below_step (by repeat (first | (with_reducible first | exact HB.out | apply below_alloc | apply pw_below_drewN | apply below_drew1 | refine below_set ?_ GE457.out) | exact HB.out)) hb); clear HO_458000; clear BK457; clear HB; have HO_458000 := n0_; have HO461 := n1_; have BK457 := n2_; have HB := n3_; clear n0_ n1_ n2_ n3_; clear hb ho36) | ((with_reducible refine gate_builtin (b := .append) (xs := #[.tmp 27, .tmp 28]) rfl ?_); (try (refine gate_guard (by rfl) ?_; dsimp only)); at_builtin; refine Kd.R_append_rows k38 (w0 := w) w.heap.size rfl (.tmp 27) (.tmp 28) 22 38 (.agg #[(.string ⟨#[]⟩), (.int .u64 0)]) 24 rfl Try.underlying22 info38 rfl (by decide) (by omega) v460 y459 l0 _ _ _ (fun _ => True) (fun _ => False) rfl rfl ?aO ?aR (fun _ _ h => h) (fun _ h => h.elim) ?aF ?aB ?aS ?aL ?_; (case aR => repeat (first | exact (Kd.C_below HR0.out HB.out) | (with_reducible refine Kd.C_alloc ?_ _) | (with_reducible refine Kd.C_drewN ?_ _) | (with_reducible refine Kd.C_drew ?_))); (case aB => exact (by repeat (first | (with_reducible first | exact HB.out | apply below_alloc | apply pw_below_drewN | apply below_drew1 | refine below_set ?_ GE457.out) | exact HB.out))); (case aF => exact (fun _ _ => trivial)); (case aO => exact (by (with_reducible repeat (first | apply Kd.R_alloc | apply Kd.R_drewN | apply Kd.R_drew)); exact HO461.out)); (case aS => exact (below_size (by repeat (first | (with_reducible first | exact HB.out | apply below_alloc | apply pw_below_drewN | apply below_drew1 | refine below_set ?_ GE457.out) | exact HB.out)))); (case aL => have := LMc17.out; omega); intro v463 w37 ho hb hg hat; rw [← Ny462.out] at ho; have n0_ := Aside0.mk (Kd.R_over' (by (with_reducible repeat (first | apply Kd.R_alloc | apply Kd.R_drewN | apply Kd.R_drew)); exact HO_458000.out) (Kd.R_typed (by (with_reducible repeat (first | apply Kd.R_alloc | apply Kd.R_drewN | apply Kd.R_drew)); exact HO461.out)) (by decide) hg); have n1_ := Aside0.mk (blk_grown (g := gb457) (o := .cells #[.slice Ao11 t453.length co11] 46 (0, 0)) (by (with_reducible repeat (first | refine blk_drewN ?_ _ | refine blk_drew ?_ | refine blk_alloc ?_ _)); exact BK457.out) hg (Kd.R_ne HO461.out BK457.out (by decide))); have n2_ := Aside0.mk (hb); have n3_ := Aside0.mk (ho); clear HO_458000; clear BK457; clear HB; clear HO461; have HO_458000 := n0_; have BK457 := n1_; have HB := n2_; have HO464 := n3_; clear n0_ n1_ n2_ n3_; clear ho hb hg hat) | ((with_reducible refine gate_dst (N := 30) rfl ?_); (try (refine gate_guard (by rfl) ?_; dsimp only)); refine Kd.R_lit k38 _ 38 ?hg (N := 30) ?hd (xs := ([] : List (S38))) (inner := []) (ok := fun _ => True) (okp := fun _ => True) ?hr ?hp (fun _ hk => hk) trivial (Below.refl _ _) (Nat.le_refl _) (by simp) ?_; (case hd => rfl); (case hg => rfl); (case hr => first | (go_simp; done) | (go_simp; rfl)); (case hp => exact (Reps.none _ _)); intro v466 w38 ho39 hb hg_ hnew_; clear hg_ hnew_; (first | rw [← Ny465.out] at ho39 | (simp only [Int.reduceToNat] at ho39; rw [← Ny465.out] at ho39)); have n0_ := Aside0.mk (Kd.R_below (by (with_reducible repeat (first | apply Kd.R_alloc | apply Kd.R_drewN | apply Kd.R_drew)); exact HO_458000.out) hb); have n1_ := Aside0.mk (Kd.R_elder' (by (with_reducible repeat (first | apply Kd.R_alloc | apply Kd.R_drewN | apply Kd.R_drew)); exact HO464.out) (Kd.R_base ho39) hb); have n2_ := Aside0.mk (Kd.R_lower (Kd.R_new' ho39 (Kd.R_lt (by (with_reducible repeat (first | apply Kd.R_alloc | apply Kd.R_drewN | apply Kd.R_drew)); exact HO464.out))) (below_size (by repeat (first | (with_reducible first | exact HB.out | apply below_alloc | apply pw_below_drewN | apply below_drew1 | refine below_set ?_ GE457.out) | exact HB.out)))); have n3_ := Aside0.mk (blk_below (g := gb457) (o := .cells #[.slice Ao11 t453.length co11] 46 (0, 0)) (by (with_reducible repeat (first | refine blk_drewN ?_ _ | refine blk_drew ?_ | refine blk_alloc ?_ _)); exact BK457.out) hb); have n4_ := Aside0.mk (below_step (by repeat (first | (with_reducible first | exact HB.out | apply below_alloc | apply pw_below_drewN | apply below_drew1 | refine below_set ?_ GE457.out) | exact HB.out)) hb); clear HO_458000; clear HO464; clear BK457; clear HB; have HO_458000 := n0_; have HO464 := n1_; have HO467 := n2_; have BK457 := n3_; have HB := n4_; clear n0_ n1_ n2_ n3_ n4_; clear hb ho39) | ((with_reducible refine gate_builtin (b := .append) (xs := #[.tmp 30, .tmp 31]) rfl ?_); (try (refine gate_guard (by rfl) ?_; dsimp only)); at_builtin; refine Kd.R_append_rows k38 (w0 := w) w.heap.size rfl (.tmp 30) (.tmp 31) 22 38 (.agg #[(.string ⟨#[]⟩), (.int .u64 0)]) 24 rfl Try.underlying22 info38 rfl (by decide) (by omega) v466 y465 l1 _ _ _ (fun k_ => some k_ ≠ (v463 : Value).ownBlock) (fun _ => False) rfl rfl ?aO ?aR (fun _ _ h => h) (fun _ h => h.elim) ?aF ?aB ?aS ?aL ?_; (case aR => repeat (first | exact (Kd.C_below HR1.out HB.out) | (with_reducible refine Kd.C_alloc ?_ _) | (with_reducible refine Kd.C_drewN ?_ _) | (with_reducible refine Kd.C_drew ?_))); (case aB => exact (by repeat (first | (with_reducible first | exact HB.out | apply below_alloc | apply pw_below_drewN | apply below_drew1 | refine below_set ?_ GE457.out) | exact HB.out))); (case aF => exact (fun k_ hk => Kd.fresh' (Kd.R_lt (by (with_reducible repeat (first | apply Kd.R_alloc | apply Kd.R_drewN | apply Kd.R_drew)); exact HO464.out)) k_ hk)); (case aO => exact (by (with_reducible repeat (first | apply Kd.R_alloc | apply Kd.R_drewN | apply Kd.R_drew)); exact Kd.R_mono HO467.out (fun _ hk => hk.2))); (case aS => exact (below_size (by repeat (first | (with_reducible first | exact HB.out | apply below_alloc | apply pw_below_drewN | apply below_drew1 | refine below_set ?_ GE457.out) | exact HB.out)))); (case aL => have := LMc18.out; omega); intro v469 w40 ho hb hg hat; rw [← Ny468.out] at ho; have n0_ := Aside0.mk (Kd.R_over' (by (with_reducible repeat (first | apply Kd.R_alloc | apply Kd.R_drewN | apply Kd.R_drew)); exact HO_458000.out) (Kd.R_typed (by (with_reducible repeat (first | apply Kd.R_alloc | apply Kd.R_drewN | apply Kd.R_drew)); exact HO467.out)) (by decide) hg); have n1_ := Aside0.mk (blk_grown (g := gb457) (o := .cells #[.slice Ao11 t453.length co11] 46 (0, 0)) (by (with_reducible repeat (first | refine blk_drewN ?_ _ | refine blk_drew ?_ | refine blk_alloc ?_ _)); exact BK457.out) hg (Kd.R_ne HO467.out BK457.out (by decide))); have n2_ := Aside0.mk (Kd.R_after (ok := (fun _ => True)) (by (with_reducible repeat (first | apply Kd.R_alloc | apply Kd.R_drewN | apply Kd.R_drew)); exact HO464.out) hg hat); have n3_ := Aside0.mk (hb); have n4_ := Aside0.mk (ho); clear HO_458000; clear BK457; clear HO464; clear HB; clear HO467; have HO_458000 := n0_; have BK457 := n1_; have HO464 := n2_; have HB := n3_; have HO470 := n4_; clear n0_ n1_ n2_ n3_ n4_; clear ho hb hg hat))
          have n0_ := Aside0.mk (Kd.R_drew HO_458000.out)
          have n1_ := Aside0.mk (Kd.R_drew HO464.out)
          have n2_ := Aside0.mk (Kd.R_drew HO470.out)
          have n3_ := Aside0.mk (blk_drew BK457.out)
          have n4_ := Aside0.mk (below_drew1 HB.out)
          clear HO_458000
          clear HO464
          clear HO470
          clear BK457
          clear HB
          have HO_458000 := n0_
          have HO464 := n1_
          have HO470 := n2_
          have BK457 := n3_
          have HB := n4_
          clear n0_ n1_ n2_ n3_ n4_
          refine start_ (n := 8) (S := fun w' => w'.cell? ⟨gb457, 0, none⟩ = some (.slice Ao11 t453.length co11)) (ds := []) #[false, false, false, false, false, false, false, false] (by kernel_rfl) rfl rfl ((blk_cell BK457.out 0).trans rfl) (fun hHeld => ?_); refine with_tabW forebearlaw10_TreeDiffs.tab8 forebearlaw10_TreeDiffs.bits8 (fun HT_ HW_ => ?_)
          generalize w40.drew = w41 at HO_458000 HO464 HO470 BK457 HB hHeld ⊢
          refine pure_ (i := 0) (N := some 33) (v := ?_) (a' := ?_) #[true, false, false, false, false, false, false, false] rfl rfl (any_of HT_.out (by kernel_rfl)) (fun _ _ _ h => h) (Or.inl ⟨by rfl, ?_⟩) ?_ ?_
          rotate_left
          ·intro w'
           go_simp
           with_reducible rfl
          rotate_left
          ·simp only [Act.put, List.setIfInBounds_toArray, List.set_cons_zero, List.set_cons_succ, i64_w, i32_w]
           rfl
          refine pure_ (i := 2) (N := some 35) (v := ?_) (a' := ?_) #[true, false, true, false, false, false, false, false] rfl rfl (any_of HT_.out (by kernel_rfl)) (fun _ _ _ h => h) (Or.inl ⟨by rfl, ?_⟩) ?_ ?_
          rotate_left
          ·intro w'
           go_simp
           with_reducible rfl
          rotate_left
          ·simp only [Act.put, List.setIfInBounds_toArray, List.set_cons_zero, List.set_cons_succ, i64_w, i32_w]
           rfl
          refine take_ (i := 4) (N := some 37) (v := ?_) (a' := ?_) #[true, false, true, false, true, false, false, false] rfl rfl (take_ofW HT_.out HW_.out (by kernel_rfl)) (fun _ _ _ h => h) (Or.inl ⟨by rfl, ?_⟩) hHeld ?_ ?_
          rotate_left
          ·intro w' s0
           go_simp
           with_reducible rfl
          rotate_left
          ·simp only [Act.put, List.setIfInBounds_toArray, List.set_cons_zero, List.set_cons_succ, i64_w, i32_w]
           rfl
          refine one_ (i := 1) (N := some 34) #[true, true, true, false, true, false, false, false] rfl rfl (one_of HT_.out (by kernel_rfl)) (by decide) (fun K hK => ?_)
          refine goes_ Try.func12 (by kernel_rfl) rfl #[.slice A0 l0.length c0] (by rfl) rfl rfl (by (try simp only [List.map_toArray, List.map_cons, List.map_nil]); first | done | rfl | (simp only [List.length_drop, List.length_take]; rfl)) ?_
          with_reducible refine (forebearlaw08_Entries.calls kj6 _ _ l0 t471 _ ?side1 ?side2 A19.out).mono ?_
          (case side1 => repeat (first | exact (Kd.C_below HR0.out HB.out) | (with_reducible refine Kd.C_alloc ?_ _) | (with_reducible refine Kd.C_drewN ?_ _) | (with_reducible refine Kd.C_drew ?_)))
          (case side2 => exact HC0.out)
          rintro e w42 ⟨v472, rfl, ho0, hb⟩
          refine ⟨_, rfl, ?_⟩
          have n0_ := Aside0.mk (Kd.R_below (by (with_reducible repeat (first | apply Kd.R_alloc | apply Kd.R_drewN | apply Kd.R_drew)); exact HO_458000.out) hb)
          have n1_ := Aside0.mk (Kd.R_below (by (with_reducible repeat (first | apply Kd.R_alloc | apply Kd.R_drewN | apply Kd.R_drew)); exact HO464.out) hb)
          have n2_ := Aside0.mk (Kd.R_below (by (with_reducible repeat (first | apply Kd.R_alloc | apply Kd.R_drewN | apply Kd.R_drew)); exact HO470.out) hb)
          have n3_ := Aside0.mk (Kd.R_lower ho0 (below_size (by repeat (first | (with_reducible first | exact HB.out | apply below_alloc | apply pw_below_drewN | apply below_drew1 | refine below_set ?_ GE457.out) | exact HB.out))))
          have n4_ := Aside0.mk (blk_below (g := gb457) (o := .cells #[.slice Ao11 t453.length co11] 46 (0, 0)) (by (with_reducible repeat (first | refine blk_drewN ?_ _ | refine blk_drew ?_ | refine blk_alloc ?_ _)); exact BK457.out) hb)
          have n5_ := Aside0.mk (below_step (by repeat (first | (with_reducible first | exact HB.out | apply below_alloc | apply pw_below_drewN | apply below_drew1 | refine below_set ?_ GE457.out) | exact HB.out)) hb)
          clear HO_458000
          clear HO464
          clear HO470
          clear BK457
          clear HB
          have HO_458000 := n0_
          have HO464 := n1_
          have HO470 := n2_
          have HO473 := n3_
          have BK457 := n4_
          have HB := n5_
          clear n0_ n1_ n2_ n3_ n4_ n5_
          (try clear hb)
          (try clear hb2)
          (try clear hk)
          (try clear hi)
          (try clear ho0)
          refine hK.out _ _ ((blk_cell BK457.out 0).trans rfl) (fun hHeld => ?_)
          clear hK K
          refine norm_ (a' := ?_) ?_ ?_
          rotate_left
          ·show Act.put _ (some 34) _ = _
           simp only [Act.put, List.setIfInBounds_toArray, List.set_cons_zero, List.set_cons_succ, i64_w, i32_w]
           rfl
          refine one_ (i := 3) (N := some 36) #[true, true, true, true, true, false, false, false] rfl rfl (one_of HT_.out (by kernel_rfl)) (by decide) (fun K hK => ?_)
          refine goes_ Try.func12 (by kernel_rfl) rfl #[.slice A1 l1.length c1] (by rfl) rfl rfl (by (try simp only [List.map_toArray, List.map_cons, List.map_nil]); first | done | rfl | (simp only [List.length_drop, List.length_take]; rfl)) ?_
          with_reducible refine (forebearlaw08_Entries.calls kj6 _ _ l1 t474 _ ?side1 ?side2 A20.out).mono ?_
          (case side1 => repeat (first | exact (Kd.C_below HR1.out HB.out) | (with_reducible refine Kd.C_alloc ?_ _) | (with_reducible refine Kd.C_drewN ?_ _) | (with_reducible refine Kd.C_drew ?_)))
          (case side2 => exact HC1.out)
          rintro e w43 ⟨v475, rfl, ho0, hb⟩
          refine ⟨_, rfl, ?_⟩
          have n0_ := Aside0.mk (Kd.R_below (by (with_reducible repeat (first | apply Kd.R_alloc | apply Kd.R_drewN | apply Kd.R_drew)); exact HO_458000.out) hb)
          have n1_ := Aside0.mk (Kd.R_below (by (with_reducible repeat (first | apply Kd.R_alloc | apply Kd.R_drewN | apply Kd.R_drew)); exact HO464.out) hb)
          have n2_ := Aside0.mk (Kd.R_below (by (with_reducible repeat (first | apply Kd.R_alloc | apply Kd.R_drewN | apply Kd.R_drew)); exact HO470.out) hb)
          have n3_ := Aside0.mk (Kd.R_elder' (by (with_reducible repeat (first | apply Kd.R_alloc | apply Kd.R_drewN | apply Kd.R_drew)); exact HO473.out) (Kd.R_base ho0) hb)
          have n4_ := Aside0.mk (Kd.R_lower (Kd.R_new' ho0 (Kd.R_lt (by (with_reducible repeat (first | apply Kd.R_alloc | apply Kd.R_drewN | apply Kd.R_drew)); exact HO473.out))) (below_size (by repeat (first | (with_reducible first | exact HB.out | apply below_alloc | apply pw_below_drewN | apply below_drew1 | refine below_set ?_ GE457.out) | exact HB.out))))
          have n5_ := Aside0.mk (blk_below (g := gb457) (o := .cells #[.slice Ao11 t453.length co11] 46 (0, 0)) (by (with_reducible repeat (first | refine blk_drewN ?_ _ | refine blk_drew ?_ | refine blk_alloc ?_ _)); exact BK457.out) hb)
          have n6_ := Aside0.mk (below_step (by repeat (first | (with_reducible first | exact HB.out | apply below_alloc | apply pw_below_drewN | apply below_drew1 | refine below_set ?_ GE457.out) | exact HB.out)) hb)
          clear HO_458000
          clear HO464
          clear HO470
          clear HO473
          clear BK457
          clear HB
          have HO_458000 := n0_
          have HO464 := n1_
          have HO470 := n2_
          have HO473 := n3_
          have HO476 := n4_
          have BK457 := n5_
          have HB := n6_
          clear n0_ n1_ n2_ n3_ n4_ n5_ n6_
          (try clear hb)
          (try clear hb2)
          (try clear hk)
          (try clear hi)
          (try clear ho0)
          refine hK.out _ _ ((blk_cell BK457.out 0).trans rfl) (fun hHeld => ?_)
          clear hK K
          refine norm_ (a' := ?_) ?_ ?_
          rotate_left
          ·show Act.put _ (some 36) _ = _
           simp only [Act.put, List.setIfInBounds_toArray, List.set_cons_zero, List.set_cons_succ, i64_w, i32_w]
           rfl
          refine one_ (i := 5) (N := some 38) #[true, true, true, true, true, true, false, false] rfl rfl (one_of HT_.out (by kernel_rfl)) (by decide) (fun K hK => ?_)
          refine goes_ Try.func24 (by kernel_rfl) rfl #[.agg #[.slice Ao11 t453.length co11]] (by rfl) rfl rfl (by (try simp only [List.map_toArray, List.map_cons, List.map_nil]); first | done | rfl | (simp only [List.length_drop, List.length_take]; rfl)) ?_
          with_reducible refine (path_Set_Paths.calls _ _ t453 t477 _ ?side1 ?side2 A21.out).mono ?_
          (case side1 => repeat (first | exact (Kd.R_reads' HO_458000.out).2.2 | (with_reducible refine Kd.C_alloc ?_ _) | (with_reducible refine Kd.C_drewN ?_ _) | (with_reducible refine Kd.C_drew ?_)))
          (case side2 => exact (Kd.R_reads' HO_458000.out).2.1)
          rintro e w44 ⟨v478, rfl, ho0, hb⟩
          refine ⟨_, rfl, ?_⟩
          have n0_ := Aside0.mk (Kd.R_elder' (by (with_reducible repeat (first | apply Kd.R_alloc | apply Kd.R_drewN | apply Kd.R_drew)); exact HO_458000.out) (Kd.R_base ho0) hb)
          have n1_ := Aside0.mk (Kd.R_below (by (with_reducible repeat (first | apply Kd.R_alloc | apply Kd.R_drewN | apply Kd.R_drew)); exact HO464.out) hb)
          have n2_ := Aside0.mk (Kd.R_below (by (with_reducible repeat (first | apply Kd.R_alloc | apply Kd.R_drewN | apply Kd.R_drew)); exact HO470.out) hb)
          have n3_ := Aside0.mk (Kd.R_below (by (with_reducible repeat (first | apply Kd.R_alloc | apply Kd.R_drewN | apply Kd.R_drew)); exact HO473.out) hb)
          have n4_ := Aside0.mk (Kd.R_below (by (with_reducible repeat (first | apply Kd.R_alloc | apply Kd.R_drewN | apply Kd.R_drew)); exact HO476.out) hb)
          have n5_ := Aside0.mk (Kd.R_lower (Kd.R_new' ho0 (Kd.R_lt (by (with_reducible repeat (first | apply Kd.R_alloc | apply Kd.R_drewN | apply Kd.R_drew)); exact HO_458000.out))) (below_size (by repeat (first | (with_reducible first | exact HB.out | apply below_alloc | apply pw_below_drewN | apply below_drew1 | refine below_set ?_ GE457.out) | exact HB.out))))
          have n6_ := Aside0.mk (blk_below (g := gb457) (o := .cells #[.slice Ao11 t453.length co11] 46 (0, 0)) (by (with_reducible repeat (first | refine blk_drewN ?_ _ | refine blk_drew ?_ | refine blk_alloc ?_ _)); exact BK457.out) hb)
          have n7_ := Aside0.mk (below_step (by repeat (first | (with_reducible first | exact HB.out | apply below_alloc | apply pw_below_drewN | apply below_drew1 | refine below_set ?_ GE457.out) | exact HB.out)) hb)
          clear HO_458000
          clear HO464
          clear HO470
          clear HO473
          clear HO476
          clear BK457
          clear HB
          have HO_458000 := n0_
          have HO464 := n1_
          have HO470 := n2_
          have HO473 := n3_
          have HO476 := n4_
          have HO479 := n5_
          have BK457 := n6_
          have HB := n7_
          clear n0_ n1_ n2_ n3_ n4_ n5_ n6_ n7_
          (try clear hb)
          (try clear hb2)
          (try clear hk)
          (try clear hi)
          (try clear ho0)
          obtain ⟨Ao45, co45, eo45⟩ := Kd.R_slice HO473.out
          (first | subst eo45 | (injection eo45 with f1_ f2_ f3_; have f4_ := f1_.symm; have f5_ := f3_.symm; clear f1_ f2_ f3_; subst f4_; subst f5_))
          obtain ⟨Ao46, co46, eo46⟩ := Kd.R_slice HO476.out
          (first | subst eo46 | (injection eo46 with f1_ f2_ f3_; have f4_ := f1_.symm; have f5_ := f3_.symm; clear f1_ f2_ f3_; subst f4_; subst f5_))
          obtain ⟨Ao47, co47, eo47⟩ := Kd.R_slice HO479.out
          (first | subst eo47 | (injection eo47 with f1_ f2_ f3_; have f4_ := f1_.symm; have f5_ := f3_.symm; clear f1_ f2_ f3_; subst f4_; subst f5_))
          refine hK.out _ _ ((blk_cell BK457.out 0).trans rfl) (fun hHeld => ?_)
          clear hK K
          refine norm_ (a' := ?_) ?_ ?_
          rotate_left
          ·show Act.put _ (some 38) _ = _
           simp only [Act.put, List.setIfInBounds_toArray, List.set_cons_zero, List.set_cons_succ, i64_w, i32_w]
           rfl
          refine one_ (i := 6) (N := some 39) #[true, true, true, true, true, true, true, false] rfl rfl (one_of HT_.out (by kernel_rfl)) (by decide) (fun K hK => ?_)
          refine goes_ Try.func23 (by kernel_rfl) rfl #[.slice Ao45 t471.length co45, .slice Ao46 t474.length co46, .slice Ao47 t477.length co47] (by rfl) rfl rfl (by (try simp only [List.map_toArray, List.map_cons, List.map_nil]); first | done | rfl | (simp only [List.length_drop, List.length_take]; rfl)) ?_
          with_reducible refine (forebearref10_Diff.calls kj6 _ _ t471 _ _ t474 _ _ t477 t480 _ ?side1 ?side2 ?side3 ?side4 ?side5 ?side6 A22.out).mono ?_
          (case side1 => repeat (first | exact (Kd.R_reads' HO473.out).2.2 | (with_reducible refine Kd.C_alloc ?_ _) | (with_reducible refine Kd.C_drewN ?_ _) | (with_reducible refine Kd.C_drew ?_)))
          (case side2 => exact (Kd.R_reads' HO473.out).2.1)
          (case side3 => repeat (first | exact (Kd.R_reads' HO476.out).2.2 | (with_reducible refine Kd.C_alloc ?_ _) | (with_reducible refine Kd.C_drewN ?_ _) | (with_reducible refine Kd.C_drew ?_)))
          (case side4 => exact (Kd.R_reads' HO476.out).2.1)
          (case side5 => repeat (first | exact (Kd.R_reads' HO479.out).2.2 | (with_reducible refine Kd.C_alloc ?_ _) | (with_reducible refine Kd.C_drewN ?_ _) | (with_reducible refine Kd.C_drew ?_)))
          (case side6 => exact (Kd.R_reads' HO479.out).2.1)
          rintro e w48 ⟨v481, rfl, ho0, hb⟩
          refine ⟨_, rfl, ?_⟩
          have n0_ := Aside0.mk (Kd.R_below (by (with_reducible repeat (first | apply Kd.R_alloc | apply Kd.R_drewN | apply Kd.R_drew)); exact HO_458000.out) hb)
          have n1_ := Aside0.mk (Kd.R_below (by (with_reducible repeat (first | apply Kd.R_alloc | apply Kd.R_drewN | apply Kd.R_drew)); exact HO464.out) hb)
          have n2_ := Aside0.mk (Kd.R_below (by (with_reducible repeat (first | apply Kd.R_alloc | apply Kd.R_drewN | apply Kd.R_drew)); exact HO470.out) hb)
          have n3_ := Aside0.mk (Kd.R_below (by (with_reducible repeat (first | apply Kd.R_alloc | apply Kd.R_drewN | apply Kd.R_drew)); exact HO473.out) hb)
          have n4_ := Aside0.mk (Kd.R_below (by (with_reducible repeat (first | apply Kd.R_alloc | apply Kd.R_drewN | apply Kd.R_drew)); exact HO476.out) hb)
          have n5_ := Aside0.mk (Kd.R_below (by (with_reducible repeat (first | apply Kd.R_alloc | apply Kd.R_drewN | apply Kd.R_drew)); exact HO479.out) hb)
          have n6_ := Aside0.mk (Kd.R_lower ho0 (below_size (by repeat (first | (with_reducible first | exact HB.out | apply below_alloc | apply pw_below_drewN | apply below_drew1 | refine below_set ?_ GE457.out) | exact HB.out))))
          have n7_ := Aside0.mk (blk_below (g := gb457) (o := .cells #[.slice Ao11 t453.length co11] 46 (0, 0)) (by (with_reducible repeat (first | refine blk_drewN ?_ _ | refine blk_drew ?_ | refine blk_alloc ?_ _)); exact BK457.out) hb)
          have n8_ := Aside0.mk (below_step (by repeat (first | (with_reducible first | exact HB.out | apply below_alloc | apply pw_below_drewN | apply below_drew1 | refine below_set ?_ GE457.out) | exact HB.out)) hb)
          clear HO_458000
          clear HO464
          clear HO470
          clear HO473
          clear HO476
          clear HO479
          clear BK457
          clear HB
          have HO_458000 := n0_
          have HO464 := n1_
          have HO470 := n2_
          have HO473 := n3_
          have HO476 := n4_
          have HO479 := n5_
          have HO482 := n6_
          have BK457 := n7_
          have HB := n8_
          clear n0_ n1_ n2_ n3_ n4_ n5_ n6_ n7_ n8_
          (try clear hb)
          (try clear hb2)
          (try clear hk)
          (try clear hi)
          (try clear ho0)
          refine hK.out _ _ ((blk_cell BK457.out 0).trans rfl) (fun hHeld => ?_)
          clear hK K
          refine norm_ (a' := ?_) ?_ ?_
          rotate_left
          ·show Act.put _ (some 39) _ = _
           simp only [Act.put, List.setIfInBounds_toArray, List.set_cons_zero, List.set_cons_succ, i64_w, i32_w]
           rfl
          refine pure_ (i := 7) (N := some 11) (v := ?_) (a' := ?_) #[true, true, true, true, true, true, true, true] rfl rfl (any_of HT_.out (by kernel_rfl)) (fun _ _ _ h => h) (Or.inl ⟨by rfl, ?_⟩) ?_ ?_
          rotate_left
          ·intro w'
           go_simp
           with_reducible rfl
          rotate_left
          ·simp only [Act.put, List.setIfInBounds_toArray, List.set_cons_zero, List.set_cons_succ, i64_w, i32_w]
           rfl
          refine done_ (done_of HT_.out (by kernel_rfl)) ?_
          have hcz49_0 : w48.cell? ⟨gb457, 0, none⟩ = some (.slice Ao11 t453.length co11) := (blk_cell BK457.out 0).trans rfl
          have hfz49_0 := blk_frozen BK457.out 0
          obtain ⟨Ao50, co50, eo50⟩ := Kd.R_slice HO464.out
          subst eo50
          obtain ⟨Ao51, co51, eo51⟩ := Kd.R_slice HO470.out
          subst eo51
          try go_wp2_with (first | ((with_reducible refine gate_callee (f := 15) rfl ?_); refine goesL_ (some 43) rfl rfl Try.func15 (by kernel_rfl) rfl #[.slice Ao50 y462.length co50, .slice Ao51 y468.length co51, .agg #[.slice Ao11 t453.length co11]] rfl (by (try simp only [List.map_toArray, List.map_cons, List.map_nil]); first | done | rfl | (simp only [List.length_drop, List.length_take]; rfl)) ?_; (with_reducible refine (tree_Diff.calls kj6 _ _ y462 _ _ y468 _ _ t453 t483 _ ?side1 ?side2 ?side3 ?side4 ?side5 ?side6 A23.out).mono ?_); (case side1 => repeat (first | exact (Kd.R_reads' HO464.out).2.2 | (with_reducible refine Kd.C_alloc ?_ _) | (with_reducible refine Kd.C_drewN ?_ _) | (with_reducible refine Kd.C_drew ?_))); (case side2 => exact (Kd.R_reads' HO464.out).2.1); (case side3 => repeat (first | exact (Kd.R_reads' HO470.out).2.2 | (with_reducible refine Kd.C_alloc ?_ _) | (with_reducible refine Kd.C_drewN ?_ _) | (with_reducible refine Kd.C_drew ?_))); (case side4 => exact (Kd.R_reads' HO470.out).2.1); (case side5 => repeat (first | exact (Kd.R_reads' HO_458000.out).2.2 | (with_reducible refine Kd.C_alloc ?_ _) | (with_reducible refine Kd.C_drewN ?_ _) | (with_reducible refine Kd.C_drew ?_))); (case side6 => exact (Kd.R_reads' HO_458000.out).2.1); rintro e w52 ⟨v484, rfl, ho0, hb⟩; refine ⟨_, rfl, ?_⟩; have n0_ := Aside0.mk (Kd.R_below (by (with_reducible repeat (first | apply Kd.R_alloc | apply Kd.R_drewN | apply Kd.R_drew)); exact HO_458000.out) hb); have n1_ := Aside0.mk (Kd.R_below (by (with_reducible repeat (first | apply Kd.R_alloc | apply Kd.R_drewN | apply Kd.R_drew)); exact HO464.out) hb); have n2_ := Aside0.mk (Kd.R_below (by (with_reducible repeat (first | apply Kd.R_alloc | apply Kd.R_drewN | apply Kd.R_drew)); exact HO470.out) hb); have n3_ := Aside0.mk (Kd.R_below (by (with_reducible repeat (first | apply Kd.R_alloc | apply Kd.R_drewN | apply Kd.R_drew)); exact HO473.out) hb); have n4_ := Aside0.mk (Kd.R_below (by (with_reducible repeat (first | apply Kd.R_alloc | apply Kd.R_drewN | apply Kd.R_drew)); exact HO476.out) hb); have n5_ := Aside0.mk (Kd.R_below (by (with_reducible repeat (first | apply Kd.R_alloc | apply Kd.R_drewN | apply Kd.R_drew)); exact HO479.out) hb); have n6_ := Aside0.mk (Kd.R_below (by (with_reducible repeat (first | apply Kd.R_alloc | apply Kd.R_drewN | apply Kd.R_drew)); exact HO482.out) hb); have n7_ := Aside0.mk (Kd.R_lower ho0 (below_size (by repeat (first | (with_reducible first | exact HB.out | apply below_alloc | apply pw_below_drewN | apply below_drew1 | refine below_set ?_ GE457.out) | exact HB.out)))); have n8_ := Aside0.mk (blk_below (g := gb457) (o := .cells #[.slice Ao11 t453.length co11] 46 (0, 0)) (by (with_reducible repeat (first | refine blk_drewN ?_ _ | refine blk_drew ?_ | refine blk_alloc ?_ _)); exact BK457.out) hb); have n9_ := Aside0.mk (below_step (by repeat (first | (with_reducible first | exact HB.out | apply below_alloc | apply pw_below_drewN | apply below_drew1 | refine below_set ?_ GE457.out) | exact HB.out)) hb); clear HO_458000; clear HO464; clear HO470; clear HO473; clear HO476; clear HO479; clear HO482; clear BK457; clear HB; have HO_458000 := n0_; have HO464 := n1_; have HO470 := n2_; have HO473 := n3_; have HO476 := n4_; have HO479 := n5_; have HO482 := n6_; have HO485 := n7_; have BK457 := n8_; have HB := n9_; clear n0_ n1_ n2_ n3_ n4_ n5_ n6_ n7_ n8_ n9_; (try clear hb); (try clear hb2); (try clear hk); (try clear hi); (try clear ho0); obtain ⟨Ao53, co53, eo53⟩ := Kd.R_slice HO485.out; subst eo53; obtain ⟨Ao54, co54, eo54⟩ := Kd.R_slice HO482.out; subst eo54) | ((with_reducible refine gate_callee (f := 25) rfl ?_); refine goesL_ (some 45) rfl rfl Try.func25 (by kernel_rfl) rfl #[.slice Ao53 t483.length co53, .slice Ao54 t480.length co54] rfl (by (try simp only [List.map_toArray, List.map_cons, List.map_nil]); first | done | rfl | (simp only [List.length_drop, List.length_take]; rfl)) ?_; (with_reducible refine (forebearlaw10_same.calls kj6 _ _ t483 _ _ t480 true _ ?side1 ?side2 ?side3 ?side4 A24.out).mono ?_); (case side1 => repeat (first | exact (Kd.R_reads' HO485.out).2.2 | (with_reducible refine Kd.C_alloc ?_ _) | (with_reducible refine Kd.C_drewN ?_ _) | (with_reducible refine Kd.C_drew ?_))); (case side2 => exact (Kd.R_reads' HO485.out).2.1); (case side3 => repeat (first | exact (Kd.R_reads' HO482.out).2.2 | (with_reducible refine Kd.C_alloc ?_ _) | (with_reducible refine Kd.C_drewN ?_ _) | (with_reducible refine Kd.C_drew ?_))); (case side4 => exact (Kd.R_reads' HO482.out).2.1); rintro e w' ⟨rfl, ⟨nd, rfl⟩⟩; refine ⟨_, rfl, ?_⟩; have hcz55_0 : w52.cell? ⟨gb457, 0, none⟩ = some (.slice Ao11 t453.length co11) := (blk_cell BK457.out 0).trans rfl; have hfz55_0 := blk_frozen BK457.out 0) | (go_at_call 26; (with_reducible refine (tree_Same.calls kj6 _ _ y462 _ _ y468 _ _ t453 t487 _ ?side1 ?side2 ?side3 ?side4 ?side5 ?side6 A26.out).mono ?_); (case side1 => repeat (first | exact (Kd.R_reads' HO464.out).2.2 | (with_reducible refine Kd.C_alloc ?_ _) | (with_reducible refine Kd.C_drewN ?_ _) | (with_reducible refine Kd.C_drew ?_))); (case side2 => exact (Kd.R_reads' HO464.out).2.1); (case side3 => repeat (first | exact (Kd.R_reads' HO470.out).2.2 | (with_reducible refine Kd.C_alloc ?_ _) | (with_reducible refine Kd.C_drewN ?_ _) | (with_reducible refine Kd.C_drew ?_))); (case side4 => exact (Kd.R_reads' HO470.out).2.1); (case side5 => repeat (first | exact (Kd.R_reads' HO_458000.out).2.2 | (with_reducible refine Kd.C_alloc ?_ _) | (with_reducible refine Kd.C_drewN ?_ _) | (with_reducible refine Kd.C_drew ?_))); (case side6 => exact (Kd.R_reads' HO_458000.out).2.1); rintro e w56 ⟨rfl, hb⟩; have n0_ := Aside0.mk (Kd.R_below (by (with_reducible repeat (first | apply Kd.R_alloc | apply Kd.R_drewN | apply Kd.R_drew)); exact HO_458000.out) hb); have n1_ := Aside0.mk (Kd.R_below (by (with_reducible repeat (first | apply Kd.R_alloc | apply Kd.R_drewN | apply Kd.R_drew)); exact HO464.out) hb); have n2_ := Aside0.mk (Kd.R_below (by (with_reducible repeat (first | apply Kd.R_alloc | apply Kd.R_drewN | apply Kd.R_drew)); exact HO470.out) hb); have n3_ := Aside0.mk (Kd.R_below (by (with_reducible repeat (first | apply Kd.R_alloc | apply Kd.R_drewN | apply Kd.R_drew)); exact HO473.out) hb); have n4_ := Aside0.mk (Kd.R_below (by (with_reducible repeat (first | apply Kd.R_alloc | apply Kd.R_drewN | apply Kd.R_drew)); exact HO476.out) hb); have n5_ := Aside0.mk (Kd.R_below (by (with_reducible repeat (first | apply Kd.R_alloc | apply Kd.R_drewN | apply Kd.R_drew)); exact HO479.out) hb); have n6_ := Aside0.mk (Kd.R_below (by (with_reducible repeat (first | apply Kd.R_alloc | apply Kd.R_drewN | apply Kd.R_drew)); exact HO482.out) hb); have n7_ := Aside0.mk (Kd.R_below (by (with_reducible repeat (first | apply Kd.R_alloc | apply Kd.R_drewN | apply Kd.R_drew)); exact HO485.out) hb); have n8_ := Aside0.mk (blk_below (g := gb457) (o := .cells #[.slice Ao11 t453.length co11] 46 (0, 0)) (by (with_reducible repeat (first | refine blk_drewN ?_ _ | refine blk_drew ?_ | refine blk_alloc ?_ _)); exact BK457.out) hb); have n9_ := Aside0.mk (below_step (by repeat (first | (with_reducible first | exact HB.out | apply below_alloc | apply pw_below_drewN | apply below_drew1 | refine below_set ?_ GE457.out) | exact HB.out)) hb); clear HO_458000; clear HO464; clear HO470; clear HO473; clear HO476; clear HO479; clear HO482; clear HO485; clear BK457; clear HB; have HO_458000 := n0_; have HO464 := n1_; have HO470 := n2_; have HO473 := n3_; have HO476 := n4_; have HO479 := n5_; have HO482 := n6_; have HO485 := n7_; have BK457 := n8_; have HB := n9_; clear n0_ n1_ n2_ n3_ n4_ n5_ n6_ n7_ n8_ n9_; (try clear hb); (try clear hb2); (try clear hk); (try clear hi)) | (go_at_call 12; (with_reducible refine (forebearlaw08_Entries.calls kj6 _ _ y462 t488 _ ?side1 ?side2 A28.out).mono ?_); (case side1 => repeat (first | exact (Kd.R_reads' HO464.out).2.2 | (with_reducible refine Kd.C_alloc ?_ _) | (with_reducible refine Kd.C_drewN ?_ _) | (with_reducible refine Kd.C_drew ?_))); (case side2 => exact (Kd.R_reads' HO464.out).2.1); rintro e w57 ⟨v489, rfl, ho0, hb⟩; have n0_ := Aside0.mk (Kd.R_below (by (with_reducible repeat (first | apply Kd.R_alloc | apply Kd.R_drewN | apply Kd.R_drew)); exact HO_458000.out) hb); have n1_ := Aside0.mk (Kd.R_below (by (with_reducible repeat (first | apply Kd.R_alloc | apply Kd.R_drewN | apply Kd.R_drew)); exact HO464.out) hb); have n2_ := Aside0.mk (Kd.R_below (by (with_reducible repeat (first | apply Kd.R_alloc | apply Kd.R_drewN | apply Kd.R_drew)); exact HO470.out) hb); have n3_ := Aside0.mk (Kd.R_elder' (by (with_reducible repeat (first | apply Kd.R_alloc | apply Kd.R_drewN | apply Kd.R_drew)); exact HO473.out) (Kd.R_base ho0) hb); have n4_ := Aside0.mk (Kd.R_elder' (by (with_reducible repeat (first | apply Kd.R_alloc | apply Kd.R_drewN | apply Kd.R_drew)); exact HO476.out) (Kd.R_base ho0) hb); have n5_ := Aside0.mk (Kd.R_below (by (with_reducible repeat (first | apply Kd.R_alloc | apply Kd.R_drewN | apply Kd.R_drew)); exact HO479.out) hb); have n6_ := Aside0.mk (Kd.R_below (by (with_reducible repeat (first | apply Kd.R_alloc | apply Kd.R_drewN | apply Kd.R_drew)); exact HO482.out) hb); have n7_ := Aside0.mk (Kd.R_below (by (with_reducible repeat (first | apply Kd.R_alloc | apply Kd.R_drewN | apply Kd.R_drew)); exact HO485.out) hb); have n8_ := Aside0.mk (Kd.R_lower (Kd.R_new' (Kd.R_new' ho0 (Kd.R_lt (by (with_reducible repeat (first | apply Kd.R_alloc | apply Kd.R_drewN | apply Kd.R_drew)); exact HO473.out))) (Kd.R_lt (by (with_reducible repeat (first | apply Kd.R_alloc | apply Kd.R_drewN | apply Kd.R_drew)); exact HO476.out))) (below_size (by repeat (first | (with_reducible first | exact HB.out | apply below_alloc | apply pw_below_drewN | apply below_drew1 | refine below_set ?_ GE457.out) | exact HB.out)))); have n9_ := Aside0.mk (blk_below (g := gb457) (o := .cells #[.slice Ao11 t453.length co11] 46 (0, 0)) (by (with_reducible repeat (first | refine blk_drewN ?_ _ | refine blk_drew ?_ | refine blk_alloc ?_ _)); exact BK457.out) hb); have n10_ := Aside0.mk (below_step (by repeat (first | (with_reducible first | exact HB.out | apply below_alloc | apply pw_below_drewN | apply below_drew1 | refine below_set ?_ GE457.out) | exact HB.out)) hb); clear HO_458000; clear HO464; clear HO470; clear HO473; clear HO476; clear HO479; clear HO482; clear HO485; clear BK457; clear HB; have HO_458000 := n0_; have HO464 := n1_; have HO470 := n2_; have HO473 := n3_; have HO476 := n4_; have HO479 := n5_; have HO482 := n6_; have HO485 := n7_; have HO490 := n8_; have BK457 := n9_; have HB := n10_; clear n0_ n1_ n2_ n3_ n4_ n5_ n6_ n7_ n8_ n9_ n10_; (try clear hb); (try clear hb2); (try clear hk); (try clear hi); (try clear ho0)) | (go_at_call 12; (with_reducible refine (forebearlaw08_Entries.calls kj6 _ _ l0 t491 _ ?side1 ?side2 A29.out).mono ?_); (case side1 => repeat (first | exact (Kd.C_below HR0.out HB.out) | (with_reducible refine Kd.C_alloc ?_ _) | (with_reducible refine Kd.C_drewN ?_ _) | (with_reducible refine Kd.C_drew ?_))); (case side2 => exact HC0.out); rintro e w58 ⟨v492, rfl, ho0, hb⟩; have n0_ := Aside0.mk (Kd.R_below (by (with_reducible repeat (first | apply Kd.R_alloc | apply Kd.R_drewN | apply Kd.R_drew)); exact HO_458000.out) hb); have n1_ := Aside0.mk (Kd.R_below (by (with_reducible repeat (first | apply Kd.R_alloc | apply Kd.R_drewN | apply Kd.R_drew)); exact HO464.out) hb); have n2_ := Aside0.mk (Kd.R_below (by (with_reducible repeat (first | apply Kd.R_alloc | apply Kd.R_drewN | apply Kd.R_drew)); exact HO470.out) hb); have n3_ := Aside0.mk (Kd.R_elder' (by (with_reducible repeat (first | apply Kd.R_alloc | apply Kd.R_drewN | apply Kd.R_drew)); exact HO473.out) (Kd.R_base ho0) hb); have n4_ := Aside0.mk (Kd.R_elder' (by (with_reducible repeat (first | apply Kd.R_alloc | apply Kd.R_drewN | apply Kd.R_drew)); exact HO476.out) (Kd.R_base ho0) hb); have n5_ := Aside0.mk (Kd.R_below (by (with_reducible repeat (first | apply Kd.R_alloc | apply Kd.R_drewN | apply Kd.R_drew)); exact HO479.out) hb); have n6_ := Aside0.mk (Kd.R_below (by (with_reducible repeat (first | apply Kd.R_alloc | apply Kd.R_drewN | apply Kd.R_drew)); exact HO482.out) hb); have n7_ := Aside0.mk (Kd.R_below (by (with_reducible repeat (first | apply Kd.R_alloc | apply Kd.R_drewN | apply Kd.R_drew)); exact HO485.out) hb); have n8_ := Aside0.mk (Kd.R_elder' (by (with_reducible repeat (first | apply Kd.R_alloc | apply Kd.R_drewN | apply Kd.R_drew)); exact HO490.out) (Kd.R_base ho0) hb); have n9_ := Aside0.mk (Kd.R_lower (Kd.R_new' (Kd.R_new' (Kd.R_new' ho0 (Kd.R_lt (by (with_reducible repeat (first | apply Kd.R_alloc | apply Kd.R_drewN | apply Kd.R_drew)); exact HO473.out))) (Kd.R_lt (by (with_reducible repeat (first | apply Kd.R_alloc | apply Kd.R_drewN | apply Kd.R_drew)); exact HO476.out))) (Kd.R_lt (by (with_reducible repeat (first | apply Kd.R_alloc | apply Kd.R_drewN | apply Kd.R_drew)); exact HO490.out))) (below_size (by repeat (first | (with_reducible first | exact HB.out | apply below_alloc | apply pw_below_drewN | apply below_drew1 | refine below_set ?_ GE457.out) | exact HB.out)))); have n10_ := Aside0.mk (blk_below (g := gb457) (o := .cells #[.slice Ao11 t453.length co11] 46 (0, 0)) (by (with_reducible repeat (first | refine blk_drewN ?_ _ | refine blk_drew ?_ | refine blk_alloc ?_ _)); exact BK457.out) hb); have n11_ := Aside0.mk (below_step (by repeat (first | (with_reducible first | exact HB.out | apply below_alloc | apply pw_below_drewN | apply below_drew1 | refine below_set ?_ GE457.out) | exact HB.out)) hb); clear HO_458000; clear HO464; clear HO470; clear HO473; clear HO476; clear HO479; clear HO482; clear HO485; clear HO490; clear BK457; clear HB; have HO_458000 := n0_; have HO464 := n1_; have HO470 := n2_; have HO473 := n3_; have HO476 := n4_; have HO479 := n5_; have HO482 := n6_; have HO485 := n7_; have HO490 := n8_; have HO493 := n9_; have BK457 := n10_; have HB := n11_; clear n0_ n1_ n2_ n3_ n4_ n5_ n6_ n7_ n8_ n9_ n10_ n11_; (try clear hb); (try clear hb2); (try clear hk); (try clear hi); (try clear ho0); obtain ⟨Ao59, co59, eo59⟩ := Kd.R_slice HO490.out; subst eo59; obtain ⟨Ao60, co60, eo60⟩ := Kd.R_slice HO493.out; subst eo60) | (go_at_call 17; (with_reducible refine (forebearref08_SameTree.calls kj6 _ _ t488 _ _ t491 true _ ?side1 ?side2 ?side3 ?side4 A30.out).mono ?_); (case side1 => repeat (first | exact (Kd.R_reads' HO490.out).2.2 | (with_reducible refine Kd.C_alloc ?_ _) | (with_reducible refine Kd.C_drewN ?_ _) | (with_reducible refine Kd.C_drew ?_))); (case side2 => exact (Kd.R_reads' HO490.out).2.1); (case side3 => repeat (first | exact (Kd.R_reads' HO493.out).2.2 | (with_reducible refine Kd.C_alloc ?_ _) | (with_reducible refine Kd.C_drewN ?_ _) | (with_reducible refine Kd.C_drew ?_))); (case side4 => exact (Kd.R_reads' HO493.out).2.1); rintro e w' ⟨rfl, ⟨nd, rfl⟩⟩) | (go_at_call 12; (with_reducible refine (forebearlaw08_Entries.calls kj6 _ _ y468 t495 _ ?side1 ?side2 A32.out).mono ?_); (case side1 => repeat (first | exact (Kd.R_reads' HO470.out).2.2 | (with_reducible refine Kd.C_alloc ?_ _) | (with_reducible refine Kd.C_drewN ?_ _) | (with_reducible refine Kd.C_drew ?_))); (case side2 => exact (Kd.R_reads' HO470.out).2.1); rintro e w61 ⟨v496, rfl, ho0, hb⟩; have n0_ := Aside0.mk (Kd.R_below (by (with_reducible repeat (first | apply Kd.R_alloc | apply Kd.R_drewN | apply Kd.R_drew)); exact HO_458000.out) hb); have n1_ := Aside0.mk (Kd.R_below (by (with_reducible repeat (first | apply Kd.R_alloc | apply Kd.R_drewN | apply Kd.R_drew)); exact HO464.out) hb); have n2_ := Aside0.mk (Kd.R_below (by (with_reducible repeat (first | apply Kd.R_alloc | apply Kd.R_drewN | apply Kd.R_drew)); exact HO470.out) hb); have n3_ := Aside0.mk (Kd.R_elder' (by (with_reducible repeat (first | apply Kd.R_alloc | apply Kd.R_drewN | apply Kd.R_drew)); exact HO473.out) (Kd.R_base ho0) hb); have n4_ := Aside0.mk (Kd.R_elder' (by (with_reducible repeat (first | apply Kd.R_alloc | apply Kd.R_drewN | apply Kd.R_drew)); exact HO476.out) (Kd.R_base ho0) hb); have n5_ := Aside0.mk (Kd.R_below (by (with_reducible repeat (first | apply Kd.R_alloc | apply Kd.R_drewN | apply Kd.R_drew)); exact HO479.out) hb); have n6_ := Aside0.mk (Kd.R_below (by (with_reducible repeat (first | apply Kd.R_alloc | apply Kd.R_drewN | apply Kd.R_drew)); exact HO482.out) hb); have n7_ := Aside0.mk (Kd.R_below (by (with_reducible repeat (first | apply Kd.R_alloc | apply Kd.R_drewN | apply Kd.R_drew)); exact HO485.out) hb); have n8_ := Aside0.mk (Kd.R_elder' (by (with_reducible repeat (first | apply Kd.R_alloc | apply Kd.R_drewN | apply Kd.R_drew)); exact HO490.out) (Kd.R_base ho0) hb); have n9_ := Aside0.mk (Kd.R_elder' (by (with_reducible repeat (first | apply Kd.R_alloc | apply Kd.R_drewN | apply Kd.R_drew)); exact HO493.out) (Kd.R_base ho0) hb); have n10_ := Aside0.mk (Kd.R_lower (Kd.R_new' (Kd.R_new' (Kd.R_new' (Kd.R_new' ho0 (Kd.R_lt (by (with_reducible repeat (first | apply Kd.R_alloc | apply Kd.R_drewN | apply Kd.R_drew)); exact HO473.out))) (Kd.R_lt (by (with_reducible repeat (first | apply Kd.R_alloc | apply Kd.R_drewN | apply Kd.R_drew)); exact HO476.out))) (Kd.R_lt (by (with_reducible repeat (first | apply Kd.R_alloc | apply Kd.R_drewN | apply Kd.R_drew)); exact HO490.out))) (Kd.R_lt (by (with_reducible repeat (first | apply Kd.R_alloc | apply Kd.R_drewN | apply Kd.R_drew)); exact HO493.out))) (below_size (by repeat (first | (with_reducible first | exact HB.out | apply below_alloc | apply pw_below_drewN | apply below_drew1 | refine below_set ?_ GE457.out) | exact HB.out)))); have n11_ := Aside0.mk (blk_below (g := gb457) (o := .cells #[.slice Ao11 t453.length co11] 46 (0, 0)) (by (with_reducible repeat (first | refine blk_drewN ?_ _ | refine blk_drew ?_ | refine blk_alloc ?_ _)); exact BK457.out) hb); have n12_ := Aside0.mk (below_step (by repeat (first | (with_reducible first | exact HB.out | apply below_alloc | apply pw_below_drewN | apply below_drew1 | refine below_set ?_ GE457.out) | exact HB.out)) hb); clear HO_458000; clear HO464; clear HO470; clear HO473; clear HO476; clear HO479; clear HO482; clear HO485; clear HO490; clear HO493; clear BK457; clear HB; have HO_458000 := n0_; have HO464 := n1_; have HO470 := n2_; have HO473 := n3_; have HO476 := n4_; have HO479 := n5_; have HO482 := n6_; have HO485 := n7_; have HO490 := n8_; have HO493 := n9_; have HO497 := n10_; have BK457 := n11_; have HB := n12_; clear n0_ n1_ n2_ n3_ n4_ n5_ n6_ n7_ n8_ n9_ n10_ n11_ n12_; (try clear hb); (try clear hb2); (try clear hk); (try clear hi); (try clear ho0)) | (go_at_call 12; (with_reducible refine (forebearlaw08_Entries.calls kj6 _ _ l1 t498 _ ?side1 ?side2 A33.out).mono ?_); (case side1 => repeat (first | exact (Kd.C_below HR1.out HB.out) | (with_reducible refine Kd.C_alloc ?_ _) | (with_reducible refine Kd.C_drewN ?_ _) | (with_reducible refine Kd.C_drew ?_))); (case side2 => exact HC1.out); rintro e w62 ⟨v499, rfl, ho0, hb⟩; have n0_ := Aside0.mk (Kd.R_below (by (with_reducible repeat (first | apply Kd.R_alloc | apply Kd.R_drewN | apply Kd.R_drew)); exact HO_458000.out) hb); have n1_ := Aside0.mk (Kd.R_below (by (with_reducible repeat (first | apply Kd.R_alloc | apply Kd.R_drewN | apply Kd.R_drew)); exact HO464.out) hb); have n2_ := Aside0.mk (Kd.R_below (by (with_reducible repeat (first | apply Kd.R_alloc | apply Kd.R_drewN | apply Kd.R_drew)); exact HO470.out) hb); have n3_ := Aside0.mk (Kd.R_elder' (by (with_reducible repeat (first | apply Kd.R_alloc | apply Kd.R_drewN | apply Kd.R_drew)); exact HO473.out) (Kd.R_base ho0) hb); have n4_ := Aside0.mk (Kd.R_elder' (by (with_reducible repeat (first | apply Kd.R_alloc | apply Kd.R_drewN | apply Kd.R_drew)); exact HO476.out) (Kd.R_base ho0) hb); have n5_ := Aside0.mk (Kd.R_below (by (with_reducible repeat (first | apply Kd.R_alloc | apply Kd.R_drewN | apply Kd.R_drew)); exact HO479.out) hb); have n6_ := Aside0.mk (Kd.R_below (by (with_reducible repeat (first | apply Kd.R_alloc | apply Kd.R_drewN | apply Kd.R_drew)); exact HO482.out) hb); have n7_ := Aside0.mk (Kd.R_below (by (with_reducible repeat (first | apply Kd.R_alloc | apply Kd.R_drewN | apply Kd.R_drew)); exact HO485.out) hb); have n8_ := Aside0.mk (Kd.R_elder' (by (with_reducible repeat (first | apply Kd.R_alloc | apply Kd.R_drewN | apply Kd.R_drew)); exact HO490.out) (Kd.R_base ho0) hb); have n9_ := Aside0.mk (Kd.R_elder' (by (with_reducible repeat (first | apply Kd.R_alloc | apply Kd.R_drewN | apply Kd.R_drew)); exact HO493.out) (Kd.R_base ho0) hb); have n10_ := Aside0.mk (Kd.R_elder' (by (with_reducible repeat (first | apply Kd.R_alloc | apply Kd.R_drewN | apply Kd.R_drew)); exact HO497.out) (Kd.R_base ho0) hb); have n11_ := Aside0.mk (Kd.R_lower (Kd.R_new' (Kd.R_new' (Kd.R_new' (Kd.R_new' (Kd.R_new' ho0 (Kd.R_lt (by (with_reducible repeat (first | apply Kd.R_alloc | apply Kd.R_drewN | apply Kd.R_drew)); exact HO473.out))) (Kd.R_lt (by (with_reducible repeat (first | apply Kd.R_alloc | apply Kd.R_drewN | apply Kd.R_drew)); exact HO476.out))) (Kd.R_lt (by (with_reducible repeat (first | apply Kd.R_alloc | apply Kd.R_drewN | apply Kd.R_drew)); exact HO490.out))) (Kd.R_lt (by (with_reducible repeat (first | apply Kd.R_alloc | apply Kd.R_drewN | apply Kd.R_drew)); exact HO493.out))) (Kd.R_lt (by (with_reducible repeat (first | apply Kd.R_alloc | apply Kd.R_drewN | apply Kd.R_drew)); exact HO497.out))) (below_size (by repeat (first | (with_reducible first | exact HB.out | apply below_alloc | apply pw_below_drewN | apply below_drew1 | refine below_set ?_ GE457.out) | exact HB.out)))); have n12_ := Aside0.mk (blk_below (g := gb457) (o := .cells #[.slice Ao11 t453.length co11] 46 (0, 0)) (by (with_reducible repeat (first | refine blk_drewN ?_ _ | refine blk_drew ?_ | refine blk_alloc ?_ _)); exact BK457.out) hb); have n13_ := Aside0.mk (below_step (by repeat (first | (with_reducible first | exact HB.out | apply below_alloc | apply pw_below_drewN | apply below_drew1 | refine below_set ?_ GE457.out) | exact HB.out)) hb); clear HO_458000; clear HO464; clear HO470; clear HO473; clear HO476; clear HO479; clear HO482; clear HO485; clear HO490; clear HO493; clear HO497; clear BK457; clear HB; have HO_458000 := n0_; have HO464 := n1_; have HO470 := n2_; have HO473 := n3_; have HO476 := n4_; have HO479 := n5_; have HO482 := n6_; have HO485 := n7_; have HO490 := n8_; have HO493 := n9_; have HO497 := n10_; have HO500 := n11_; have BK457 := n12_; have HB := n13_; clear n0_ n1_ n2_ n3_ n4_ n5_ n6_ n7_ n8_ n9_ n10_ n11_ n12_ n13_; (try clear hb); (try clear hb2); (try clear hk); (try clear hi); (try clear ho0); obtain ⟨Ao63, co63, eo63⟩ := Kd.R_slice HO497.out; subst eo63; obtain ⟨Ao64, co64, eo64⟩ := Kd.R_slice HO500.out; subst eo64) | (go_at_call 17; (with_reducible refine (forebearref08_SameTree.calls kj6 _ _ t495 _ _ t498 t501 _ ?side1 ?side2 ?side3 ?side4 A34.out).mono ?_); (case side1 => repeat (first | exact (Kd.R_reads' HO497.out).2.2 | (with_reducible refine Kd.C_alloc ?_ _) | (with_reducible refine Kd.C_drewN ?_ _) | (with_reducible refine Kd.C_drew ?_))); (case side2 => exact (Kd.R_reads' HO497.out).2.1); (case side3 => repeat (first | exact (Kd.R_reads' HO500.out).2.2 | (with_reducible refine Kd.C_alloc ?_ _) | (with_reducible refine Kd.C_drewN ?_ _) | (with_reducible refine Kd.C_drew ?_))); (case side4 => exact (Kd.R_reads' HO500.out).2.1); rintro e w' ⟨rfl, ⟨nd, rfl⟩⟩))
          go_ret
          exact ⟨by first | rfl | (simp [errW_none, errW_some] <;> rfl) | (simp [*, errW_none, errW_some] <;> rfl), by repeat (first | (with_reducible first | exact HB.out | apply below_alloc | apply pw_below_drewN | apply below_drew1 | refine below_set ?_ GE457.out) | exact HB.out)⟩
         ·replace c31 := Bool.eq_false_iff.mpr c31
          subst c31
          have H1 : (some false) = some r := by rw [if_neg (show ¬ (false = true) by decide)] at H; exact H
          clear H
          have H := H1
          clear H1
          exact absurd (Option.some.inj H) (by rw [HR_.out]; decide)
        ·rw [if_neg c27] at H
         have c27b0 : (t487 == ((t480.length : Int) == 0)) = false := by simpa using c27
         (try (have c27b1 : decide (t487 = ((t480.length : Int) == 0)) = false := by simpa using c27))
         (try (have c27b2 : (t487 == ((t480.length : Int) == 0)) = false := by simpa using c27))
         (try (have c27b3 : ¬ (t487 = ((t480.length : Int) == 0)) := by simpa using c27))
         clear c27
         exact absurd (Option.some.inj H) (by rw [HR_.out]; decide)
       ·replace c25 := Bool.eq_false_iff.mpr c25
        subst c25
        have H1 : (some false) = some r := by rw [if_neg (show ¬ (false = true) by decide)] at H; exact H
        clear H
        have H := H1
        clear H1
        exact absurd (Option.some.inj H) (by rw [HR_.out]; decide)
      ·rw [if_neg c18] at H
       exact absurd H (by simp)
     ·rw [if_neg c17] at H
      exact absurd H (by simp)
 ·replace c5 := Bool.eq_false_iff.mpr c5
  subst c5
  have H1 : (some false) = some r := by rw [if_neg (show ¬ (false = true) by decide)] at H; exact H
  clear H
  have H := H1
  clear H1
  exact absurd (Option.some.inj H) (by rw [HR_.out]; decide)
/-- THE ONE PURE STATEMENT of forebearlaw10_TreeDiffs. -/
def forebearlaw10_TreeDiffs.Pure : Prop := ∀ (l0 : List (S38)) (l1 : List (S38)) (l2 : List ByteArray), (l0.length * 24 ≤ 140737488351232 ∧ l0.length ≤ 9223372036854775807 ∧ ∀ y_l0 ∈ l0, gS38 y_l0) → (l1.length * 24 ≤ 140737488351232 ∧ l1.length ≤ 9223372036854775807 ∧ ∀ y_l1 ∈ l1, gS38 y_l1) → (l2.length * 16 ≤ 140737488351232 ∧ l2.length ≤ 9223372036854775807 ∧ ∀ y_l2 ∈ l2, y_l2.size ≤ 140737488351232) → ∃ k, forebearlaw10_TreeDiffs.f k l0 l1 l2 = some true
theorem forebearlaw10_TreeDiffs.walk (P : forebearlaw10_TreeDiffs.Pure) (l0 : List (S38)) (l1 : List (S38)) (l2 : List ByteArray) (A0 : Option Addr) (c0 : Nat) (A1 : Option Addr) (c1 : Nat) (A2 : Option Addr) (c2 : Nat) (w : World) (g0 : (l0.length * 24 ≤ 140737488351232 ∧ l0.length ≤ 9223372036854775807 ∧ ∀ y_l0 ∈ l0, gS38 y_l0)) (g1 : (l1.length * 24 ≤ 140737488351232 ∧ l1.length ≤ 9223372036854775807 ∧ ∀ y_l1 ∈ l1, gS38 y_l1)) (g2 : (l2.length * 16 ≤ 140737488351232 ∧ l2.length ≤ 9223372036854775807 ∧ ∀ y_l2 ∈ l2, y_l2.size ≤ 140737488351232)) (hc0 : l0.length ≤ c0) (hr0 : Kd.C k38 w A0 l0.length l0) (hc1 : l1.length ≤ c1) (hr1 : Kd.C k38 w A1 l1.length l1) (hc2 : l2.length ≤ c2) (hr2 : Kd.C Kd.string w A2 l2.length l2) :
  Calls Try.prog 6 #[.slice A0 l0.length c0, .slice A1 l1.length c1, .slice A2 l2.length c2] w fun e w' => e = .returned (.bool true) ∧ Below w.heap.size w w' := by
 obtain ⟨k, h⟩ := P l0 l1 l2 g0 g1 g2
 refine (forebearlaw10_TreeDiffs.calls k _ _ l0 _ _ l1 _ _ l2 true w hr0 hc0 hr1 hc1 hr2 hc2 h).mono ?_
 rintro e w' ⟨rfl, hd⟩
 exact ⟨rfl, hd⟩

end Go.Proofs.Ytjnefjggmeieaaa.MT

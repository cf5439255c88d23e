/- Laid by this claim's own program (myprint) out of the translation: functions that the laws of the group T reach, each as a plain function, with the proof that the Go code comes to it. No condition. -/
import Derived.Test.YtjnefjggmeieaaaMTx0
import Derived.Test.YtjnefjggmeieaaaMTx12
import Derived.Test.YtjnefjggmeieaaaMTx20
namespace Go.Proofs.Ytjnefjggmeieaaa.MT
open Go.Proofs.Ytjnefjggmeieaaa.Opening
open Go.RowKit Go.Proofs.YtjnefjggmeieaaaW.PrintWords Go.Proofs.YtjnefjggmeieaaaW.PrintLast Go.Proofs.YtjnefjggmeieaaaW.PrintMore
attribute [local go_sem] max2_int min2_int max_two min_two max_three min_three max_four min_four   -- for this text's walks alone
set_option linter.unusedVariables false
set_option linter.unusedSimpArgs false

/-! ### forebearref10_Diff: function 23 -/
def forebearref10_Diff.l0 : Nat → List (S76) → List (S76) → List ByteArray → List (S55) → List ByteArray → Int → Option ((List (S55)))
 | 0, _, _, _, _, _, _ => none
 | k + 1, x0, x1, x2, x7, x8, x9 => if x9 < (x8.length : Int) then (if 0 ≤ x9 then ((forebearref10_blob.f k x0 (rdOf ByteArray.empty x8 x9)).bind fun t433 => ((forebearref10_blob.f k x1 (rdOf ByteArray.empty x8 x9)).bind fun t435 => (if t433 = t435 then (forebearref10_Diff.l0 k x0 x1 x2 x7 x8 (wrap64 (x9 + 1))) else ((forebearref03_In.f k x2 (rdOf ByteArray.empty x8 x9)).bind fun t438 => (if t438 = true then (if x7.length < 4398046511104 then (forebearref10_Diff.l0 k x0 x1 x2 (x7 ++ [(⟨rdOf ByteArray.empty x8 x9, t433, t435⟩ : S55)]) x8 (wrap64 (x9 + 1))) else (none)) else (forebearref10_Diff.l0 k x0 x1 x2 x7 x8 (wrap64 (x9 + 1)))))))) else (none)) else (some x7)
def forebearref10_Diff.f (k : Nat) (l0 : List (S76)) (l1 : List (S76)) (l2 : List ByteArray) : Option ((List (S55))) := (forebearref10_paths.f k l0 l1).bind fun t428 => (forebearref10_Diff.l0 k l0 l1 l2 ([] : List (S55)) t428 0)
theorem forebearref10_Diff.mono_l : ∀ k, (∀ y0 y1 y2 y3 y4 y5, LeO (forebearref10_Diff.l0 k y0 y1 y2 y3 y4 y5) (forebearref10_Diff.l0 (k + 1) y0 y1 y2 y3 y4 y5))
 | 0 => fun _ _ _ _ _ _ r h => by simp [forebearref10_Diff.l0] at h
 | k + 1 => by
  have ih0 := forebearref10_Diff.mono_l k
  ·intro y0 y1 y2 y3 y4 y5
   unfold forebearref10_Diff.l0
   repeat' first
   | (with_reducible exact ih0 _ _ _ _ _ _)
   | (with_reducible exact forebearref03_In.mono _ _ _)
   | (with_reducible exact forebearref10_blob.mono _ _ _)
   | (with_reducible exact forebearref10_paths.mono _ _ _)
   | (with_reducible exact LeO.refl _)
   | (with_reducible exact LeO.none _)
   | (with_reducible refine LeO.ite ?_ ?_)
   | (with_reducible refine LeO.bind ?_ (fun _ => ?_))
   | exact ih0 _ _ _ _ _ _
   | exact forebearref03_In.mono _ _ _
   | exact forebearref10_blob.mono _ _ _
   | exact forebearref10_paths.mono _ _ _
   | exact LeO.none _
   | refine LeO.ite ?_ ?_
   | refine LeO.bind ?_ (fun _ => ?_)
theorem forebearref10_Diff.mono : ∀ a0 a1 a2 k, LeO (forebearref10_Diff.f k a0 a1 a2) (forebearref10_Diff.f (k + 1) a0 a1 a2) := by
 intro a0 a1 a2 k
 have ih0 := forebearref10_Diff.mono_l k
 unfold forebearref10_Diff.f
 repeat' first
   | (with_reducible exact ih0 _ _ _ _ _ _)
   | (with_reducible exact forebearref03_In.mono _ _ _)
   | (with_reducible exact forebearref10_blob.mono _ _ _)
   | (with_reducible exact forebearref10_paths.mono _ _ _)
   | (with_reducible exact LeO.refl _)
   | (with_reducible exact LeO.none _)
   | (with_reducible refine LeO.ite ?_ ?_)
   | (with_reducible refine LeO.bind ?_ (fun _ => ?_))
   | exact ih0 _ _ _ _ _ _
   | exact forebearref03_In.mono _ _ _
   | exact forebearref10_blob.mono _ _ _
   | exact forebearref10_paths.mono _ _ _
   | exact LeO.none _
   | refine LeO.ite ?_ ?_
   | refine LeO.bind ?_ (fun _ => ?_)
def forebearref10_Diff.T6 : Bool × List (List Nat × List Nat) := (true, [([], []), ([], []), ([0, 1], [0, 1]), ([2], [2]), ([], []), ([], []), ([], []), ([5, 6], [5, 6]), ([7], [7]), ([4, 8], [4, 8]), ([], []), ([], []), ([], []), ([11, 12], [11, 12]), ([13], [13]), ([10, 14, 9], [10, 14]), ([3, 9, 15], [3, 9, 15]), ([], []), ([17, 16, 15, 0, 1, 2, 3, 4, 5, 6, 7, 8, 9, 10, 11, 12, 13, 14, 15, 16, 17], [16, 17])])
def forebearref10_Diff.B6 : List Nat := [0, 0, 3, 7, 0, 0, 0, 96, 224, 496, 0, 0, 0, 6144, 14336, 32752, 65535, 0, 262143]
theorem forebearref10_Diff.tab6 : rtab .any (opsOf Try.f23 6) = forebearref10_Diff.T6 := by kernel_rfl
theorem forebearref10_Diff.bits6 : waitsOk forebearref10_Diff.T6.2 forebearref10_Diff.B6 = true := by kernel_rfl
set_option maxHeartbeats 8000000 in
set_option maxRecDepth 100000 in
theorem forebearref10_Diff.calls (k : Nat) (A0 : Option Addr) (c0 : Nat) (l0 : List (S76)) (A1 : Option Addr) (c1 : Nat) (l1 : List (S76)) (A2 : Option Addr) (c2 : Nat) (l2 : List ByteArray) (r : List (S55)) (w : World) (hr0 : Kd.C k76 w A0 l0.length l0) (hc0 : l0.length ≤ c0) (hr1 : Kd.C k76 w A1 l1.length l1) (hc1 : l1.length ≤ c1) (hr2 : Kd.C Kd.string w A2 l2.length l2) (hc2 : l2.length ≤ c2) (h : forebearref10_Diff.f k l0 l1 l2 = some r) :
  Calls Try.prog 23 #[.slice A0 l0.length c0, .slice A1 l1.length c1, .slice A2 l2.length c2] w fun e w' => ∃ v0_ : Value, e = .returned (v0_) ∧ Kd.R k55 55 w' w.heap.size (fun _ => True) v0_ r ∧ Below w.heap.size w w' := by
 have hu55 := Try.underlying55
 have HR0 := Aside0.mk hr0
 have HC0 := Aside0.mk hc0
 clear hr0 hc0
 have HR1 := Aside0.mk hr1
 have HC1 := Aside0.mk hc1
 clear hr1 hc1
 have HR2 := Aside0.mk hr2
 have HC2 := Aside0.mk hc2
 clear hr2 hc2
 have HB := Aside0.mk (Below.refl w.heap.size w)
 have H : ((forebearref10_paths.f k l0 l1).bind fun t428 => (forebearref10_Diff.l0 k l0 l1 l2 ([] : List (S55)) t428 0)) = some r := h
 clear h
 replace H := Option.bind_eq_some_iff.mp H
 obtain ⟨t428, A40, H⟩ := H
 replace H : (forebearref10_Diff.l0 k l0 l1 l2 ([] : List (S55)) t428 0) = some r := H
 have A4 := Aside0.mk A40
 clear A40
 have H' := Aside0.mk H
 clear H
 go_enter Try.func23, Try.ntmps23
 go_wp2_with (first | ((with_reducible refine gate_callee (f := 47) rfl ?_); refine goesL_ (some 13) rfl rfl Try.func47 (by kernel_rfl) rfl #[.slice A0 l0.length c0, .slice A1 l1.length c1] rfl (by (try simp only [List.map_toArray, List.map_cons, List.map_nil]); first | done | rfl | (simp only [List.length_drop, List.length_take]; rfl)) ?_; (with_reducible refine (forebearref10_paths.calls k _ _ l0 _ _ l1 t428 _ ?side1 ?side2 ?side3 ?side4 A4.out).mono ?_); (case side1 => repeat (first | exact HR0.out | (with_reducible refine Kd.C_alloc ?_ _) | (with_reducible refine Kd.C_drewN ?_ _) | (with_reducible refine Kd.C_drew ?_))); (case side2 => exact HC0.out); (case side3 => repeat (first | exact HR1.out | (with_reducible refine Kd.C_alloc ?_ _) | (with_reducible refine Kd.C_drewN ?_ _) | (with_reducible refine Kd.C_drew ?_))); (case side4 => exact HC1.out); rintro e w5 ⟨v429, rfl, ho0, hb⟩; refine ⟨_, rfl, ?_⟩; have n0_ := Aside0.mk (Kd.R_lower ho0 (below_size (by repeat (first | (with_reducible first | exact HB.out | apply below_alloc | apply pw_below_drewN | apply below_drew1) | exact HB.out)))); have n1_ := Aside0.mk (below_step (by repeat (first | (with_reducible first | exact HB.out | apply below_alloc | apply pw_below_drewN | apply below_drew1) | exact HB.out)) hb); clear HB; have HO430 := n0_; have HB := n1_; clear n0_ n1_; (try clear hb); (try clear hb2); (try clear hk); (try clear hi); (try clear ho0)))
 go_loopg [7, 9] k (fun kq v7 v9 w' => ∃ (x7_1 : List (S55)) (x9_1 : Int), v9 = .int .i64 x9_1 ∧ Aside0 (forebearref10_Diff.l0 kq l0 l1 l2 x7_1 t428 x9_1 = some r) ∧ Aside0 (kq ≤ k) ∧ Aside0 (Kd.R k55 55 w' w.heap.size (fun _ => True) v7 x7_1) ∧ Aside0 (Kd.R Kd.string 9 w' w.heap.size (fun _ => True) v429 t428) ∧ Aside0 (Below w.heap.size w w'))
 case atStart => exact ⟨(([] : List (S55))), (0), (by first | rfl | (simp; done) | (simp [*]; done)), H', ⟨Nat.le_refl _⟩, ⟨by first | exact Kd.R_nil _ _ _ _ _ | exact Kd.N_nil _ _ _ _ _ | exact Kd.V_nil _ _ _ _ _ | exact Kd.Q_nil _ _ _ _ _ | exact Kd.S_nil _ _ _ _ _⟩, ⟨by (with_reducible repeat (first | apply Kd.R_alloc | apply Kd.R_drewN | apply Kd.R_drew)); exact HO430.out⟩, ⟨by repeat (first | (with_reducible first | exact HB.out | apply below_alloc | apply pw_below_drewN | apply below_drew1) | exact HB.out)⟩⟩
 case round =>
  clear H'
  try clear c1
  try clear c2
  try clear p2
  try clear c4
  obtain ⟨x7_1, x9_1, rfl, HA, HK1, HO_7, HO_8, HB⟩ := hrel
  cases gk with
  | zero => exact absurd HA.out (by simp [forebearref10_Diff.l0])
  | succ k1 =>
   have H := HA.out
   clear HA
   simp only [forebearref10_Diff.l0] at H
   by_cases c6 : x9_1 < (t428.length : Int)
   ·rw [if_pos c6] at H
    have c6b0 : decide (x9_1 < (t428.length : Int)) = true := decide_eq_true c6
    clear c6
    by_cases c7 : 0 ≤ x9_1
    ·rw [if_pos c7] at H
     have c7b0 : decide (0 ≤ x9_1) = true := decide_eq_true c7
     clear c7
     replace H := Option.bind_eq_some_iff.mp H
     obtain ⟨t433, A80, H⟩ := H
     replace H : ((forebearref10_blob.f k1 l1 (rdOf ByteArray.empty t428 x9_1)).bind fun t435 => (if t433 = t435 then (forebearref10_Diff.l0 k1 l0 l1 l2 x7_1 t428 (wrap64 (x9_1 + 1))) else ((forebearref03_In.f k1 l2 (rdOf ByteArray.empty t428 x9_1)).bind fun t438 => (if t438 = true then (if x7_1.length < 4398046511104 then (forebearref10_Diff.l0 k1 l0 l1 l2 (x7_1 ++ [(⟨rdOf ByteArray.empty t428 x9_1, t433, t435⟩ : S55)]) t428 (wrap64 (x9_1 + 1))) else (none)) else (forebearref10_Diff.l0 k1 l0 l1 l2 x7_1 t428 (wrap64 (x9_1 + 1))))))) = some r := H
     have A8 := Aside0.mk A80
     clear A80
     replace H := Option.bind_eq_some_iff.mp H
     obtain ⟨t435, A90, H⟩ := H
     replace H : (if t433 = t435 then (forebearref10_Diff.l0 k1 l0 l1 l2 x7_1 t428 (wrap64 (x9_1 + 1))) else ((forebearref03_In.f k1 l2 (rdOf ByteArray.empty t428 x9_1)).bind fun t438 => (if t438 = true then (if x7_1.length < 4398046511104 then (forebearref10_Diff.l0 k1 l0 l1 l2 (x7_1 ++ [(⟨rdOf ByteArray.empty t428 x9_1, t433, t435⟩ : S55)]) t428 (wrap64 (x9_1 + 1))) else (none)) else (forebearref10_Diff.l0 k1 l0 l1 l2 x7_1 t428 (wrap64 (x9_1 + 1)))))) = some r := H
     have A9 := Aside0.mk A90
     clear A90
     by_cases c10 : t433 = t435
     ·rw [if_pos c10] at H
      have c10b0 : (t433 == t435) = true := beq_iff_eq.mpr c10
      have c10b1 : (t433 != t435) = false := bne_eq_false_iff_eq.mpr c10
      clear c10
      have H' := Aside0.mk H
      clear H
      obtain ⟨Ao11, co11, eo11⟩ := Kd.R_slice HO_8.out
      subst eo11
      try go_wp2
      have n0_ := Aside0.mk (Kd.R_drew HO_7.out)
      have n1_ := Aside0.mk (Kd.R_drew HO_8.out)
      have n2_ := Aside0.mk (below_drew1 HB.out)
      clear HO_7
      clear HO_8
      clear HB
      have HO_7 := n0_
      have HO_8 := n1_
      have HB := n2_
      clear n0_ n1_ n2_
      have p431 : 0 ≤ (x9_1 : Int) := of_decide_eq_true (by first | (with_reducible assumption) | assumption)
      have q431 : x9_1 < (t428.length : Int) := of_decide_eq_true (by first | (with_reducible assumption) | assumption)
      obtain ⟨ad431, e431, hx431_0⟩ := Kd.at_string (Kd.R_reads' HO_8.out).2.2 x9_1 p431 q431
      cases e431
      replace p431 := eq_true p431
      replace q431 := eq_true q431
      have p432 : 0 ≤ (x9_1 : Int) := of_decide_eq_true (by first | (with_reducible assumption) | assumption)
      have q432 : x9_1 < (t428.length : Int) := of_decide_eq_true (by first | (with_reducible assumption) | assumption)
      obtain ⟨ad432, e432, hx432_0⟩ := Kd.at_string (Kd.R_reads' HO_8.out).2.2 x9_1 p432 q432
      obtain rfl : ad431 = ad432 := (by injection e432)
      replace p432 := eq_true p432
      replace q432 := eq_true q432
      have p434 : 0 ≤ (x9_1 : Int) := of_decide_eq_true (by first | (with_reducible assumption) | assumption)
      have q434 : x9_1 < (t428.length : Int) := of_decide_eq_true (by first | (with_reducible assumption) | assumption)
      obtain ⟨ad434, e434, hx434_0⟩ := Kd.at_string (Kd.R_reads' HO_8.out).2.2 x9_1 p434 q434
      obtain rfl : ad431 = ad434 := (by injection e434)
      replace p434 := eq_true p434
      replace q434 := eq_true q434
      refine start_ (n := 19) (S := fun w' => w'.cell? (ad431.add (x9_1).toNat) = some (.string (rdOf ByteArray.empty t428 x9_1)) ∧ w'.cell? (ad431.add (x9_1).toNat) = some (.string (rdOf ByteArray.empty t428 x9_1)) ∧ w'.cell? (ad431.add (x9_1).toNat) = some (.string (rdOf ByteArray.empty t428 x9_1))) (ds := []) (vb 0 19) (by kernel_rfl) rfl rfl ⟨hx431_0, hx432_0, hx434_0⟩ (fun hHeld => ?_); refine with_tabW forebearref10_Diff.tab6 forebearref10_Diff.bits6 (fun HT_ HW_ => ?_)
      generalize wr.drew = w12 at HO_7 HO_8 HB hx431_0 hx432_0 hx434_0 hHeld ⊢
      refine pure_ (i := 0) (N := some 20) (v := ?_) (a' := ?_) (vb 1 19) rfl rfl (any_of HT_.out (by kernel_rfl)) (fun _ _ _ h => h) (Or.inl ⟨by rfl, ?_⟩) ?_ ?_
      rotate_left
      ·intro w'
       go_simp
       with_reducible rfl
      rotate_left
      ·simp only [Act.put, List.setIfInBounds_toArray, List.set_cons_zero, List.set_cons_succ, i64_w, i32_w]
       rfl
      refine pure_ (i := 1) (N := some 21) (v := ?_) (a' := ?_) (vb 3 19) rfl rfl (any_of HT_.out (by kernel_rfl)) (fun _ _ _ h => h) (Or.inl ⟨by rfl, ?_⟩) ?_ ?_
      rotate_left
      ·intro w'
       go_simp
       with_reducible rfl
      rotate_left
      ·simp only [Act.put, List.setIfInBounds_toArray, List.set_cons_zero, List.set_cons_succ, i64_w, i32_w]
       rfl
      refine pure_ (i := 2) (N := some 22) (v := ?_) (a' := ?_) (vb 7 19) rfl rfl (any_of HT_.out (by kernel_rfl)) (fun _ _ _ h => h) (Or.inl ⟨by rfl, ?_⟩) ?_ ?_
      rotate_left
      ·intro w'
       go_simp
       with_reducible rfl
      rotate_left
      ·simp only [Act.put, List.setIfInBounds_toArray, List.set_cons_zero, List.set_cons_succ, i64_w, i32_w]
       rfl
      refine pure_ (i := 4) (N := some 24) (v := ?_) (a' := ?_) (vb 23 19) rfl rfl (any_of HT_.out (by kernel_rfl)) (fun _ _ _ h => h) (Or.inl ⟨by rfl, ?_⟩) ?_ ?_
      rotate_left
      ·intro w'
       go_simp
       with_reducible rfl
      rotate_left
      ·simp only [Act.put, List.setIfInBounds_toArray, List.set_cons_zero, List.set_cons_succ, i64_w, i32_w]
       rfl
      refine pure_ (i := 5) (N := some 25) (v := ?_) (a' := ?_) (vb 55 19) rfl rfl (any_of HT_.out (by kernel_rfl)) (fun _ _ _ h => h) (Or.inl ⟨by rfl, ?_⟩) ?_ ?_
      rotate_left
      ·intro w'
       go_simp
       with_reducible rfl
      rotate_left
      ·simp only [Act.put, List.setIfInBounds_toArray, List.set_cons_zero, List.set_cons_succ, i64_w, i32_w]
       rfl
      refine pure_ (i := 6) (N := some 26) (v := ?_) (a' := ?_) (vb 119 19) rfl rfl (any_of HT_.out (by kernel_rfl)) (fun _ _ _ h => h) (Or.inl ⟨by rfl, ?_⟩) ?_ ?_
      rotate_left
      ·intro w'
       go_simp
       with_reducible rfl
      rotate_left
      ·simp only [Act.put, List.setIfInBounds_toArray, List.set_cons_zero, List.set_cons_succ, i64_w, i32_w]
       rfl
      refine pure_ (i := 7) (N := some 27) (v := ?_) (a' := ?_) (vb 247 19) rfl rfl (any_of HT_.out (by kernel_rfl)) (fun _ _ _ h => h) (Or.inl ⟨by rfl, ?_⟩) ?_ ?_
      rotate_left
      ·intro w'
       go_simp
       with_reducible rfl
      rotate_left
      ·simp only [Act.put, List.setIfInBounds_toArray, List.set_cons_zero, List.set_cons_succ, i64_w, i32_w]
       rfl
      refine pure_ (i := 10) (N := some 30) (v := ?_) (a' := ?_) (vb 1271 19) rfl rfl (any_of HT_.out (by kernel_rfl)) (fun _ _ _ h => h) (Or.inl ⟨by rfl, ?_⟩) ?_ ?_
      rotate_left
      ·intro w'
       go_simp
       with_reducible rfl
      rotate_left
      ·simp only [Act.put, List.setIfInBounds_toArray, List.set_cons_zero, List.set_cons_succ, i64_w, i32_w]
       rfl
      refine pure_ (i := 11) (N := some 31) (v := ?_) (a' := ?_) (vb 3319 19) rfl rfl (any_of HT_.out (by kernel_rfl)) (fun _ _ _ h => h) (Or.inl ⟨by rfl, ?_⟩) ?_ ?_
      rotate_left
      ·intro w'
       go_simp
       with_reducible rfl
      rotate_left
      ·simp only [Act.put, List.setIfInBounds_toArray, List.set_cons_zero, List.set_cons_succ, i64_w, i32_w]
       rfl
      refine pure_ (i := 12) (N := some 32) (v := ?_) (a' := ?_) (vb 7415 19) rfl rfl (any_of HT_.out (by kernel_rfl)) (fun _ _ _ h => h) (Or.inl ⟨by rfl, ?_⟩) ?_ ?_
      rotate_left
      ·intro w'
       go_simp
       with_reducible rfl
      rotate_left
      ·simp only [Act.put, List.setIfInBounds_toArray, List.set_cons_zero, List.set_cons_succ, i64_w, i32_w]
       rfl
      refine pure_ (i := 13) (N := some 33) (v := ?_) (a' := ?_) (vb 15607 19) rfl rfl (any_of HT_.out (by kernel_rfl)) (fun _ _ _ h => h) (Or.inl ⟨by rfl, ?_⟩) ?_ ?_
      rotate_left
      ·intro w'
       go_simp
       with_reducible rfl
      rotate_left
      ·simp only [Act.put, List.setIfInBounds_toArray, List.set_cons_zero, List.set_cons_succ, i64_w, i32_w]
       rfl
      refine take_ (i := 3) (N := some 23) (v := ?_) (a' := ?_) (vb 15615 19) rfl rfl (take_ofW HT_.out HW_.out (by kernel_rfl)) (fun _ _ _ h => h) (Or.inl ⟨by rfl, ?_⟩) hHeld ?_ ?_
      rotate_left
      ·rintro w' ⟨s0, s1, s2⟩
       go_simp
       with_reducible rfl
      rotate_left
      ·simp only [Act.put, List.setIfInBounds_toArray, List.set_cons_zero, List.set_cons_succ, i64_w, i32_w]
       rfl
      refine take_ (i := 8) (N := some 28) (v := ?_) (a' := ?_) (vb 15871 19) rfl rfl (take_ofW HT_.out HW_.out (by kernel_rfl)) (fun _ _ _ h => h) (Or.inl ⟨by rfl, ?_⟩) hHeld ?_ ?_
      rotate_left
      ·rintro w' ⟨s0, s1, s2⟩
       go_simp
       with_reducible rfl
      rotate_left
      ·simp only [Act.put, List.setIfInBounds_toArray, List.set_cons_zero, List.set_cons_succ, i64_w, i32_w]
       rfl
      refine take_ (i := 14) (N := some 34) (v := ?_) (a' := ?_) (vb 32255 19) rfl rfl (take_ofW HT_.out HW_.out (by kernel_rfl)) (fun _ _ _ h => h) (Or.inl ⟨by rfl, ?_⟩) hHeld ?_ ?_
      rotate_left
      ·rintro w' ⟨s0, s1, s2⟩
       go_simp
       with_reducible rfl
      rotate_left
      ·simp only [Act.put, List.setIfInBounds_toArray, List.set_cons_zero, List.set_cons_succ, i64_w, i32_w]
       rfl
      refine join_ (σ := Nat) 1 (vb 262143 19) (fun s_ => [(29, .int .u64 t433), (35, .int .u64 t435), (10, .pointer (some ⟨s_, 0, none⟩)), (36, .agg #[.string (rdOf ByteArray.empty t428 x9_1), .int .u64 t433, .int .u64 t435])]) (fun s_ w' => (w'.cell? (ad431.add (x9_1).toNat) = some (.string (rdOf ByteArray.empty t428 x9_1)) ∧ w'.cell? (ad431.add (x9_1).toNat) = some (.string (rdOf ByteArray.empty t428 x9_1)) ∧ w'.cell? (ad431.add (x9_1).toNat) = some (.string (rdOf ByteArray.empty t428 x9_1))) ∧ (Kd.R k55 55 w' w.heap.size (fun k_ => k_ ≠ s_) u7 x7_1) ∧ (Kd.R Kd.string 9 w' w.heap.size (fun _ => True) (.slice (some ad431) t428.length co11) t428) ∧ (w'.heap[s_]? = some (.cells #[.string (⟨#[]⟩ : ByteArray), .int .u64 0, .int .u64 0] 55 (0, 0))) ∧ (w.heap.size ≤ s_) ∧ (w.heap.size ≤ s_) ∧ (Below w.heap.size w w')) ?_ ?_
      rotate_left
      ·intro hCont
       refine two_ (i := 9) (j := 17) (Ni := some 29) (Nj := some 10) (vb 32767 19) (vb 163327 19) rfl rfl rfl rfl (two_of HT_.out (by kernel_rfl)) (by decide) (by decide) (fun K hK => ?_) (fun K hK => ?_)
       ·skip
        refine goes_ Try.func32 (by kernel_rfl) rfl #[.slice A0 l0.length c0, .string (rdOf ByteArray.empty t428 x9_1)] (by rfl) rfl rfl (by (try simp only [List.map_toArray, List.map_cons, List.map_nil]); first | done | rfl | (simp only [List.length_drop, List.length_take]; rfl)) ?_
        with_reducible refine (forebearref10_blob.calls k1 _ _ l0 (rdOf ByteArray.empty t428 x9_1) t433 _ ?side1 ?side2 A8.out).mono ?_
        (case side1 => repeat (first | exact (Kd.C_below HR0.out HB.out) | (with_reducible refine Kd.C_alloc ?_ _) | (with_reducible refine Kd.C_drewN ?_ _) | (with_reducible refine Kd.C_drew ?_)))
        (case side2 => exact HC0.out)
        rintro e w' ⟨rfl, ⟨nd, rfl⟩⟩
        refine ⟨_, rfl, ?_⟩
        refine hK.out _ _ ⟨hHeld.1, hHeld.2.1, hHeld.2.2⟩ (fun hHeld => ?_)
        clear hK K
        refine norm_ (a' := ?_) ?_ ?_
        rotate_left
        ·show Act.put _ (some 29) _ = _
         simp only [Act.put, List.setIfInBounds_toArray, List.set_cons_zero, List.set_cons_succ, i64_w, i32_w]
         rfl
        refine two_ (i := 15) (j := 17) (Ni := some 35) (Nj := some 10) (vb 65535 19) (vb 163839 19) rfl rfl rfl rfl (two_of HT_.out (by kernel_rfl)) (by decide) (by decide) (fun K hK => ?_) (fun K hK => ?_)
        ·skip
         refine goes_ Try.func32 (by kernel_rfl) rfl #[.slice A1 l1.length c1, .string (rdOf ByteArray.empty t428 x9_1)] (by rfl) rfl rfl (by (try simp only [List.map_toArray, List.map_cons, List.map_nil]); first | done | rfl | (simp only [List.length_drop, List.length_take]; rfl)) ?_
         with_reducible refine (forebearref10_blob.calls k1 _ _ l1 (rdOf ByteArray.empty t428 x9_1) t435 _ ?side1 ?side2 A9.out).mono ?_
         (case side1 => repeat (first | exact (Kd.C_below HR1.out (by repeat (first | (with_reducible first | exact HB.out | apply below_alloc | apply pw_below_drewN | apply below_drew1) | exact HB.out))) | (with_reducible refine Kd.C_alloc ?_ _) | (with_reducible refine Kd.C_drewN ?_ _) | (with_reducible refine Kd.C_drew ?_)))
         (case side2 => exact HC1.out)
         rintro e w' ⟨rfl, ⟨nd, rfl⟩⟩
         refine ⟨_, rfl, ?_⟩
         refine hK.out _ _ ⟨hHeld.1, hHeld.2.1, hHeld.2.2⟩ (fun hHeld => ?_)
         clear hK K
         refine norm_ (a' := ?_) ?_ ?_
         rotate_left
         ·show Act.put _ (some 35) _ = _
          simp only [Act.put, List.setIfInBounds_toArray, List.set_cons_zero, List.set_cons_succ, i64_w, i32_w]
          rfl
         refine pure_ (i := 16) (N := some 36) (v := ?_) (a' := ?_) (vb 131071 19) rfl rfl (any_of HT_.out (by kernel_rfl)) (fun _ _ _ h => h) (Or.inl ⟨by rfl, ?_⟩) ?_ ?_
         rotate_left
         ·intro w'
          go_simp
          with_reducible rfl
         rotate_left
         ·simp only [Act.put, List.setIfInBounds_toArray, List.set_cons_zero, List.set_cons_succ, i64_w, i32_w]
          rfl
         refine one_ (i := 17) (N := some 10) (vb 262143 19) rfl rfl (one_of HT_.out (by kernel_rfl)) (by decide) (fun K hK => ?_)
         refine box_step ?hg (N := 10) ?hd (cs := #[.string (⟨#[]⟩ : ByteArray), .int .u64 0, .int .u64 0]) (t := 55) ?hr ?_; (case hd => rfl); (case hg => rfl); (case hr => first | (go_simp; done) | (go_simp; rfl))
         intro gb436 hg w13 hbox hb
         have HS0_ := (hb.cell (World.block_lt_of_cell? _ _ (hHeld.1))).trans (hHeld.1)
         have HS1_ := (hb.cell (World.block_lt_of_cell? _ _ (hHeld.2.1))).trans (hHeld.2.1)
         have HS2_ := (hb.cell (World.block_lt_of_cell? _ _ (hHeld.2.2))).trans (hHeld.2.2)
         have n0_ := Aside0.mk (Kd.R_below (Kd.R_elderB (by (with_reducible repeat (first | apply Kd.R_alloc | apply Kd.R_drewN | apply Kd.R_drew)); exact HO_7.out) gb436 (Nat.le_of_eq hg.symm)) hb)
         have n1_ := Aside0.mk (Kd.R_below (by (with_reducible repeat (first | apply Kd.R_alloc | apply Kd.R_drewN | apply Kd.R_drew)); exact HO_8.out) hb)
         have n2_ := Aside0.mk (below_step (by repeat (first | (with_reducible first | exact HB.out | apply below_alloc | apply pw_below_drewN | apply below_drew1) | exact HB.out)) hb)
         have n3_ := Aside0.mk (hbox)
         have n4_ := Aside0.mk ((by rw [hg]; exact (below_size (by repeat (first | (with_reducible first | exact HB.out | apply below_alloc | apply pw_below_drewN | apply below_drew1) | exact HB.out))) : w.heap.size ≤ gb436))
         have n5_ := Aside0.mk ((by rw [hg]; exact (below_size (by repeat (first | (with_reducible first | exact HB.out | apply below_alloc | apply pw_below_drewN | apply below_drew1) | exact HB.out))) : w.heap.size ≤ gb436))
         clear HO_7
         clear HO_8
         clear HB
         have HO_7 := n0_
         have HO_8 := n1_
         have HB := n2_
         have BK436 := n3_
         have GW436 := n4_
         have GE436 := n5_
         clear n0_ n1_ n2_ n3_ n4_ n5_
         clear hb hbox hg
         refine hK.out _ _ ⟨HS0_, HS1_, HS2_⟩ (fun hHeld => ?_)
         clear hK K
         refine norm_ (a' := ?_) ?_ ?_
         rotate_left
         ·show Act.put _ (some 10) _ = _
          simp only [Act.put, List.setIfInBounds_toArray, List.set_cons_zero, List.set_cons_succ, i64_w, i32_w]
          rfl
         exact norm_ (by simp only [putAll, Act.put, List.setIfInBounds_toArray, List.set_cons_zero, List.set_cons_succ]) (hCont (gb436) _ ⟨hHeld, (by (with_reducible repeat (first | apply Kd.R_alloc | apply Kd.R_drewN | apply Kd.R_drew)); exact Kd.R_mono HO_7.out (fun _ hk => hk.2)), (by (with_reducible repeat (first | apply Kd.R_alloc | apply Kd.R_drewN | apply Kd.R_drew)); exact HO_8.out), (by (with_reducible repeat (first | refine blk_drewN ?_ _ | refine blk_drew ?_ | refine blk_alloc ?_ _)); exact BK436.out), GW436.out, GE436.out, (by repeat (first | (with_reducible first | exact HB.out | apply below_alloc | apply pw_below_drewN | apply below_drew1 | refine below_set ?_ GE436.out) | exact HB.out))⟩)
        ·skip
         refine box_step ?hg (N := 10) ?hd (cs := #[.string (⟨#[]⟩ : ByteArray), .int .u64 0, .int .u64 0]) (t := 55) ?hr ?_; (case hd => rfl); (case hg => rfl); (case hr => first | (go_simp; done) | (go_simp; rfl))
         intro gb436 hg w13 hbox hb
         have HS0_ := (hb.cell (World.block_lt_of_cell? _ _ (hHeld.1))).trans (hHeld.1)
         have HS1_ := (hb.cell (World.block_lt_of_cell? _ _ (hHeld.2.1))).trans (hHeld.2.1)
         have HS2_ := (hb.cell (World.block_lt_of_cell? _ _ (hHeld.2.2))).trans (hHeld.2.2)
         have n0_ := Aside0.mk (Kd.R_below (Kd.R_elderB (by (with_reducible repeat (first | apply Kd.R_alloc | apply Kd.R_drewN | apply Kd.R_drew)); exact HO_7.out) gb436 (Nat.le_of_eq hg.symm)) hb)
         have n1_ := Aside0.mk (Kd.R_below (by (with_reducible repeat (first | apply Kd.R_alloc | apply Kd.R_drewN | apply Kd.R_drew)); exact HO_8.out) hb)
         have n2_ := Aside0.mk (below_step (by repeat (first | (with_reducible first | exact HB.out | apply below_alloc | apply pw_below_drewN | apply below_drew1) | exact HB.out)) hb)
         have n3_ := Aside0.mk (hbox)
         have n4_ := Aside0.mk ((by rw [hg]; exact (below_size (by repeat (first | (with_reducible first | exact HB.out | apply below_alloc | apply pw_below_drewN | apply below_drew1) | exact HB.out))) : w.heap.size ≤ gb436))
         have n5_ := Aside0.mk ((by rw [hg]; exact (below_size (by repeat (first | (with_reducible first | exact HB.out | apply below_alloc | apply pw_below_drewN | apply below_drew1) | exact HB.out))) : w.heap.size ≤ gb436))
         clear HO_7
         clear HO_8
         clear HB
         have HO_7 := n0_
         have HO_8 := n1_
         have HB := n2_
         have BK436 := n3_
         have GW436 := n4_
         have GE436 := n5_
         clear n0_ n1_ n2_ n3_ n4_ n5_
         clear hb hbox hg
         refine hK.out _ _ ⟨HS0_, HS1_, HS2_⟩ (fun hHeld => ?_)
         clear hK K
         refine norm_ (a' := ?_) ?_ ?_
         rotate_left
         ·show Act.put _ (some 10) _ = _
          simp only [Act.put, List.setIfInBounds_toArray, List.set_cons_zero, List.set_cons_succ, i64_w, i32_w]
          rfl
         refine one_ (i := 15) (N := some 35) (vb 196607 19) rfl rfl (one_of HT_.out (by kernel_rfl)) (by decide) (fun K hK => ?_)
         refine goes_ Try.func32 (by kernel_rfl) rfl #[.slice A1 l1.length c1, .string (rdOf ByteArray.empty t428 x9_1)] (by rfl) rfl rfl (by (try simp only [List.map_toArray, List.map_cons, List.map_nil]); first | done | rfl | (simp only [List.length_drop, List.length_take]; rfl)) ?_
         with_reducible refine (forebearref10_blob.calls k1 _ _ l1 (rdOf ByteArray.empty t428 x9_1) t435 _ ?side1 ?side2 A9.out).mono ?_
         (case side1 => repeat (first | exact (Kd.C_below HR1.out HB.out) | (with_reducible refine Kd.C_alloc ?_ _) | (with_reducible refine Kd.C_drewN ?_ _) | (with_reducible refine Kd.C_drew ?_)))
         (case side2 => exact HC1.out)
         rintro e w' ⟨rfl, ⟨nd, rfl⟩⟩
         refine ⟨_, rfl, ?_⟩
         refine hK.out _ _ ⟨hHeld.1, hHeld.2.1, hHeld.2.2⟩ (fun hHeld => ?_)
         clear hK K
         refine norm_ (a' := ?_) ?_ ?_
         rotate_left
         ·show Act.put _ (some 35) _ = _
          simp only [Act.put, List.setIfInBounds_toArray, List.set_cons_zero, List.set_cons_succ, i64_w, i32_w]
          rfl
         refine pure_ (i := 16) (N := some 36) (v := ?_) (a' := ?_) (vb 262143 19) rfl rfl (any_of HT_.out (by kernel_rfl)) (fun _ _ _ h => h) (Or.inl ⟨by rfl, ?_⟩) ?_ ?_
         rotate_left
         ·intro w'
          go_simp
          with_reducible rfl
         rotate_left
         ·simp only [Act.put, List.setIfInBounds_toArray, List.set_cons_zero, List.set_cons_succ, i64_w, i32_w]
          rfl
         exact norm_ (by simp only [putAll, Act.put, List.setIfInBounds_toArray, List.set_cons_zero, List.set_cons_succ]) (hCont (gb436) _ ⟨hHeld, (by (with_reducible repeat (first | apply Kd.R_alloc | apply Kd.R_drewN | apply Kd.R_drew)); exact Kd.R_mono HO_7.out (fun _ hk => hk.2)), (by (with_reducible repeat (first | apply Kd.R_alloc | apply Kd.R_drewN | apply Kd.R_drew)); exact HO_8.out), (by (with_reducible repeat (first | refine blk_drewN ?_ _ | refine blk_drew ?_ | refine blk_alloc ?_ _)); exact BK436.out), GW436.out, GE436.out, (by repeat (first | (with_reducible first | exact HB.out | apply below_alloc | apply pw_below_drewN | apply below_drew1 | refine below_set ?_ GE436.out) | exact HB.out))⟩)
       ·skip
        refine box_step ?hg (N := 10) ?hd (cs := #[.string (⟨#[]⟩ : ByteArray), .int .u64 0, .int .u64 0]) (t := 55) ?hr ?_; (case hd => rfl); (case hg => rfl); (case hr => first | (go_simp; done) | (go_simp; rfl))
        intro gb436 hg w13 hbox hb
        have HS0_ := (hb.cell (World.block_lt_of_cell? _ _ (hHeld.1))).trans (hHeld.1)
        have HS1_ := (hb.cell (World.block_lt_of_cell? _ _ (hHeld.2.1))).trans (hHeld.2.1)
        have HS2_ := (hb.cell (World.block_lt_of_cell? _ _ (hHeld.2.2))).trans (hHeld.2.2)
        have n0_ := Aside0.mk (Kd.R_below (Kd.R_elderB (by (with_reducible repeat (first | apply Kd.R_alloc | apply Kd.R_drewN | apply Kd.R_drew)); exact HO_7.out) gb436 (Nat.le_of_eq hg.symm)) hb)
        have n1_ := Aside0.mk (Kd.R_below (by (with_reducible repeat (first | apply Kd.R_alloc | apply Kd.R_drewN | apply Kd.R_drew)); exact HO_8.out) hb)
        have n2_ := Aside0.mk (below_step (by repeat (first | (with_reducible first | exact HB.out | apply below_alloc | apply pw_below_drewN | apply below_drew1) | exact HB.out)) hb)
        have n3_ := Aside0.mk (hbox)
        have n4_ := Aside0.mk ((by rw [hg]; exact (below_size (by repeat (first | (with_reducible first | exact HB.out | apply below_alloc | apply pw_below_drewN | apply below_drew1) | exact HB.out))) : w.heap.size ≤ gb436))
        have n5_ := Aside0.mk ((by rw [hg]; exact (below_size (by repeat (first | (with_reducible first | exact HB.out | apply below_alloc | apply pw_below_drewN | apply below_drew1) | exact HB.out))) : w.heap.size ≤ gb436))
        clear HO_7
        clear HO_8
        clear HB
        have HO_7 := n0_
        have HO_8 := n1_
        have HB := n2_
        have BK436 := n3_
        have GW436 := n4_
        have GE436 := n5_
        clear n0_ n1_ n2_ n3_ n4_ n5_
        clear hb hbox hg
        refine hK.out _ _ ⟨HS0_, HS1_, HS2_⟩ (fun hHeld => ?_)
        clear hK K
        refine norm_ (a' := ?_) ?_ ?_
        rotate_left
        ·show Act.put _ (some 10) _ = _
         simp only [Act.put, List.setIfInBounds_toArray, List.set_cons_zero, List.set_cons_succ, i64_w, i32_w]
         rfl
        refine one_ (i := 9) (N := some 29) (vb 163839 19) rfl rfl (one_of HT_.out (by kernel_rfl)) (by decide) (fun K hK => ?_)
        refine goes_ Try.func32 (by kernel_rfl) rfl #[.slice A0 l0.length c0, .string (rdOf ByteArray.empty t428 x9_1)] (by rfl) rfl rfl (by (try simp only [List.map_toArray, List.map_cons, List.map_nil]); first | done | rfl | (simp only [List.length_drop, List.length_take]; rfl)) ?_
        with_reducible refine (forebearref10_blob.calls k1 _ _ l0 (rdOf ByteArray.empty t428 x9_1) t433 _ ?side1 ?side2 A8.out).mono ?_
        (case side1 => repeat (first | exact (Kd.C_below HR0.out HB.out) | (with_reducible refine Kd.C_alloc ?_ _) | (with_reducible refine Kd.C_drewN ?_ _) | (with_reducible refine Kd.C_drew ?_)))
        (case side2 => exact HC0.out)
        rintro e w' ⟨rfl, ⟨nd, rfl⟩⟩
        refine ⟨_, rfl, ?_⟩
        refine hK.out _ _ ⟨hHeld.1, hHeld.2.1, hHeld.2.2⟩ (fun hHeld => ?_)
        clear hK K
        refine norm_ (a' := ?_) ?_ ?_
        rotate_left
        ·show Act.put _ (some 29) _ = _
         simp only [Act.put, List.setIfInBounds_toArray, List.set_cons_zero, List.set_cons_succ, i64_w, i32_w]
         rfl
        refine one_ (i := 15) (N := some 35) (vb 196607 19) rfl rfl (one_of HT_.out (by kernel_rfl)) (by decide) (fun K hK => ?_)
        refine goes_ Try.func32 (by kernel_rfl) rfl #[.slice A1 l1.length c1, .string (rdOf ByteArray.empty t428 x9_1)] (by rfl) rfl rfl (by (try simp only [List.map_toArray, List.map_cons, List.map_nil]); first | done | rfl | (simp only [List.length_drop, List.length_take]; rfl)) ?_
        with_reducible refine (forebearref10_blob.calls k1 _ _ l1 (rdOf ByteArray.empty t428 x9_1) t435 _ ?side1 ?side2 A9.out).mono ?_
        (case side1 => repeat (first | exact (Kd.C_below HR1.out (by repeat (first | (with_reducible first | exact HB.out | apply below_alloc | apply pw_below_drewN | apply below_drew1 | refine below_set ?_ GE436.out) | exact HB.out))) | (with_reducible refine Kd.C_alloc ?_ _) | (with_reducible refine Kd.C_drewN ?_ _) | (with_reducible refine Kd.C_drew ?_)))
        (case side2 => exact HC1.out)
        rintro e w' ⟨rfl, ⟨nd, rfl⟩⟩
        refine ⟨_, rfl, ?_⟩
        refine hK.out _ _ ⟨hHeld.1, hHeld.2.1, hHeld.2.2⟩ (fun hHeld => ?_)
        clear hK K
        refine norm_ (a' := ?_) ?_ ?_
        rotate_left
        ·show Act.put _ (some 35) _ = _
         simp only [Act.put, List.setIfInBounds_toArray, List.set_cons_zero, List.set_cons_succ, i64_w, i32_w]
         rfl
        refine pure_ (i := 16) (N := some 36) (v := ?_) (a' := ?_) (vb 262143 19) rfl rfl (any_of HT_.out (by kernel_rfl)) (fun _ _ _ h => h) (Or.inl ⟨by rfl, ?_⟩) ?_ ?_
        rotate_left
        ·intro w'
         go_simp
         with_reducible rfl
        rotate_left
        ·simp only [Act.put, List.setIfInBounds_toArray, List.set_cons_zero, List.set_cons_succ, i64_w, i32_w]
         rfl
        exact norm_ (by simp only [putAll, Act.put, List.setIfInBounds_toArray, List.set_cons_zero, List.set_cons_succ]) (hCont (gb436) _ ⟨hHeld, (by (with_reducible repeat (first | apply Kd.R_alloc | apply Kd.R_drewN | apply Kd.R_drew)); exact Kd.R_mono HO_7.out (fun _ hk => hk.2)), (by (with_reducible repeat (first | apply Kd.R_alloc | apply Kd.R_drewN | apply Kd.R_drew)); exact HO_8.out), (by (with_reducible repeat (first | refine blk_drewN ?_ _ | refine blk_drew ?_ | refine blk_alloc ?_ _)); exact BK436.out), GW436.out, GE436.out, (by repeat (first | (with_reducible first | exact HB.out | apply below_alloc | apply pw_below_drewN | apply below_drew1 | refine below_set ?_ GE436.out) | exact HB.out))⟩)
      rintro gb436 w14 ⟨hS_, h0_, h1_, h2_, h3_, h4_, h5_⟩
      have n0_ : Aside0 (Kd.R k55 55 w14 w.heap.size (fun k_ => k_ ≠ gb436) u7 x7_1) := ⟨h0_⟩
      have n1_ : Aside0 (Kd.R Kd.string 9 w14 w.heap.size (fun _ => True) (.slice (some ad431) t428.length co11) t428) := ⟨h1_⟩
      have n2_ : Aside0 (w14.heap[gb436]? = some (.cells #[.string (⟨#[]⟩ : ByteArray), .int .u64 0, .int .u64 0] 55 (0, 0))) := ⟨h2_⟩
      have n3_ : Aside0 (w.heap.size ≤ gb436) := ⟨h3_⟩
      have n4_ : Aside0 (w.heap.size ≤ gb436) := ⟨h4_⟩
      have n5_ : Aside0 (Below w.heap.size w w14) := ⟨h5_⟩
      clear HO_7
      clear HO_8
      clear HB
      clear h0_ h1_ h2_ h3_ h4_ h5_
      have HO_7 := n0_
      have HO_8 := n1_
      have BK436 := n2_
      have GW436 := n3_
      have GE436 := n4_
      have HB := n5_
      clear n0_ n1_ n2_ n3_ n4_ n5_
      have hHeld : w14.cell? (ad431.add (x9_1).toNat) = some (.string (rdOf ByteArray.empty t428 x9_1)) ∧ w14.cell? (ad431.add (x9_1).toNat) = some (.string (rdOf ByteArray.empty t428 x9_1)) ∧ w14.cell? (ad431.add (x9_1).toNat) = some (.string (rdOf ByteArray.empty t428 x9_1)) := hS_
      refine norm_ (a' := ?_) ?_ ?_
      rotate_left
      ·simp only [putAll, Act.put, List.setIfInBounds_toArray, List.set_cons_zero, List.set_cons_succ]
       rfl
      refine one_ (i := 18) (N := none) (vb 524287 19) rfl rfl (one_of HT_.out (by kernel_rfl)) (by decide) (fun K hK => ?_)
      have hs15 : w14.cell? ⟨gb436, 0, none⟩ = some (.string (⟨#[]⟩ : ByteArray)) := (blk_cell BK436.out 0).trans rfl
      have hfs15 := blk_frozen BK436.out 0
      have hs16 : w14.cell? ⟨gb436, 1, none⟩ = some (.int .u64 0) := (blk_cell BK436.out 1).trans rfl
      have hfs16 := blk_frozen BK436.out 1
      have hs17 : w14.cell? ⟨gb436, 2, none⟩ = some (.int .u64 0) := (blk_cell BK436.out 2).trans rfl
      have hfs17 := blk_frozen BK436.out 2
      refine skip_ (w1 := ?_) (by rfl) rfl ?_ ?_
      rotate_left
      ·go_simp
       rfl
      refine hK.out _ _ ⟨((cell_far (p := ⟨gb436, _, none⟩) (by first | exact Kd.own_blk (Kd.R_ne HO_8.out BK436.out (by decide)) | (rw [add_block]; exact Kd.own_blk (Kd.R_ne HO_8.out BK436.out (by decide))) | (show (Addr.add _ _).block ≠ _; rw [add_block]; exact Kd.own_blk (Kd.R_ne HO_8.out BK436.out (by decide))) | (dsimp only; exact Kd.own_blk (Kd.R_ne HO_8.out BK436.out (by decide)))) _).trans (((cell_far (p := ⟨gb436, _, none⟩) (by first | exact Kd.own_blk (Kd.R_ne HO_8.out BK436.out (by decide)) | (rw [add_block]; exact Kd.own_blk (Kd.R_ne HO_8.out BK436.out (by decide))) | (show (Addr.add _ _).block ≠ _; rw [add_block]; exact Kd.own_blk (Kd.R_ne HO_8.out BK436.out (by decide))) | (dsimp only; exact Kd.own_blk (Kd.R_ne HO_8.out BK436.out (by decide)))) _).trans (((cell_far (p := ⟨gb436, _, none⟩) (by first | exact Kd.own_blk (Kd.R_ne HO_8.out BK436.out (by decide)) | (rw [add_block]; exact Kd.own_blk (Kd.R_ne HO_8.out BK436.out (by decide))) | (show (Addr.add _ _).block ≠ _; rw [add_block]; exact Kd.own_blk (Kd.R_ne HO_8.out BK436.out (by decide))) | (dsimp only; exact Kd.own_blk (Kd.R_ne HO_8.out BK436.out (by decide)))) _).trans (hHeld.1)))))), ((cell_far (p := ⟨gb436, _, none⟩) (by first | exact Kd.own_blk (Kd.R_ne HO_8.out BK436.out (by decide)) | (rw [add_block]; exact Kd.own_blk (Kd.R_ne HO_8.out BK436.out (by decide))) | (show (Addr.add _ _).block ≠ _; rw [add_block]; exact Kd.own_blk (Kd.R_ne HO_8.out BK436.out (by decide))) | (dsimp only; exact Kd.own_blk (Kd.R_ne HO_8.out BK436.out (by decide)))) _).trans (((cell_far (p := ⟨gb436, _, none⟩) (by first | exact Kd.own_blk (Kd.R_ne HO_8.out BK436.out (by decide)) | (rw [add_block]; exact Kd.own_blk (Kd.R_ne HO_8.out BK436.out (by decide))) | (show (Addr.add _ _).block ≠ _; rw [add_block]; exact Kd.own_blk (Kd.R_ne HO_8.out BK436.out (by decide))) | (dsimp only; exact Kd.own_blk (Kd.R_ne HO_8.out BK436.out (by decide)))) _).trans (((cell_far (p := ⟨gb436, _, none⟩) (by first | exact Kd.own_blk (Kd.R_ne HO_8.out BK436.out (by decide)) | (rw [add_block]; exact Kd.own_blk (Kd.R_ne HO_8.out BK436.out (by decide))) | (show (Addr.add _ _).block ≠ _; rw [add_block]; exact Kd.own_blk (Kd.R_ne HO_8.out BK436.out (by decide))) | (dsimp only; exact Kd.own_blk (Kd.R_ne HO_8.out BK436.out (by decide)))) _).trans (hHeld.2.1)))))), ((cell_far (p := ⟨gb436, _, none⟩) (by first | exact Kd.own_blk (Kd.R_ne HO_8.out BK436.out (by decide)) | (rw [add_block]; exact Kd.own_blk (Kd.R_ne HO_8.out BK436.out (by decide))) | (show (Addr.add _ _).block ≠ _; rw [add_block]; exact Kd.own_blk (Kd.R_ne HO_8.out BK436.out (by decide))) | (dsimp only; exact Kd.own_blk (Kd.R_ne HO_8.out BK436.out (by decide)))) _).trans (((cell_far (p := ⟨gb436, _, none⟩) (by first | exact Kd.own_blk (Kd.R_ne HO_8.out BK436.out (by decide)) | (rw [add_block]; exact Kd.own_blk (Kd.R_ne HO_8.out BK436.out (by decide))) | (show (Addr.add _ _).block ≠ _; rw [add_block]; exact Kd.own_blk (Kd.R_ne HO_8.out BK436.out (by decide))) | (dsimp only; exact Kd.own_blk (Kd.R_ne HO_8.out BK436.out (by decide)))) _).trans (((cell_far (p := ⟨gb436, _, none⟩) (by first | exact Kd.own_blk (Kd.R_ne HO_8.out BK436.out (by decide)) | (rw [add_block]; exact Kd.own_blk (Kd.R_ne HO_8.out BK436.out (by decide))) | (show (Addr.add _ _).block ≠ _; rw [add_block]; exact Kd.own_blk (Kd.R_ne HO_8.out BK436.out (by decide))) | (dsimp only; exact Kd.own_blk (Kd.R_ne HO_8.out BK436.out (by decide)))) _).trans (hHeld.2.2))))))⟩ (fun hHeld => ?_)
      clear hK K
      refine done_ (done_of HT_.out (by kernel_rfl)) ?_
      have hcz18_0 : w14.cell? ⟨gb436, 0, none⟩ = some (.string (⟨#[]⟩ : ByteArray)) := (blk_cell BK436.out 0).trans rfl
      have hcz18_1 : w14.cell? ⟨gb436, 1, none⟩ = some (.int .u64 0) := (blk_cell BK436.out 1).trans rfl
      have hcz18_2 : w14.cell? ⟨gb436, 2, none⟩ = some (.int .u64 0) := (blk_cell BK436.out 2).trans rfl
      have hfz18_0 := blk_frozen BK436.out 0
      have hfz18_1 := blk_frozen BK436.out 1
      have hfz18_2 := blk_frozen BK436.out 2
      try go_wp2
      go_roundg k1
      case measure => have := HK1.out; omega
      case rel => exact ⟨(x7_1), (wrap64 (x9_1 + 1)), (by first | rfl | (simp; done) | (simp [*]; done)), H', ⟨by have := HK1.out; omega⟩, ⟨by (with_reducible repeat (first | apply Kd.R_alloc | apply Kd.R_drewN | apply Kd.R_drew)); exact Kd.R_mono (Kd.R_far (p := ⟨gb436, 2, none⟩) (Kd.R_far (p := ⟨gb436, 1, none⟩) (Kd.R_far (p := ⟨gb436, 0, none⟩) (Kd.R_mono HO_7.out (fun k_ hk => (⟨hk, hk⟩ : _ ∧ k_ ≠ gb436))) (fun _ hk => hk.2) (.string (rdOf ByteArray.empty t428 x9_1))) (fun _ hk => hk.2) (.int .u64 t433)) (fun _ hk => hk.2) (.int .u64 t435)) (fun _ hk => trivial)⟩, ⟨by (with_reducible repeat (first | apply Kd.R_alloc | apply Kd.R_drewN | apply Kd.R_drew)); exact Kd.R_mono (Kd.R_far (p := ⟨gb436, 2, none⟩) (Kd.R_far (p := ⟨gb436, 1, none⟩) (Kd.R_far (p := ⟨gb436, 0, none⟩) (Kd.R_types HO_8.out BK436.out (by decide)) (fun _ hk => hk.2) (.string (rdOf ByteArray.empty t428 x9_1))) (fun _ hk => hk.2) (.int .u64 t433)) (fun _ hk => hk.2) (.int .u64 t435)) (fun _ hk => trivial)⟩, ⟨by repeat (first | (with_reducible first | exact HB.out | apply below_alloc | apply pw_below_drewN | apply below_drew1 | refine below_set ?_ GE436.out) | exact HB.out)⟩⟩
     ·rw [if_neg c10] at H
      have c10b0 : (t433 == t435) = false := beq_eq_false_iff_ne.mpr c10
      have c10b1 : (t433 != t435) = true := bne_iff_ne.mpr c10
      replace H := Option.bind_eq_some_iff.mp H
      obtain ⟨t438, A190, H⟩ := H
      replace H : (if t438 = true then (if x7_1.length < 4398046511104 then (forebearref10_Diff.l0 k1 l0 l1 l2 (x7_1 ++ [(⟨rdOf ByteArray.empty t428 x9_1, t433, t435⟩ : S55)]) t428 (wrap64 (x9_1 + 1))) else (none)) else (forebearref10_Diff.l0 k1 l0 l1 l2 x7_1 t428 (wrap64 (x9_1 + 1)))) = some r := H
      have A19 := Aside0.mk A190
      clear A190
      by_cases c20 : t438 = true
      ·subst c20
       have H1 : (if x7_1.length < 4398046511104 then (forebearref10_Diff.l0 k1 l0 l1 l2 (x7_1 ++ [(⟨rdOf ByteArray.empty t428 x9_1, t433, t435⟩ : S55)]) t428 (wrap64 (x9_1 + 1))) else (none)) = some r := by rw [if_pos rfl] at H; exact H
       clear H
       have H := H1
       clear H1
       by_cases c21 : x7_1.length < 4398046511104
       ·rw [if_pos c21] at H
        have LMc21 := Aside0.mk c21
        clear c21
        obtain ⟨y439, hy439⟩ : ∃ y_ : List (S55), y_ = (x7_1 ++ [(⟨rdOf ByteArray.empty t428 x9_1, t433, t435⟩ : S55)]) := ⟨_, rfl⟩
        replace H : (forebearref10_Diff.l0 k1 l0 l1 l2 y439 t428 (wrap64 (x9_1 + 1))) = some r := by first | (rw [hy439]; with_reducible exact H) | (have H2_ := (Option.bind_some _ _).symm.trans H; rw [hy439]; with_reducible exact H2_) | (have H2_ := (Option.bind_some _ _).symm.trans H; with_reducible exact H2_) | with_reducible exact H | (rw [hy439]; exact H) | exact H
        have Ny439 := Aside0.mk hy439
        clear hy439
        have H' := Aside0.mk H
        clear H
        obtain ⟨Ao22, co22, eo22⟩ := Kd.R_slice HO_8.out
        subst eo22
        try go_wp2
        have n0_ := Aside0.mk (Kd.R_drew HO_7.out)
        have n1_ := Aside0.mk (Kd.R_drew HO_8.out)
        have n2_ := Aside0.mk (below_drew1 HB.out)
        clear HO_7
        clear HO_8
        clear HB
        have HO_7 := n0_
        have HO_8 := n1_
        have HB := n2_
        clear n0_ n1_ n2_
        have p431 : 0 ≤ (x9_1 : Int) := of_decide_eq_true (by first | (with_reducible assumption) | assumption)
        have q431 : x9_1 < (t428.length : Int) := of_decide_eq_true (by first | (with_reducible assumption) | assumption)
        obtain ⟨ad431, e431, hx431_0⟩ := Kd.at_string (Kd.R_reads' HO_8.out).2.2 x9_1 p431 q431
        cases e431
        replace p431 := eq_true p431
        replace q431 := eq_true q431
        have p432 : 0 ≤ (x9_1 : Int) := of_decide_eq_true (by first | (with_reducible assumption) | assumption)
        have q432 : x9_1 < (t428.length : Int) := of_decide_eq_true (by first | (with_reducible assumption) | assumption)
        obtain ⟨ad432, e432, hx432_0⟩ := Kd.at_string (Kd.R_reads' HO_8.out).2.2 x9_1 p432 q432
        obtain rfl : ad431 = ad432 := (by injection e432)
        replace p432 := eq_true p432
        replace q432 := eq_true q432
        have p434 : 0 ≤ (x9_1 : Int) := of_decide_eq_true (by first | (with_reducible assumption) | assumption)
        have q434 : x9_1 < (t428.length : Int) := of_decide_eq_true (by first | (with_reducible assumption) | assumption)
        obtain ⟨ad434, e434, hx434_0⟩ := Kd.at_string (Kd.R_reads' HO_8.out).2.2 x9_1 p434 q434
        obtain rfl : ad431 = ad434 := (by injection e434)
        replace p434 := eq_true p434
        replace q434 := eq_true q434
        refine start_ (n := 19) (S := fun w' => w'.cell? (ad431.add (x9_1).toNat) = some (.string (rdOf ByteArray.empty t428 x9_1)) ∧ w'.cell? (ad431.add (x9_1).toNat) = some (.string (rdOf ByteArray.empty t428 x9_1)) ∧ w'.cell? (ad431.add (x9_1).toNat) = some (.string (rdOf ByteArray.empty t428 x9_1))) (ds := []) (vb 0 19) (by kernel_rfl) rfl rfl ⟨hx431_0, hx432_0, hx434_0⟩ (fun hHeld => ?_); refine with_tabW forebearref10_Diff.tab6 forebearref10_Diff.bits6 (fun HT_ HW_ => ?_)
        generalize wr.drew = w23 at HO_7 HO_8 HB hx431_0 hx432_0 hx434_0 hHeld ⊢
        refine pure_ (i := 0) (N := some 20) (v := ?_) (a' := ?_) (vb 1 19) rfl rfl (any_of HT_.out (by kernel_rfl)) (fun _ _ _ h => h) (Or.inl ⟨by rfl, ?_⟩) ?_ ?_
        rotate_left
        ·intro w'
         go_simp
         with_reducible rfl
        rotate_left
        ·simp only [Act.put, List.setIfInBounds_toArray, List.set_cons_zero, List.set_cons_succ, i64_w, i32_w]
         rfl
        refine pure_ (i := 1) (N := some 21) (v := ?_) (a' := ?_) (vb 3 19) rfl rfl (any_of HT_.out (by kernel_rfl)) (fun _ _ _ h => h) (Or.inl ⟨by rfl, ?_⟩) ?_ ?_
        rotate_left
        ·intro w'
         go_simp
         with_reducible rfl
        rotate_left
        ·simp only [Act.put, List.setIfInBounds_toArray, List.set_cons_zero, List.set_cons_succ, i64_w, i32_w]
         rfl
        refine pure_ (i := 2) (N := some 22) (v := ?_) (a' := ?_) (vb 7 19) rfl rfl (any_of HT_.out (by kernel_rfl)) (fun _ _ _ h => h) (Or.inl ⟨by rfl, ?_⟩) ?_ ?_
        rotate_left
        ·intro w'
         go_simp
         with_reducible rfl
        rotate_left
        ·simp only [Act.put, List.setIfInBounds_toArray, List.set_cons_zero, List.set_cons_succ, i64_w, i32_w]
         rfl
        refine pure_ (i := 4) (N := some 24) (v := ?_) (a' := ?_) (vb 23 19) rfl rfl (any_of HT_.out (by kernel_rfl)) (fun _ _ _ h => h) (Or.inl ⟨by rfl, ?_⟩) ?_ ?_
        rotate_left
        ·intro w'
         go_simp
         with_reducible rfl
        rotate_left
        ·simp only [Act.put, List.setIfInBounds_toArray, List.set_cons_zero, List.set_cons_succ, i64_w, i32_w]
         rfl
        refine pure_ (i := 5) (N := some 25) (v := ?_) (a' := ?_) (vb 55 19) rfl rfl (any_of HT_.out (by kernel_rfl)) (fun _ _ _ h => h) (Or.inl ⟨by rfl, ?_⟩) ?_ ?_
        rotate_left
        ·intro w'
         go_simp
         with_reducible rfl
        rotate_left
        ·simp only [Act.put, List.setIfInBounds_toArray, List.set_cons_zero, List.set_cons_succ, i64_w, i32_w]
         rfl
        refine pure_ (i := 6) (N := some 26) (v := ?_) (a' := ?_) (vb 119 19) rfl rfl (any_of HT_.out (by kernel_rfl)) (fun _ _ _ h => h) (Or.inl ⟨by rfl, ?_⟩) ?_ ?_
        rotate_left
        ·intro w'
         go_simp
         with_reducible rfl
        rotate_left
        ·simp only [Act.put, List.setIfInBounds_toArray, List.set_cons_zero, List.set_cons_succ, i64_w, i32_w]
         rfl
        refine pure_ (i := 7) (N := some 27) (v := ?_) (a' := ?_) (vb 247 19) rfl rfl (any_of HT_.out (by kernel_rfl)) (fun _ _ _ h => h) (Or.inl ⟨by rfl, ?_⟩) ?_ ?_
        rotate_left
        ·intro w'
         go_simp
         with_reducible rfl
        rotate_left
        ·simp only [Act.put, List.setIfInBounds_toArray, List.set_cons_zero, List.set_cons_succ, i64_w, i32_w]
         rfl
        refine pure_ (i := 10) (N := some 30) (v := ?_) (a' := ?_) (vb 1271 19) rfl rfl (any_of HT_.out (by kernel_rfl)) (fun _ _ _ h => h) (Or.inl ⟨by rfl, ?_⟩) ?_ ?_
        rotate_left
        ·intro w'
         go_simp
         with_reducible rfl
        rotate_left
        ·simp only [Act.put, List.setIfInBounds_toArray, List.set_cons_zero, List.set_cons_succ, i64_w, i32_w]
         rfl
        refine pure_ (i := 11) (N := some 31) (v := ?_) (a' := ?_) (vb 3319 19) rfl rfl (any_of HT_.out (by kernel_rfl)) (fun _ _ _ h => h) (Or.inl ⟨by rfl, ?_⟩) ?_ ?_
        rotate_left
        ·intro w'
         go_simp
         with_reducible rfl
        rotate_left
        ·simp only [Act.put, List.setIfInBounds_toArray, List.set_cons_zero, List.set_cons_succ, i64_w, i32_w]
         rfl
        refine pure_ (i := 12) (N := some 32) (v := ?_) (a' := ?_) (vb 7415 19) rfl rfl (any_of HT_.out (by kernel_rfl)) (fun _ _ _ h => h) (Or.inl ⟨by rfl, ?_⟩) ?_ ?_
        rotate_left
        ·intro w'
         go_simp
         with_reducible rfl
        rotate_left
        ·simp only [Act.put, List.setIfInBounds_toArray, List.set_cons_zero, List.set_cons_succ, i64_w, i32_w]
         rfl
        refine pure_ (i := 13) (N := some 33) (v := ?_) (a' := ?_) (vb 15607 19) rfl rfl (any_of HT_.out (by kernel_rfl)) (fun _ _ _ h => h) (Or.inl ⟨by rfl, ?_⟩) ?_ ?_
        rotate_left
        ·intro w'
         go_simp
         with_reducible rfl
        rotate_left
        ·simp only [Act.put, List.setIfInBounds_toArray, List.set_cons_zero, List.set_cons_succ, i64_w, i32_w]
         rfl
        refine take_ (i := 3) (N := some 23) (v := ?_) (a' := ?_) (vb 15615 19) rfl rfl (take_ofW HT_.out HW_.out (by kernel_rfl)) (fun _ _ _ h => h) (Or.inl ⟨by rfl, ?_⟩) hHeld ?_ ?_
        rotate_left
        ·rintro w' ⟨s0, s1, s2⟩
         go_simp
         with_reducible rfl
        rotate_left
        ·simp only [Act.put, List.setIfInBounds_toArray, List.set_cons_zero, List.set_cons_succ, i64_w, i32_w]
         rfl
        refine take_ (i := 8) (N := some 28) (v := ?_) (a' := ?_) (vb 15871 19) rfl rfl (take_ofW HT_.out HW_.out (by kernel_rfl)) (fun _ _ _ h => h) (Or.inl ⟨by rfl, ?_⟩) hHeld ?_ ?_
        rotate_left
        ·rintro w' ⟨s0, s1, s2⟩
         go_simp
         with_reducible rfl
        rotate_left
        ·simp only [Act.put, List.setIfInBounds_toArray, List.set_cons_zero, List.set_cons_succ, i64_w, i32_w]
         rfl
        refine take_ (i := 14) (N := some 34) (v := ?_) (a' := ?_) (vb 32255 19) rfl rfl (take_ofW HT_.out HW_.out (by kernel_rfl)) (fun _ _ _ h => h) (Or.inl ⟨by rfl, ?_⟩) hHeld ?_ ?_
        rotate_left
        ·rintro w' ⟨s0, s1, s2⟩
         go_simp
         with_reducible rfl
        rotate_left
        ·simp only [Act.put, List.setIfInBounds_toArray, List.set_cons_zero, List.set_cons_succ, i64_w, i32_w]
         rfl
        refine join_ (σ := Nat) 1 (vb 262143 19) (fun s_ => [(29, .int .u64 t433), (35, .int .u64 t435), (10, .pointer (some ⟨s_, 0, none⟩)), (36, .agg #[.string (rdOf ByteArray.empty t428 x9_1), .int .u64 t433, .int .u64 t435])]) (fun s_ w' => (w'.cell? (ad431.add (x9_1).toNat) = some (.string (rdOf ByteArray.empty t428 x9_1)) ∧ w'.cell? (ad431.add (x9_1).toNat) = some (.string (rdOf ByteArray.empty t428 x9_1)) ∧ w'.cell? (ad431.add (x9_1).toNat) = some (.string (rdOf ByteArray.empty t428 x9_1))) ∧ (Kd.R k55 55 w' w.heap.size (fun k_ => k_ ≠ s_) u7 x7_1) ∧ (Kd.R Kd.string 9 w' w.heap.size (fun _ => True) (.slice (some ad431) t428.length co22) t428) ∧ (w'.heap[s_]? = some (.cells #[.string (⟨#[]⟩ : ByteArray), .int .u64 0, .int .u64 0] 55 (0, 0))) ∧ (w.heap.size ≤ s_) ∧ (w.heap.size ≤ s_) ∧ (Below w.heap.size w w')) ?_ ?_
        rotate_left
        ·intro hCont
         refine two_ (i := 9) (j := 17) (Ni := some 29) (Nj := some 10) (vb 32767 19) (vb 163327 19) rfl rfl rfl rfl (two_of HT_.out (by kernel_rfl)) (by decide) (by decide) (fun K hK => ?_) (fun K hK => ?_)
         ·skip
          refine goes_ Try.func32 (by kernel_rfl) rfl #[.slice A0 l0.length c0, .string (rdOf ByteArray.empty t428 x9_1)] (by rfl) rfl rfl (by (try simp only [List.map_toArray, List.map_cons, List.map_nil]); first | done | rfl | (simp only [List.length_drop, List.length_take]; rfl)) ?_
          with_reducible refine (forebearref10_blob.calls k1 _ _ l0 (rdOf ByteArray.empty t428 x9_1) t433 _ ?side1 ?side2 A8.out).mono ?_
          (case side1 => repeat (first | exact (Kd.C_below HR0.out HB.out) | (with_reducible refine Kd.C_alloc ?_ _) | (with_reducible refine Kd.C_drewN ?_ _) | (with_reducible refine Kd.C_drew ?_)))
          (case side2 => exact HC0.out)
          rintro e w' ⟨rfl, ⟨nd, rfl⟩⟩
          refine ⟨_, rfl, ?_⟩
          refine hK.out _ _ ⟨hHeld.1, hHeld.2.1, hHeld.2.2⟩ (fun hHeld => ?_)
          clear hK K
          refine norm_ (a' := ?_) ?_ ?_
          rotate_left
          ·show Act.put _ (some 29) _ = _
           simp only [Act.put, List.setIfInBounds_toArray, List.set_cons_zero, List.set_cons_succ, i64_w, i32_w]
           rfl
          refine two_ (i := 15) (j := 17) (Ni := some 35) (Nj := some 10) (vb 65535 19) (vb 163839 19) rfl rfl rfl rfl (two_of HT_.out (by kernel_rfl)) (by decide) (by decide) (fun K hK => ?_) (fun K hK => ?_)
          ·skip
           refine goes_ Try.func32 (by kernel_rfl) rfl #[.slice A1 l1.length c1, .string (rdOf ByteArray.empty t428 x9_1)] (by rfl) rfl rfl (by (try simp only [List.map_toArray, List.map_cons, List.map_nil]); first | done | rfl | (simp only [List.length_drop, List.length_take]; rfl)) ?_
           with_reducible refine (forebearref10_blob.calls k1 _ _ l1 (rdOf ByteArray.empty t428 x9_1) t435 _ ?side1 ?side2 A9.out).mono ?_
           (case side1 => repeat (first | exact (Kd.C_below HR1.out (by repeat (first | (with_reducible first | exact HB.out | apply below_alloc | apply pw_below_drewN | apply below_drew1) | exact HB.out))) | (with_reducible refine Kd.C_alloc ?_ _) | (with_reducible refine Kd.C_drewN ?_ _) | (with_reducible refine Kd.C_drew ?_)))
           (case side2 => exact HC1.out)
           rintro e w' ⟨rfl, ⟨nd, rfl⟩⟩
           refine ⟨_, rfl, ?_⟩
           refine hK.out _ _ ⟨hHeld.1, hHeld.2.1, hHeld.2.2⟩ (fun hHeld => ?_)
           clear hK K
           refine norm_ (a' := ?_) ?_ ?_
           rotate_left
           ·show Act.put _ (some 35) _ = _
            simp only [Act.put, List.setIfInBounds_toArray, List.set_cons_zero, List.set_cons_succ, i64_w, i32_w]
            rfl
           refine pure_ (i := 16) (N := some 36) (v := ?_) (a' := ?_) (vb 131071 19) rfl rfl (any_of HT_.out (by kernel_rfl)) (fun _ _ _ h => h) (Or.inl ⟨by rfl, ?_⟩) ?_ ?_
           rotate_left
           ·intro w'
            go_simp
            with_reducible rfl
           rotate_left
           ·simp only [Act.put, List.setIfInBounds_toArray, List.set_cons_zero, List.set_cons_succ, i64_w, i32_w]
            rfl
           refine one_ (i := 17) (N := some 10) (vb 262143 19) rfl rfl (one_of HT_.out (by kernel_rfl)) (by decide) (fun K hK => ?_)
           refine box_step ?hg (N := 10) ?hd (cs := #[.string (⟨#[]⟩ : ByteArray), .int .u64 0, .int .u64 0]) (t := 55) ?hr ?_; (case hd => rfl); (case hg => rfl); (case hr => first | (go_simp; done) | (go_simp; rfl))
           intro gb436 hg w24 hbox hb
           have HS0_ := (hb.cell (World.block_lt_of_cell? _ _ (hHeld.1))).trans (hHeld.1)
           have HS1_ := (hb.cell (World.block_lt_of_cell? _ _ (hHeld.2.1))).trans (hHeld.2.1)
           have HS2_ := (hb.cell (World.block_lt_of_cell? _ _ (hHeld.2.2))).trans (hHeld.2.2)
           have n0_ := Aside0.mk (Kd.R_below (Kd.R_elderB (by (with_reducible repeat (first | apply Kd.R_alloc | apply Kd.R_drewN | apply Kd.R_drew)); exact HO_7.out) gb436 (Nat.le_of_eq hg.symm)) hb)
           have n1_ := Aside0.mk (Kd.R_below (by (with_reducible repeat (first | apply Kd.R_alloc | apply Kd.R_drewN | apply Kd.R_drew)); exact HO_8.out) hb)
           have n2_ := Aside0.mk (below_step (by repeat (first | (with_reducible first | exact HB.out | apply below_alloc | apply pw_below_drewN | apply below_drew1) | exact HB.out)) hb)
           have n3_ := Aside0.mk (hbox)
           have n4_ := Aside0.mk ((by rw [hg]; exact (below_size (by repeat (first | (with_reducible first | exact HB.out | apply below_alloc | apply pw_below_drewN | apply below_drew1) | exact HB.out))) : w.heap.size ≤ gb436))
           have n5_ := Aside0.mk ((by rw [hg]; exact (below_size (by repeat (first | (with_reducible first | exact HB.out | apply below_alloc | apply pw_below_drewN | apply below_drew1) | exact HB.out))) : w.heap.size ≤ gb436))
           clear HO_7
           clear HO_8
           clear HB
           have HO_7 := n0_
           have HO_8 := n1_
           have HB := n2_
           have BK436 := n3_
           have GW436 := n4_
           have GE436 := n5_
           clear n0_ n1_ n2_ n3_ n4_ n5_
           clear hb hbox hg
           refine hK.out _ _ ⟨HS0_, HS1_, HS2_⟩ (fun hHeld => ?_)
           clear hK K
           refine norm_ (a' := ?_) ?_ ?_
           rotate_left
           ·show Act.put _ (some 10) _ = _
            simp only [Act.put, List.setIfInBounds_toArray, List.set_cons_zero, List.set_cons_succ, i64_w, i32_w]
            rfl
           exact norm_ (by simp only [putAll, Act.put, List.setIfInBounds_toArray, List.set_cons_zero, List.set_cons_succ]) (hCont (gb436) _ ⟨hHeld, (by (with_reducible repeat (first | apply Kd.R_alloc | apply Kd.R_drewN | apply Kd.R_drew)); exact Kd.R_mono HO_7.out (fun _ hk => hk.2)), (by (with_reducible repeat (first | apply Kd.R_alloc | apply Kd.R_drewN | apply Kd.R_drew)); exact HO_8.out), (by (with_reducible repeat (first | refine blk_drewN ?_ _ | refine blk_drew ?_ | refine blk_alloc ?_ _)); exact BK436.out), GW436.out, GE436.out, (by repeat (first | (with_reducible first | exact HB.out | apply below_alloc | apply pw_below_drewN | apply below_drew1 | refine below_set ?_ GE436.out) | exact HB.out))⟩)
          ·skip
           refine box_step ?hg (N := 10) ?hd (cs := #[.string (⟨#[]⟩ : ByteArray), .int .u64 0, .int .u64 0]) (t := 55) ?hr ?_; (case hd => rfl); (case hg => rfl); (case hr => first | (go_simp; done) | (go_simp; rfl))
           intro gb436 hg w24 hbox hb
           have HS0_ := (hb.cell (World.block_lt_of_cell? _ _ (hHeld.1))).trans (hHeld.1)
           have HS1_ := (hb.cell (World.block_lt_of_cell? _ _ (hHeld.2.1))).trans (hHeld.2.1)
           have HS2_ := (hb.cell (World.block_lt_of_cell? _ _ (hHeld.2.2))).trans (hHeld.2.2)
           have n0_ := Aside0.mk (Kd.R_below (Kd.R_elderB (by (with_reducible repeat (first | apply Kd.R_alloc | apply Kd.R_drewN | apply Kd.R_drew)); exact HO_7.out) gb436 (Nat.le_of_eq hg.symm)) hb)
           have n1_ := Aside0.mk (Kd.R_below (by (with_reducible repeat (first | apply Kd.R_alloc | apply Kd.R_drewN | apply Kd.R_drew)); exact HO_8.out) hb)
           have n2_ := Aside0.mk (below_step (by repeat (first | (with_reducible first | exact HB.out | apply below_alloc | apply pw_below_drewN | apply below_drew1) | exact HB.out)) hb)
           have n3_ := Aside0.mk (hbox)
           have n4_ := Aside0.mk ((by rw [hg]; exact (below_size (by repeat (first | (with_reducible first | exact HB.out | apply below_alloc | apply pw_below_drewN | apply below_drew1) | exact HB.out))) : w.heap.size ≤ gb436))
           have n5_ := Aside0.mk ((by rw [hg]; exact (below_size (by repeat (first | (with_reducible first | exact HB.out | apply below_alloc | apply pw_below_drewN | apply below_drew1) | exact HB.out))) : w.heap.size ≤ gb436))
           clear HO_7
           clear HO_8
           clear HB
           have HO_7 := n0_
           have HO_8 := n1_
           have HB := n2_
           have BK436 := n3_
           have GW436 := n4_
           have GE436 := n5_
           clear n0_ n1_ n2_ n3_ n4_ n5_
           clear hb hbox hg
           refine hK.out _ _ ⟨HS0_, HS1_, HS2_⟩ (fun hHeld => ?_)
           clear hK K
           refine norm_ (a' := ?_) ?_ ?_
           rotate_left
           ·show Act.put _ (some 10) _ = _
            simp only [Act.put, List.setIfInBounds_toArray, List.set_cons_zero, List.set_cons_succ, i64_w, i32_w]
            rfl
           refine one_ (i := 15) (N := some 35) (vb 196607 19) rfl rfl (one_of HT_.out (by kernel_rfl)) (by decide) (fun K hK => ?_)
           refine goes_ Try.func32 (by kernel_rfl) rfl #[.slice A1 l1.length c1, .string (rdOf ByteArray.empty t428 x9_1)] (by rfl) rfl rfl (by (try simp only [List.map_toArray, List.map_cons, List.map_nil]); first | done | rfl | (simp only [List.length_drop, List.length_take]; rfl)) ?_
           with_reducible refine (forebearref10_blob.calls k1 _ _ l1 (rdOf ByteArray.empty t428 x9_1) t435 _ ?side1 ?side2 A9.out).mono ?_
           (case side1 => repeat (first | exact (Kd.C_below HR1.out HB.out) | (with_reducible refine Kd.C_alloc ?_ _) | (with_reducible refine Kd.C_drewN ?_ _) | (with_reducible refine Kd.C_drew ?_)))
           (case side2 => exact HC1.out)
           rintro e w' ⟨rfl, ⟨nd, rfl⟩⟩
           refine ⟨_, rfl, ?_⟩
           refine hK.out _ _ ⟨hHeld.1, hHeld.2.1, hHeld.2.2⟩ (fun hHeld => ?_)
           clear hK K
           refine norm_ (a' := ?_) ?_ ?_
           rotate_left
           ·show Act.put _ (some 35) _ = _
            simp only [Act.put, List.setIfInBounds_toArray, List.set_cons_zero, List.set_cons_succ, i64_w, i32_w]
            rfl
           refine pure_ (i := 16) (N := some 36) (v := ?_) (a' := ?_) (vb 262143 19) rfl rfl (any_of HT_.out (by kernel_rfl)) (fun _ _ _ h => h) (Or.inl ⟨by rfl, ?_⟩) ?_ ?_
           rotate_left
           ·intro w'
            go_simp
            with_reducible rfl
           rotate_left
           ·simp only [Act.put, List.setIfInBounds_toArray, List.set_cons_zero, List.set_cons_succ, i64_w, i32_w]
            rfl
           exact norm_ (by simp only [putAll, Act.put, List.setIfInBounds_toArray, List.set_cons_zero, List.set_cons_succ]) (hCont (gb436) _ ⟨hHeld, (by (with_reducible repeat (first | apply Kd.R_alloc | apply Kd.R_drewN | apply Kd.R_drew)); exact Kd.R_mono HO_7.out (fun _ hk => hk.2)), (by (with_reducible repeat (first | apply Kd.R_alloc | apply Kd.R_drewN | apply Kd.R_drew)); exact HO_8.out), (by (with_reducible repeat (first | refine blk_drewN ?_ _ | refine blk_drew ?_ | refine blk_alloc ?_ _)); exact BK436.out), GW436.out, GE436.out, (by repeat (first | (with_reducible first | exact HB.out | apply below_alloc | apply pw_below_drewN | apply below_drew1 | refine below_set ?_ GE436.out) | exact HB.out))⟩)
         ·skip
          refine box_step ?hg (N := 10) ?hd (cs := #[.string (⟨#[]⟩ : ByteArray), .int .u64 0, .int .u64 0]) (t := 55) ?hr ?_; (case hd => rfl); (case hg => rfl); (case hr => first | (go_simp; done) | (go_simp; rfl))
          intro gb436 hg w24 hbox hb
          have HS0_ := (hb.cell (World.block_lt_of_cell? _ _ (hHeld.1))).trans (hHeld.1)
          have HS1_ := (hb.cell (World.block_lt_of_cell? _ _ (hHeld.2.1))).trans (hHeld.2.1)
          have HS2_ := (hb.cell (World.block_lt_of_cell? _ _ (hHeld.2.2))).trans (hHeld.2.2)
          have n0_ := Aside0.mk (Kd.R_below (Kd.R_elderB (by (with_reducible repeat (first | apply Kd.R_alloc | apply Kd.R_drewN | apply Kd.R_drew)); exact HO_7.out) gb436 (Nat.le_of_eq hg.symm)) hb)
          have n1_ := Aside0.mk (Kd.R_below (by (with_reducible repeat (first | apply Kd.R_alloc | apply Kd.R_drewN | apply Kd.R_drew)); exact HO_8.out) hb)
          have n2_ := Aside0.mk (below_step (by repeat (first | (with_reducible first | exact HB.out | apply below_alloc | apply pw_below_drewN | apply below_drew1) | exact HB.out)) hb)
          have n3_ := Aside0.mk (hbox)
          have n4_ := Aside0.mk ((by rw [hg]; exact (below_size (by repeat (first | (with_reducible first | exact HB.out | apply below_alloc | apply pw_below_drewN | apply below_drew1) | exact HB.out))) : w.heap.size ≤ gb436))
          have n5_ := Aside0.mk ((by rw [hg]; exact (below_size (by repeat (first | (with_reducible first | exact HB.out | apply below_alloc | apply pw_below_drewN | apply below_drew1) | exact HB.out))) : w.heap.size ≤ gb436))
          clear HO_7
          clear HO_8
          clear HB
          have HO_7 := n0_
          have HO_8 := n1_
          have HB := n2_
          have BK436 := n3_
          have GW436 := n4_
          have GE436 := n5_
          clear n0_ n1_ n2_ n3_ n4_ n5_
          clear hb hbox hg
          refine hK.out _ _ ⟨HS0_, HS1_, HS2_⟩ (fun hHeld => ?_)
          clear hK K
          refine norm_ (a' := ?_) ?_ ?_
          rotate_left
          ·show Act.put _ (some 10) _ = _
           simp only [Act.put, List.setIfInBounds_toArray, List.set_cons_zero, List.set_cons_succ, i64_w, i32_w]
           rfl
          refine one_ (i := 9) (N := some 29) (vb 163839 19) rfl rfl (one_of HT_.out (by kernel_rfl)) (by decide) (fun K hK => ?_)
          refine goes_ Try.func32 (by kernel_rfl) rfl #[.slice A0 l0.length c0, .string (rdOf ByteArray.empty t428 x9_1)] (by rfl) rfl rfl (by (try simp only [List.map_toArray, List.map_cons, List.map_nil]); first | done | rfl | (simp only [List.length_drop, List.length_take]; rfl)) ?_
          with_reducible refine (forebearref10_blob.calls k1 _ _ l0 (rdOf ByteArray.empty t428 x9_1) t433 _ ?side1 ?side2 A8.out).mono ?_
          (case side1 => repeat (first | exact (Kd.C_below HR0.out HB.out) | (with_reducible refine Kd.C_alloc ?_ _) | (with_reducible refine Kd.C_drewN ?_ _) | (with_reducible refine Kd.C_drew ?_)))
          (case side2 => exact HC0.out)
          rintro e w' ⟨rfl, ⟨nd, rfl⟩⟩
          refine ⟨_, rfl, ?_⟩
          refine hK.out _ _ ⟨hHeld.1, hHeld.2.1, hHeld.2.2⟩ (fun hHeld => ?_)
          clear hK K
          refine norm_ (a' := ?_) ?_ ?_
          rotate_left
          ·show Act.put _ (some 29) _ = _
           simp only [Act.put, List.setIfInBounds_toArray, List.set_cons_zero, List.set_cons_succ, i64_w, i32_w]
           rfl
          refine one_ (i := 15) (N := some 35) (vb 196607 19) rfl rfl (one_of HT_.out (by kernel_rfl)) (by decide) (fun K hK => ?_)
          refine goes_ Try.func32 (by kernel_rfl) rfl #[.slice A1 l1.length c1, .string (rdOf ByteArray.empty t428 x9_1)] (by rfl) rfl rfl (by (try simp only [List.map_toArray, List.map_cons, List.map_nil]); first | done | rfl | (simp only [List.length_drop, List.length_take]; rfl)) ?_
          with_reducible refine (forebearref10_blob.calls k1 _ _ l1 (rdOf ByteArray.empty t428 x9_1) t435 _ ?side1 ?side2 A9.out).mono ?_
          (case side1 => repeat (first | exact (Kd.C_below HR1.out (by repeat (first | (with_reducible first | exact HB.out | apply below_alloc | apply pw_below_drewN | apply below_drew1 | refine below_set ?_ GE436.out) | exact HB.out))) | (with_reducible refine Kd.C_alloc ?_ _) | (with_reducible refine Kd.C_drewN ?_ _) | (with_reducible refine Kd.C_drew ?_)))
          (case side2 => exact HC1.out)
          rintro e w' ⟨rfl, ⟨nd, rfl⟩⟩
          refine ⟨_, rfl, ?_⟩
          refine hK.out _ _ ⟨hHeld.1, hHeld.2.1, hHeld.2.2⟩ (fun hHeld => ?_)
          clear hK K
          refine norm_ (a' := ?_) ?_ ?_
          rotate_left
          ·show Act.put _ (some 35) _ = _
           simp only [Act.put, List.setIfInBounds_toArray, List.set_cons_zero, List.set_cons_succ, i64_w, i32_w]
           rfl
          refine pure_ (i := 16) (N := some 36) (v := ?_) (a' := ?_) (vb 262143 19) rfl rfl (any_of HT_.out (by kernel_rfl)) (fun _ _ _ h => h) (Or.inl ⟨by rfl, ?_⟩) ?_ ?_
          rotate_left
          ·intro w'
           go_simp
           with_reducible rfl
          rotate_left
          ·simp only [Act.put, List.setIfInBounds_toArray, List.set_cons_zero, List.set_cons_succ, i64_w, i32_w]
           rfl
          exact norm_ (by simp only [putAll, Act.put, List.setIfInBounds_toArray, List.set_cons_zero, List.set_cons_succ]) (hCont (gb436) _ ⟨hHeld, (by (with_reducible repeat (first | apply Kd.R_alloc | apply Kd.R_drewN | apply Kd.R_drew)); exact Kd.R_mono HO_7.out (fun _ hk => hk.2)), (by (with_reducible repeat (first | apply Kd.R_alloc | apply Kd.R_drewN | apply Kd.R_drew)); exact HO_8.out), (by (with_reducible repeat (first | refine blk_drewN ?_ _ | refine blk_drew ?_ | refine blk_alloc ?_ _)); exact BK436.out), GW436.out, GE436.out, (by repeat (first | (with_reducible first | exact HB.out | apply below_alloc | apply pw_below_drewN | apply below_drew1 | refine below_set ?_ GE436.out) | exact HB.out))⟩)
        rintro gb436 w25 ⟨hS_, h0_, h1_, h2_, h3_, h4_, h5_⟩
        have n0_ : Aside0 (Kd.R k55 55 w25 w.heap.size (fun k_ => k_ ≠ gb436) u7 x7_1) := ⟨h0_⟩
        have n1_ : Aside0 (Kd.R Kd.string 9 w25 w.heap.size (fun _ => True) (.slice (some ad431) t428.length co22) t428) := ⟨h1_⟩
        have n2_ : Aside0 (w25.heap[gb436]? = some (.cells #[.string (⟨#[]⟩ : ByteArray), .int .u64 0, .int .u64 0] 55 (0, 0))) := ⟨h2_⟩
        have n3_ : Aside0 (w.heap.size ≤ gb436) := ⟨h3_⟩
        have n4_ : Aside0 (w.heap.size ≤ gb436) := ⟨h4_⟩
        have n5_ : Aside0 (Below w.heap.size w w25) := ⟨h5_⟩
        clear HO_7
        clear HO_8
        clear HB
        clear h0_ h1_ h2_ h3_ h4_ h5_
        have HO_7 := n0_
        have HO_8 := n1_
        have BK436 := n2_
        have GW436 := n3_
        have GE436 := n4_
        have HB := n5_
        clear n0_ n1_ n2_ n3_ n4_ n5_
        have hHeld : w25.cell? (ad431.add (x9_1).toNat) = some (.string (rdOf ByteArray.empty t428 x9_1)) ∧ w25.cell? (ad431.add (x9_1).toNat) = some (.string (rdOf ByteArray.empty t428 x9_1)) ∧ w25.cell? (ad431.add (x9_1).toNat) = some (.string (rdOf ByteArray.empty t428 x9_1)) := hS_
        refine norm_ (a' := ?_) ?_ ?_
        rotate_left
        ·simp only [putAll, Act.put, List.setIfInBounds_toArray, List.set_cons_zero, List.set_cons_succ]
         rfl
        refine one_ (i := 18) (N := none) (vb 524287 19) rfl rfl (one_of HT_.out (by kernel_rfl)) (by decide) (fun K hK => ?_)
        have hs26 : w25.cell? ⟨gb436, 0, none⟩ = some (.string (⟨#[]⟩ : ByteArray)) := (blk_cell BK436.out 0).trans rfl
        have hfs26 := blk_frozen BK436.out 0
        have hs27 : w25.cell? ⟨gb436, 1, none⟩ = some (.int .u64 0) := (blk_cell BK436.out 1).trans rfl
        have hfs27 := blk_frozen BK436.out 1
        have hs28 : w25.cell? ⟨gb436, 2, none⟩ = some (.int .u64 0) := (blk_cell BK436.out 2).trans rfl
        have hfs28 := blk_frozen BK436.out 2
        refine skip_ (w1 := ?_) (by rfl) rfl ?_ ?_
        rotate_left
        ·go_simp
         rfl
        refine hK.out _ _ ⟨((cell_far (p := ⟨gb436, _, none⟩) (by first | exact Kd.own_blk (Kd.R_ne HO_8.out BK436.out (by decide)) | (rw [add_block]; exact Kd.own_blk (Kd.R_ne HO_8.out BK436.out (by decide))) | (show (Addr.add _ _).block ≠ _; rw [add_block]; exact Kd.own_blk (Kd.R_ne HO_8.out BK436.out (by decide))) | (dsimp only; exact Kd.own_blk (Kd.R_ne HO_8.out BK436.out (by decide)))) _).trans (((cell_far (p := ⟨gb436, _, none⟩) (by first | exact Kd.own_blk (Kd.R_ne HO_8.out BK436.out (by decide)) | (rw [add_block]; exact Kd.own_blk (Kd.R_ne HO_8.out BK436.out (by decide))) | (show (Addr.add _ _).block ≠ _; rw [add_block]; exact Kd.own_blk (Kd.R_ne HO_8.out BK436.out (by decide))) | (dsimp only; exact Kd.own_blk (Kd.R_ne HO_8.out BK436.out (by decide)))) _).trans (((cell_far (p := ⟨gb436, _, none⟩) (by first | exact Kd.own_blk (Kd.R_ne HO_8.out BK436.out (by decide)) | (rw [add_block]; exact Kd.own_blk (Kd.R_ne HO_8.out BK436.out (by decide))) | (show (Addr.add _ _).block ≠ _; rw [add_block]; exact Kd.own_blk (Kd.R_ne HO_8.out BK436.out (by decide))) | (dsimp only; exact Kd.own_blk (Kd.R_ne HO_8.out BK436.out (by decide)))) _).trans (hHeld.1)))))), ((cell_far (p := ⟨gb436, _, none⟩) (by first | exact Kd.own_blk (Kd.R_ne HO_8.out BK436.out (by decide)) | (rw [add_block]; exact Kd.own_blk (Kd.R_ne HO_8.out BK436.out (by decide))) | (show (Addr.add _ _).block ≠ _; rw [add_block]; exact Kd.own_blk (Kd.R_ne HO_8.out BK436.out (by decide))) | (dsimp only; exact Kd.own_blk (Kd.R_ne HO_8.out BK436.out (by decide)))) _).trans (((cell_far (p := ⟨gb436, _, none⟩) (by first | exact Kd.own_blk (Kd.R_ne HO_8.out BK436.out (by decide)) | (rw [add_block]; exact Kd.own_blk (Kd.R_ne HO_8.out BK436.out (by decide))) | (show (Addr.add _ _).block ≠ _; rw [add_block]; exact Kd.own_blk (Kd.R_ne HO_8.out BK436.out (by decide))) | (dsimp only; exact Kd.own_blk (Kd.R_ne HO_8.out BK436.out (by decide)))) _).trans (((cell_far (p := ⟨gb436, _, none⟩) (by first | exact Kd.own_blk (Kd.R_ne HO_8.out BK436.out (by decide)) | (rw [add_block]; exact Kd.own_blk (Kd.R_ne HO_8.out BK436.out (by decide))) | (show (Addr.add _ _).block ≠ _; rw [add_block]; exact Kd.own_blk (Kd.R_ne HO_8.out BK436.out (by decide))) | (dsimp only; exact Kd.own_blk (Kd.R_ne HO_8.out BK436.out (by decide)))) _).trans (hHeld.2.1)))))), ((cell_far (p := ⟨gb436, _, none⟩) (by first | exact Kd.own_blk (Kd.R_ne HO_8.out BK436.out (by decide)) | (rw [add_block]; exact Kd.own_blk (Kd.R_ne HO_8.out BK436.out (by decide))) | (show (Addr.add _ _).block ≠ _; rw [add_block]; exact Kd.own_blk (Kd.R_ne HO_8.out BK436.out (by decide))) | (dsimp only; exact Kd.own_blk (Kd.R_ne HO_8.out BK436.out (by decide)))) _).trans (((cell_far (p := ⟨gb436, _, none⟩) (by first | exact Kd.own_blk (Kd.R_ne HO_8.out BK436.out (by decide)) | (rw [add_block]; exact Kd.own_blk (Kd.R_ne HO_8.out BK436.out (by decide))) | (show (Addr.add _ _).block ≠ _; rw [add_block]; exact Kd.own_blk (Kd.R_ne HO_8.out BK436.out (by decide))) | (dsimp only; exact Kd.own_blk (Kd.R_ne HO_8.out BK436.out (by decide)))) _).trans (((cell_far (p := ⟨gb436, _, none⟩) (by first | exact Kd.own_blk (Kd.R_ne HO_8.out BK436.out (by decide)) | (rw [add_block]; exact Kd.own_blk (Kd.R_ne HO_8.out BK436.out (by decide))) | (show (Addr.add _ _).block ≠ _; rw [add_block]; exact Kd.own_blk (Kd.R_ne HO_8.out BK436.out (by decide))) | (dsimp only; exact Kd.own_blk (Kd.R_ne HO_8.out BK436.out (by decide)))) _).trans (hHeld.2.2))))))⟩ (fun hHeld => ?_)
        clear hK K
        refine done_ (done_of HT_.out (by kernel_rfl)) ?_
        have hcz29_0 : w25.cell? ⟨gb436, 0, none⟩ = some (.string (⟨#[]⟩ : ByteArray)) := (blk_cell BK436.out 0).trans rfl
        have hcz29_1 : w25.cell? ⟨gb436, 1, none⟩ = some (.int .u64 0) := (blk_cell BK436.out 1).trans rfl
        have hcz29_2 : w25.cell? ⟨gb436, 2, none⟩ = some (.int .u64 0) := (blk_cell BK436.out 2).trans rfl
        have hfz29_0 := blk_frozen BK436.out 0
        have hfz29_1 := blk_frozen BK436.out 1
        have hfz29_2 := blk_frozen BK436.out 2
        have p437 : 0 ≤ (x9_1 : Int) := of_decide_eq_true (by first | (with_reducible assumption) | assumption)
        have q437 : x9_1 < (t428.length : Int) := of_decide_eq_true (by first | (with_reducible assumption) | assumption)
        obtain ⟨ad437, e437, hx437_0⟩ := Kd.at_string (Kd.R_reads' HO_8.out).2.2 x9_1 p437 q437
        obtain rfl : ad431 = ad437 := (by injection e437)
        have hn437_0 : ad431.block ≠ gb436 := Kd.own_blk (Kd.R_ne HO_8.out BK436.out (by decide))
        have hn437_1 : ad431.block ≠ gb436 := Kd.own_blk (Kd.R_ne HO_8.out BK436.out (by decide))
        have hn437_2 : ad431.block ≠ gb436 := Kd.own_blk (Kd.R_ne HO_8.out BK436.out (by decide))
        replace hx437_0 := (cell_far (p := ⟨gb436, 0, none⟩) (by first | (rw [add_block]; exact hn437_0) | (show (Addr.add _ _).block ≠ _; rw [add_block]; exact hn437_0) | exact hn437_0) (.string (rdOf ByteArray.empty t428 x9_1))).trans hx437_0
        replace hx437_0 := (cell_far (p := ⟨gb436, 1, none⟩) (by first | (rw [add_block]; exact hn437_1) | (show (Addr.add _ _).block ≠ _; rw [add_block]; exact hn437_1) | exact hn437_1) (.int .u64 t433)).trans hx437_0
        replace hx437_0 := (cell_far (p := ⟨gb436, 2, none⟩) (by first | (rw [add_block]; exact hn437_2) | (show (Addr.add _ _).block ≠ _; rw [add_block]; exact hn437_2) | exact hn437_2) (.int .u64 t435)).trans hx437_0
        clear hn437_0
        clear hn437_1
        clear hn437_2
        replace p437 := eq_true p437
        replace q437 := eq_true q437
        try go_wp2_with (first | (go_at_call 48; (with_reducible refine (forebearref03_In.calls k1 _ _ l2 (rdOf ByteArray.empty t428 x9_1) true _ ?side1 ?side2 A19.out).mono ?_); (case side1 => exact Kd.C_below HR2.out (by repeat (first | (with_reducible first | exact HB.out | apply below_alloc | apply pw_below_drewN | apply below_drew1 | refine below_set ?_ GE436.out) | exact HB.out))); (case side2 => exact HC2.out); rintro e w30 ⟨rfl, hb⟩; have n0_ := Aside0.mk (Kd.R_below (by (with_reducible repeat (first | apply Kd.R_alloc | apply Kd.R_drewN | apply Kd.R_drew)); exact (Kd.R_mono (Kd.R_far (p := ⟨gb436, 2, none⟩) (Kd.R_far (p := ⟨gb436, 1, none⟩) (Kd.R_far (p := ⟨gb436, 0, none⟩) (Kd.R_mono HO_7.out (fun k_ hk => (⟨hk, hk⟩ : _ ∧ k_ ≠ gb436))) (fun _ hk => hk.2) (.string (rdOf ByteArray.empty t428 x9_1))) (fun _ hk => hk.2) (.int .u64 t433)) (fun _ hk => hk.2) (.int .u64 t435)) (fun _ h_ => h_.1))) hb); have n1_ := Aside0.mk (Kd.R_below (by (with_reducible repeat (first | apply Kd.R_alloc | apply Kd.R_drewN | apply Kd.R_drew)); exact (Kd.R_mono (Kd.R_far (p := ⟨gb436, 2, none⟩) (Kd.R_far (p := ⟨gb436, 1, none⟩) (Kd.R_far (p := ⟨gb436, 0, none⟩) (Kd.R_types HO_8.out BK436.out (by decide)) (fun _ hk => hk.2) (.string (rdOf ByteArray.empty t428 x9_1))) (fun _ hk => hk.2) (.int .u64 t433)) (fun _ hk => hk.2) (.int .u64 t435)) (fun _ h_ => h_.1))) hb); have n2_ := Aside0.mk (blk_below (g := gb436) (o := .cells #[.string (rdOf ByteArray.empty t428 x9_1), .int .u64 t433, .int .u64 t435] 55 (0, 0)) (by (with_reducible repeat (first | refine blk_drewN ?_ _ | refine blk_drew ?_ | refine blk_alloc ?_ _)); refine blk_put (cs := #[.string (rdOf ByteArray.empty t428 x9_1), .int .u64 t433, .int .u64 0]) ?_ 2 _ rfl; (with_reducible repeat (first | refine blk_drewN ?_ _ | refine blk_drew ?_ | refine blk_alloc ?_ _)); refine blk_put (cs := #[.string (rdOf ByteArray.empty t428 x9_1), .int .u64 0, .int .u64 0]) ?_ 1 _ rfl; (with_reducible repeat (first | refine blk_drewN ?_ _ | refine blk_drew ?_ | refine blk_alloc ?_ _)); refine blk_put (cs := #[.string (⟨#[]⟩ : ByteArray), .int .u64 0, .int .u64 0]) ?_ 0 _ rfl; (with_reducible repeat (first | refine blk_drewN ?_ _ | refine blk_drew ?_ | refine blk_alloc ?_ _)); exact BK436.out) hb); have n3_ := Aside0.mk (below_step (by repeat (first | (with_reducible first | exact HB.out | apply below_alloc | apply pw_below_drewN | apply below_drew1 | refine below_set ?_ GE436.out) | exact HB.out)) hb); clear HO_7; clear HO_8; clear BK436; clear HB; have HO_7 := n0_; have HO_8 := n1_; have BK436 := n2_; have HB := n3_; clear n0_ n1_ n2_ n3_; (try clear hb); (try clear hb2); (try clear hk); (try clear hi); have hcz31_0 : w30.cell? ⟨gb436, 0, none⟩ = some (.string (rdOf ByteArray.empty t428 x9_1)) := (blk_cell BK436.out 0).trans rfl; have hcz31_1 : w30.cell? ⟨gb436, 1, none⟩ = some (.int .u64 t433) := (blk_cell BK436.out 1).trans rfl; have hcz31_2 : w30.cell? ⟨gb436, 2, none⟩ = some (.int .u64 t435) := (blk_cell BK436.out 2).trans rfl; have hfz31_0 := blk_frozen BK436.out 0; have hfz31_1 := blk_frozen BK436.out 1; have hfz31_2 := blk_frozen BK436.out 2) | ((with_reducible refine gate_builtin (b := .append) (xs := #[.tmp 50, .tmp 52]) rfl ?_); at_builtin; refine Kd.R_append k55 (w0 := w) w.heap.size rfl (.tmp 50) (.tmp 52) 53 55 (.agg #[(.string ⟨#[]⟩), (.int .u64 0), (.int .u64 0)]) 32 rfl Try.underlying53 info55 rfl (by decide) (by omega) u7 x7_1 (⟨rdOf ByteArray.empty t428 x9_1, t433, t435⟩ : S55) [.string (rdOf ByteArray.empty t428 x9_1), .int .u64 t433, .int .u64 t435] (fun k_ => k_ ≠ gb436) (fun _ => False) rfl rfl ?aP (fun _ hk => hk.elim) ?aF ?aO ?aB ?aS ?aL ?_; (case aP => exact k55_mkM _ _ _ (⟨rdOf ByteArray.empty t428 x9_1, t433, t435⟩ : S55)); (case aB => exact (by repeat (first | (with_reducible first | exact HB.out | apply below_alloc | apply pw_below_drewN | apply below_drew1 | refine below_set ?_ GE436.out) | exact HB.out))); (case aF => exact (fun k_ hk => Kd.freshB (g := gb436) (o := .cells #[.string (rdOf ByteArray.empty t428 x9_1), .int .u64 t433, .int .u64 t435] 55 (0, 0)) (by (with_reducible repeat (first | refine blk_drewN ?_ _ | refine blk_drew ?_ | refine blk_alloc ?_ _)); exact BK436.out) k_ hk)); (case aO => exact (by (with_reducible repeat (first | apply Kd.R_alloc | apply Kd.R_drewN | apply Kd.R_drew)); exact HO_7.out)); (case aS => exact (below_size (by repeat (first | (with_reducible first | exact HB.out | apply below_alloc | apply pw_below_drewN | apply below_drew1 | refine below_set ?_ GE436.out) | exact HB.out)))); (case aL => have := LMc21.out; omega); intro v440 w32 ho hb hg hat; rw [← Ny439.out] at ho; have n0_ := Aside0.mk (Kd.R_over' (by (with_reducible repeat (first | apply Kd.R_alloc | apply Kd.R_drewN | apply Kd.R_drew)); exact HO_8.out) (Kd.R_typed (by (with_reducible repeat (first | apply Kd.R_alloc | apply Kd.R_drewN | apply Kd.R_drew)); exact HO_7.out)) (by decide) hg); have n1_ := Aside0.mk (blk_grown (g := gb436) (o := .cells #[.string (rdOf ByteArray.empty t428 x9_1), .int .u64 t433, .int .u64 t435] 55 (0, 0)) (by (with_reducible repeat (first | refine blk_drewN ?_ _ | refine blk_drew ?_ | refine blk_alloc ?_ _)); exact BK436.out) hg (Kd.R_away HO_7.out (fun _ hk => hk))); have n2_ := Aside0.mk (hb); have n3_ := Aside0.mk (ho); clear HO_8; clear BK436; clear HB; clear HO_7; have HO_8 := n0_; have BK436 := n1_; have HB := n2_; have HO441 := n3_; clear n0_ n1_ n2_ n3_; clear ho hb hg hat))
        go_roundg k1
        case measure => have := HK1.out; omega
        case rel => exact ⟨(y439), (wrap64 (x9_1 + 1)), (by first | rfl | (simp; done) | (simp [*]; done)), H', ⟨by have := HK1.out; omega⟩, ⟨by (with_reducible repeat (first | apply Kd.R_alloc | apply Kd.R_drewN | apply Kd.R_drew)); exact Kd.R_mono HO441.out (fun _ hk => trivial)⟩, ⟨by (with_reducible repeat (first | apply Kd.R_alloc | apply Kd.R_drewN | apply Kd.R_drew)); exact HO_8.out⟩, ⟨by repeat (first | (with_reducible first | exact HB.out | apply below_alloc | apply pw_below_drewN | apply below_drew1 | refine below_set ?_ GE436.out) | exact HB.out)⟩⟩
       ·rw [if_neg c21] at H
        exact absurd H (by simp)
      ·replace c20 := Bool.eq_false_iff.mpr c20
       subst c20
       have H1 : (forebearref10_Diff.l0 k1 l0 l1 l2 x7_1 t428 (wrap64 (x9_1 + 1))) = some r := by rw [if_neg (show ¬ (false = true) by decide)] at H; exact H
       clear H
       have H := H1
       clear H1
       have H' := Aside0.mk H
       clear H
       obtain ⟨Ao33, co33, eo33⟩ := Kd.R_slice HO_8.out
       subst eo33
       try go_wp2
       have n0_ := Aside0.mk (Kd.R_drew HO_7.out)
       have n1_ := Aside0.mk (Kd.R_drew HO_8.out)
       have n2_ := Aside0.mk (below_drew1 HB.out)
       clear HO_7
       clear HO_8
       clear HB
       have HO_7 := n0_
       have HO_8 := n1_
       have HB := n2_
       clear n0_ n1_ n2_
       have p431 : 0 ≤ (x9_1 : Int) := of_decide_eq_true (by first | (with_reducible assumption) | assumption)
       have q431 : x9_1 < (t428.length : Int) := of_decide_eq_true (by first | (with_reducible assumption) | assumption)
       obtain ⟨ad431, e431, hx431_0⟩ := Kd.at_string (Kd.R_reads' HO_8.out).2.2 x9_1 p431 q431
       cases e431
       replace p431 := eq_true p431
       replace q431 := eq_true q431
       have p432 : 0 ≤ (x9_1 : Int) := of_decide_eq_true (by first | (with_reducible assumption) | assumption)
       have q432 : x9_1 < (t428.length : Int) := of_decide_eq_true (by first | (with_reducible assumption) | assumption)
       obtain ⟨ad432, e432, hx432_0⟩ := Kd.at_string (Kd.R_reads' HO_8.out).2.2 x9_1 p432 q432
       obtain rfl : ad431 = ad432 := (by injection e432)
       replace p432 := eq_true p432
       replace q432 := eq_true q432
       have p434 : 0 ≤ (x9_1 : Int) := of_decide_eq_true (by first | (with_reducible assumption) | assumption)
       have q434 : x9_1 < (t428.length : Int) := of_decide_eq_true (by first | (with_reducible assumption) | assumption)
       obtain ⟨ad434, e434, hx434_0⟩ := Kd.at_string (Kd.R_reads' HO_8.out).2.2 x9_1 p434 q434
       obtain rfl : ad431 = ad434 := (by injection e434)
       replace p434 := eq_true p434
       replace q434 := eq_true q434
       refine start_ (n := 19) (S := fun w' => w'.cell? (ad431.add (x9_1).toNat) = some (.string (rdOf ByteArray.empty t428 x9_1)) ∧ w'.cell? (ad431.add (x9_1).toNat) = some (.string (rdOf ByteArray.empty t428 x9_1)) ∧ w'.cell? (ad431.add (x9_1).toNat) = some (.string (rdOf ByteArray.empty t428 x9_1))) (ds := []) (vb 0 19) (by kernel_rfl) rfl rfl ⟨hx431_0, hx432_0, hx434_0⟩ (fun hHeld => ?_); refine with_tabW forebearref10_Diff.tab6 forebearref10_Diff.bits6 (fun HT_ HW_ => ?_)
       generalize wr.drew = w34 at HO_7 HO_8 HB hx431_0 hx432_0 hx434_0 hHeld ⊢
       refine pure_ (i := 0) (N := some 20) (v := ?_) (a' := ?_) (vb 1 19) rfl rfl (any_of HT_.out (by kernel_rfl)) (fun _ _ _ h => h) (Or.inl ⟨by rfl, ?_⟩) ?_ ?_
       rotate_left
       ·intro w'
        go_simp
        with_reducible rfl
       rotate_left
       ·simp only [Act.put, List.setIfInBounds_toArray, List.set_cons_zero, List.set_cons_succ, i64_w, i32_w]
        rfl
       refine pure_ (i := 1) (N := some 21) (v := ?_) (a' := ?_) (vb 3 19) rfl rfl (any_of HT_.out (by kernel_rfl)) (fun _ _ _ h => h) (Or.inl ⟨by rfl, ?_⟩) ?_ ?_
       rotate_left
       ·intro w'
        go_simp
        with_reducible rfl
       rotate_left
       ·simp only [Act.put, List.setIfInBounds_toArray, List.set_cons_zero, List.set_cons_succ, i64_w, i32_w]
        rfl
       refine pure_ (i := 2) (N := some 22) (v := ?_) (a' := ?_) (vb 7 19) rfl rfl (any_of HT_.out (by kernel_rfl)) (fun _ _ _ h => h) (Or.inl ⟨by rfl, ?_⟩) ?_ ?_
       rotate_left
       ·intro w'
        go_simp
        with_reducible rfl
       rotate_left
       ·simp only [Act.put, List.setIfInBounds_toArray, List.set_cons_zero, List.set_cons_succ, i64_w, i32_w]
        rfl
       refine pure_ (i := 4) (N := some 24) (v := ?_) (a' := ?_) (vb 23 19) rfl rfl (any_of HT_.out (by kernel_rfl)) (fun _ _ _ h => h) (Or.inl ⟨by rfl, ?_⟩) ?_ ?_
       rotate_left
       ·intro w'
        go_simp
        with_reducible rfl
       rotate_left
       ·simp only [Act.put, List.setIfInBounds_toArray, List.set_cons_zero, List.set_cons_succ, i64_w, i32_w]
        rfl
       refine pure_ (i := 5) (N := some 25) (v := ?_) (a' := ?_) (vb 55 19) rfl rfl (any_of HT_.out (by kernel_rfl)) (fun _ _ _ h => h) (Or.inl ⟨by rfl, ?_⟩) ?_ ?_
       rotate_left
       ·intro w'
        go_simp
        with_reducible rfl
       rotate_left
       ·simp only [Act.put, List.setIfInBounds_toArray, List.set_cons_zero, List.set_cons_succ, i64_w, i32_w]
        rfl
       refine pure_ (i := 6) (N := some 26) (v := ?_) (a' := ?_) (vb 119 19) rfl rfl (any_of HT_.out (by kernel_rfl)) (fun _ _ _ h => h) (Or.inl ⟨by rfl, ?_⟩) ?_ ?_
       rotate_left
       ·intro w'
        go_simp
        with_reducible rfl
       rotate_left
       ·simp only [Act.put, List.setIfInBounds_toArray, List.set_cons_zero, List.set_cons_succ, i64_w, i32_w]
        rfl
       refine pure_ (i := 7) (N := some 27) (v := ?_) (a' := ?_) (vb 247 19) rfl rfl (any_of HT_.out (by kernel_rfl)) (fun _ _ _ h => h) (Or.inl ⟨by rfl, ?_⟩) ?_ ?_
       rotate_left
       ·intro w'
        go_simp
        with_reducible rfl
       rotate_left
       ·simp only [Act.put, List.setIfInBounds_toArray, List.set_cons_zero, List.set_cons_succ, i64_w, i32_w]
        rfl
       refine pure_ (i := 10) (N := some 30) (v := ?_) (a' := ?_) (vb 1271 19) rfl rfl (any_of HT_.out (by kernel_rfl)) (fun _ _ _ h => h) (Or.inl ⟨by rfl, ?_⟩) ?_ ?_
       rotate_left
       ·intro w'
        go_simp
        with_reducible rfl
       rotate_left
       ·simp only [Act.put, List.setIfInBounds_toArray, List.set_cons_zero, List.set_cons_succ, i64_w, i32_w]
        rfl
       refine pure_ (i := 11) (N := some 31) (v := ?_) (a' := ?_) (vb 3319 19) rfl rfl (any_of HT_.out (by kernel_rfl)) (fun _ _ _ h => h) (Or.inl ⟨by rfl, ?_⟩) ?_ ?_
       rotate_left
       ·intro w'
        go_simp
        with_reducible rfl
       rotate_left
       ·simp only [Act.put, List.setIfInBounds_toArray, List.set_cons_zero, List.set_cons_succ, i64_w, i32_w]
        rfl
       refine pure_ (i := 12) (N := some 32) (v := ?_) (a' := ?_) (vb 7415 19) rfl rfl (any_of HT_.out (by kernel_rfl)) (fun _ _ _ h => h) (Or.inl ⟨by rfl, ?_⟩) ?_ ?_
       rotate_left
       ·intro w'
        go_simp
        with_reducible rfl
       rotate_left
       ·simp only [Act.put, List.setIfInBounds_toArray, List.set_cons_zero, List.set_cons_succ, i64_w, i32_w]
        rfl
       refine pure_ (i := 13) (N := some 33) (v := ?_) (a' := ?_) (vb 15607 19) rfl rfl (any_of HT_.out (by kernel_rfl)) (fun _ _ _ h => h) (Or.inl ⟨by rfl, ?_⟩) ?_ ?_
       rotate_left
       ·intro w'
        go_simp
        with_reducible rfl
       rotate_left
       ·simp only [Act.put, List.setIfInBounds_toArray, List.set_cons_zero, List.set_cons_succ, i64_w, i32_w]
        rfl
       refine take_ (i := 3) (N := some 23) (v := ?_) (a' := ?_) (vb 15615 19) rfl rfl (take_ofW HT_.out HW_.out (by kernel_rfl)) (fun _ _ _ h => h) (Or.inl ⟨by rfl, ?_⟩) hHeld ?_ ?_
       rotate_left
       ·rintro w' ⟨s0, s1, s2⟩
        go_simp
        with_reducible rfl
       rotate_left
       ·simp only [Act.put, List.setIfInBounds_toArray, List.set_cons_zero, List.set_cons_succ, i64_w, i32_w]
        rfl
       refine take_ (i := 8) (N := some 28) (v := ?_) (a' := ?_) (vb 15871 19) rfl rfl (take_ofW HT_.out HW_.out (by kernel_rfl)) (fun _ _ _ h => h) (Or.inl ⟨by rfl, ?_⟩) hHeld ?_ ?_
       rotate_left
       ·rintro w' ⟨s0, s1, s2⟩
        go_simp
        with_reducible rfl
       rotate_left
       ·simp only [Act.put, List.setIfInBounds_toArray, List.set_cons_zero, List.set_cons_succ, i64_w, i32_w]
        rfl
       refine take_ (i := 14) (N := some 34) (v := ?_) (a' := ?_) (vb 32255 19) rfl rfl (take_ofW HT_.out HW_.out (by kernel_rfl)) (fun _ _ _ h => h) (Or.inl ⟨by rfl, ?_⟩) hHeld ?_ ?_
       rotate_left
       ·rintro w' ⟨s0, s1, s2⟩
        go_simp
        with_reducible rfl
       rotate_left
       ·simp only [Act.put, List.setIfInBounds_toArray, List.set_cons_zero, List.set_cons_succ, i64_w, i32_w]
        rfl
       refine join_ (σ := Nat) 1 (vb 262143 19) (fun s_ => [(29, .int .u64 t433), (35, .int .u64 t435), (10, .pointer (some ⟨s_, 0, none⟩)), (36, .agg #[.string (rdOf ByteArray.empty t428 x9_1), .int .u64 t433, .int .u64 t435])]) (fun s_ w' => (w'.cell? (ad431.add (x9_1).toNat) = some (.string (rdOf ByteArray.empty t428 x9_1)) ∧ w'.cell? (ad431.add (x9_1).toNat) = some (.string (rdOf ByteArray.empty t428 x9_1)) ∧ w'.cell? (ad431.add (x9_1).toNat) = some (.string (rdOf ByteArray.empty t428 x9_1))) ∧ (Kd.R k55 55 w' w.heap.size (fun k_ => k_ ≠ s_) u7 x7_1) ∧ (Kd.R Kd.string 9 w' w.heap.size (fun _ => True) (.slice (some ad431) t428.length co33) t428) ∧ (w'.heap[s_]? = some (.cells #[.string (⟨#[]⟩ : ByteArray), .int .u64 0, .int .u64 0] 55 (0, 0))) ∧ (w.heap.size ≤ s_) ∧ (w.heap.size ≤ s_) ∧ (Below w.heap.size w w')) ?_ ?_
       rotate_left
       ·intro hCont
        refine two_ (i := 9) (j := 17) (Ni := some 29) (Nj := some 10) (vb 32767 19) (vb 163327 19) rfl rfl rfl rfl (two_of HT_.out (by kernel_rfl)) (by decide) (by decide) (fun K hK => ?_) (fun K hK => ?_)
        ·skip
         refine goes_ Try.func32 (by kernel_rfl) rfl #[.slice A0 l0.length c0, .string (rdOf ByteArray.empty t428 x9_1)] (by rfl) rfl rfl (by (try simp only [List.map_toArray, List.map_cons, List.map_nil]); first | done | rfl | (simp only [List.length_drop, List.length_take]; rfl)) ?_
         with_reducible refine (forebearref10_blob.calls k1 _ _ l0 (rdOf ByteArray.empty t428 x9_1) t433 _ ?side1 ?side2 A8.out).mono ?_
         (case side1 => repeat (first | exact (Kd.C_below HR0.out HB.out) | (with_reducible refine Kd.C_alloc ?_ _) | (with_reducible refine Kd.C_drewN ?_ _) | (with_reducible refine Kd.C_drew ?_)))
         (case side2 => exact HC0.out)
         rintro e w' ⟨rfl, ⟨nd, rfl⟩⟩
         refine ⟨_, rfl, ?_⟩
         refine hK.out _ _ ⟨hHeld.1, hHeld.2.1, hHeld.2.2⟩ (fun hHeld => ?_)
         clear hK K
         refine norm_ (a' := ?_) ?_ ?_
         rotate_left
         ·show Act.put _ (some 29) _ = _
          simp only [Act.put, List.setIfInBounds_toArray, List.set_cons_zero, List.set_cons_succ, i64_w, i32_w]
          rfl
         refine two_ (i := 15) (j := 17) (Ni := some 35) (Nj := some 10) (vb 65535 19) (vb 163839 19) rfl rfl rfl rfl (two_of HT_.out (by kernel_rfl)) (by decide) (by decide) (fun K hK => ?_) (fun K hK => ?_)
         ·skip
          refine goes_ Try.func32 (by kernel_rfl) rfl #[.slice A1 l1.length c1, .string (rdOf ByteArray.empty t428 x9_1)] (by rfl) rfl rfl (by (try simp only [List.map_toArray, List.map_cons, List.map_nil]); first | done | rfl | (simp only [List.length_drop, List.length_take]; rfl)) ?_
          with_reducible refine (forebearref10_blob.calls k1 _ _ l1 (rdOf ByteArray.empty t428 x9_1) t435 _ ?side1 ?side2 A9.out).mono ?_
          (case side1 => repeat (first | exact (Kd.C_below HR1.out (by repeat (first | (with_reducible first | exact HB.out | apply below_alloc | apply pw_below_drewN | apply below_drew1) | exact HB.out))) | (with_reducible refine Kd.C_alloc ?_ _) | (with_reducible refine Kd.C_drewN ?_ _) | (with_reducible refine Kd.C_drew ?_)))
          (case side2 => exact HC1.out)
          rintro e w' ⟨rfl, ⟨nd, rfl⟩⟩
          refine ⟨_, rfl, ?_⟩
          refine hK.out _ _ ⟨hHeld.1, hHeld.2.1, hHeld.2.2⟩ (fun hHeld => ?_)
          clear hK K
          refine norm_ (a' := ?_) ?_ ?_
          rotate_left
          ·show Act.put _ (some 35) _ = _
           simp only [Act.put, List.setIfInBounds_toArray, List.set_cons_zero, List.set_cons_succ, i64_w, i32_w]
           rfl
          refine pure_ (i := 16) (N := some 36) (v := ?_) (a' := ?_) (vb 131071 19) rfl rfl (any_of HT_.out (by kernel_rfl)) (fun _ _ _ h => h) (Or.inl ⟨by rfl, ?_⟩) ?_ ?_
          rotate_left
          ·intro w'
           go_simp
           with_reducible rfl
          rotate_left
          ·simp only [Act.put, List.setIfInBounds_toArray, List.set_cons_zero, List.set_cons_succ, i64_w, i32_w]
           rfl
          refine one_ (i := 17) (N := some 10) (vb 262143 19) rfl rfl (one_of HT_.out (by kernel_rfl)) (by decide) (fun K hK => ?_)
          refine box_step ?hg (N := 10) ?hd (cs := #[.string (⟨#[]⟩ : ByteArray), .int .u64 0, .int .u64 0]) (t := 55) ?hr ?_; (case hd => rfl); (case hg => rfl); (case hr => first | (go_simp; done) | (go_simp; rfl))
          intro gb436 hg w35 hbox hb
          have HS0_ := (hb.cell (World.block_lt_of_cell? _ _ (hHeld.1))).trans (hHeld.1)
          have HS1_ := (hb.cell (World.block_lt_of_cell? _ _ (hHeld.2.1))).trans (hHeld.2.1)
          have HS2_ := (hb.cell (World.block_lt_of_cell? _ _ (hHeld.2.2))).trans (hHeld.2.2)
          have n0_ := Aside0.mk (Kd.R_below (Kd.R_elderB (by (with_reducible repeat (first | apply Kd.R_alloc | apply Kd.R_drewN | apply Kd.R_drew)); exact HO_7.out) gb436 (Nat.le_of_eq hg.symm)) hb)
          have n1_ := Aside0.mk (Kd.R_below (by (with_reducible repeat (first | apply Kd.R_alloc | apply Kd.R_drewN | apply Kd.R_drew)); exact HO_8.out) hb)
          have n2_ := Aside0.mk (below_step (by repeat (first | (with_reducible first | exact HB.out | apply below_alloc | apply pw_below_drewN | apply below_drew1) | exact HB.out)) hb)
          have n3_ := Aside0.mk (hbox)
          have n4_ := Aside0.mk ((by rw [hg]; exact (below_size (by repeat (first | (with_reducible first | exact HB.out | apply below_alloc | apply pw_below_drewN | apply below_drew1) | exact HB.out))) : w.heap.size ≤ gb436))
          have n5_ := Aside0.mk ((by rw [hg]; exact (below_size (by repeat (first | (with_reducible first | exact HB.out | apply below_alloc | apply pw_below_drewN | apply below_drew1) | exact HB.out))) : w.heap.size ≤ gb436))
          clear HO_7
          clear HO_8
          clear HB
          have HO_7 := n0_
          have HO_8 := n1_
          have HB := n2_
          have BK436 := n3_
          have GW436 := n4_
          have GE436 := n5_
          clear n0_ n1_ n2_ n3_ n4_ n5_
          clear hb hbox hg
          refine hK.out _ _ ⟨HS0_, HS1_, HS2_⟩ (fun hHeld => ?_)
          clear hK K
          refine norm_ (a' := ?_) ?_ ?_
          rotate_left
          ·show Act.put _ (some 10) _ = _
           simp only [Act.put, List.setIfInBounds_toArray, List.set_cons_zero, List.set_cons_succ, i64_w, i32_w]
           rfl
          exact norm_ (by simp only [putAll, Act.put, List.setIfInBounds_toArray, List.set_cons_zero, List.set_cons_succ]) (hCont (gb436) _ ⟨hHeld, (by (with_reducible repeat (first | apply Kd.R_alloc | apply Kd.R_drewN | apply Kd.R_drew)); exact Kd.R_mono HO_7.out (fun _ hk => hk.2)), (by (with_reducible repeat (first | apply Kd.R_alloc | apply Kd.R_drewN | apply Kd.R_drew)); exact HO_8.out), (by (with_reducible repeat (first | refine blk_drewN ?_ _ | refine blk_drew ?_ | refine blk_alloc ?_ _)); exact BK436.out), GW436.out, GE436.out, (by repeat (first | (with_reducible first | exact HB.out | apply below_alloc | apply pw_below_drewN | apply below_drew1 | refine below_set ?_ GE436.out) | exact HB.out))⟩)
         ·skip
          refine box_step ?hg (N := 10) ?hd (cs := #[.string (⟨#[]⟩ : ByteArray), .int .u64 0, .int .u64 0]) (t := 55) ?hr ?_; (case hd => rfl); (case hg => rfl); (case hr => first | (go_simp; done) | (go_simp; rfl))
          intro gb436 hg w35 hbox hb
          have HS0_ := (hb.cell (World.block_lt_of_cell? _ _ (hHeld.1))).trans (hHeld.1)
          have HS1_ := (hb.cell (World.block_lt_of_cell? _ _ (hHeld.2.1))).trans (hHeld.2.1)
          have HS2_ := (hb.cell (World.block_lt_of_cell? _ _ (hHeld.2.2))).trans (hHeld.2.2)
          have n0_ := Aside0.mk (Kd.R_below (Kd.R_elderB (by (with_reducible repeat (first | apply Kd.R_alloc | apply Kd.R_drewN | apply Kd.R_drew)); exact HO_7.out) gb436 (Nat.le_of_eq hg.symm)) hb)
          have n1_ := Aside0.mk (Kd.R_below (by (with_reducible repeat (first | apply Kd.R_alloc | apply Kd.R_drewN | apply Kd.R_drew)); exact HO_8.out) hb)
          have n2_ := Aside0.mk (below_step (by repeat (first | (with_reducible first | exact HB.out | apply below_alloc | apply pw_below_drewN | apply below_drew1) | exact HB.out)) hb)
          have n3_ := Aside0.mk (hbox)
          have n4_ := Aside0.mk ((by rw [hg]; exact (below_size (by repeat (first | (with_reducible first | exact HB.out | apply below_alloc | apply pw_below_drewN | apply below_drew1) | exact HB.out))) : w.heap.size ≤ gb436))
          have n5_ := Aside0.mk ((by rw [hg]; exact (below_size (by repeat (first | (with_reducible first | exact HB.out | apply below_alloc | apply pw_below_drewN | apply below_drew1) | exact HB.out))) : w.heap.size ≤ gb436))
          clear HO_7
          clear HO_8
          clear HB
          have HO_7 := n0_
          have HO_8 := n1_
          have HB := n2_
          have BK436 := n3_
          have GW436 := n4_
          have GE436 := n5_
          clear n0_ n1_ n2_ n3_ n4_ n5_
          clear hb hbox hg
          refine hK.out _ _ ⟨HS0_, HS1_, HS2_⟩ (fun hHeld => ?_)
          clear hK K
          refine norm_ (a' := ?_) ?_ ?_
          rotate_left
          ·show Act.put _ (some 10) _ = _
           simp only [Act.put, List.setIfInBounds_toArray, List.set_cons_zero, List.set_cons_succ, i64_w, i32_w]
           rfl
          refine one_ (i := 15) (N := some 35) (vb 196607 19) rfl rfl (one_of HT_.out (by kernel_rfl)) (by decide) (fun K hK => ?_)
          refine goes_ Try.func32 (by kernel_rfl) rfl #[.slice A1 l1.length c1, .string (rdOf ByteArray.empty t428 x9_1)] (by rfl) rfl rfl (by (try simp only [List.map_toArray, List.map_cons, List.map_nil]); first | done | rfl | (simp only [List.length_drop, List.length_take]; rfl)) ?_
          with_reducible refine (forebearref10_blob.calls k1 _ _ l1 (rdOf ByteArray.empty t428 x9_1) t435 _ ?side1 ?side2 A9.out).mono ?_
          (case side1 => repeat (first | exact (Kd.C_below HR1.out HB.out) | (with_reducible refine Kd.C_alloc ?_ _) | (with_reducible refine Kd.C_drewN ?_ _) | (with_reducible refine Kd.C_drew ?_)))
          (case side2 => exact HC1.out)
          rintro e w' ⟨rfl, ⟨nd, rfl⟩⟩
          refine ⟨_, rfl, ?_⟩
          refine hK.out _ _ ⟨hHeld.1, hHeld.2.1, hHeld.2.2⟩ (fun hHeld => ?_)
          clear hK K
          refine norm_ (a' := ?_) ?_ ?_
          rotate_left
          ·show Act.put _ (some 35) _ = _
           simp only [Act.put, List.setIfInBounds_toArray, List.set_cons_zero, List.set_cons_succ, i64_w, i32_w]
           rfl
          refine pure_ (i := 16) (N := some 36) (v := ?_) (a' := ?_) (vb 262143 19) rfl rfl (any_of HT_.out (by kernel_rfl)) (fun _ _ _ h => h) (Or.inl ⟨by rfl, ?_⟩) ?_ ?_
          rotate_left
          ·intro w'
           go_simp
           with_reducible rfl
          rotate_left
          ·simp only [Act.put, List.setIfInBounds_toArray, List.set_cons_zero, List.set_cons_succ, i64_w, i32_w]
           rfl
          exact norm_ (by simp only [putAll, Act.put, List.setIfInBounds_toArray, List.set_cons_zero, List.set_cons_succ]) (hCont (gb436) _ ⟨hHeld, (by (with_reducible repeat (first | apply Kd.R_alloc | apply Kd.R_drewN | apply Kd.R_drew)); exact Kd.R_mono HO_7.out (fun _ hk => hk.2)), (by (with_reducible repeat (first | apply Kd.R_alloc | apply Kd.R_drewN | apply Kd.R_drew)); exact HO_8.out), (by (with_reducible repeat (first | refine blk_drewN ?_ _ | refine blk_drew ?_ | refine blk_alloc ?_ _)); exact BK436.out), GW436.out, GE436.out, (by repeat (first | (with_reducible first | exact HB.out | apply below_alloc | apply pw_below_drewN | apply below_drew1 | refine below_set ?_ GE436.out) | exact HB.out))⟩)
        ·skip
         refine box_step ?hg (N := 10) ?hd (cs := #[.string (⟨#[]⟩ : ByteArray), .int .u64 0, .int .u64 0]) (t := 55) ?hr ?_; (case hd => rfl); (case hg => rfl); (case hr => first | (go_simp; done) | (go_simp; rfl))
         intro gb436 hg w35 hbox hb
         have HS0_ := (hb.cell (World.block_lt_of_cell? _ _ (hHeld.1))).trans (hHeld.1)
         have HS1_ := (hb.cell (World.block_lt_of_cell? _ _ (hHeld.2.1))).trans (hHeld.2.1)
         have HS2_ := (hb.cell (World.block_lt_of_cell? _ _ (hHeld.2.2))).trans (hHeld.2.2)
         have n0_ := Aside0.mk (Kd.R_below (Kd.R_elderB (by (with_reducible repeat (first | apply Kd.R_alloc | apply Kd.R_drewN | apply Kd.R_drew)); exact HO_7.out) gb436 (Nat.le_of_eq hg.symm)) hb)
         have n1_ := Aside0.mk (Kd.R_below (by (with_reducible repeat (first | apply Kd.R_alloc | apply Kd.R_drewN | apply Kd.R_drew)); exact HO_8.out) hb)
         have n2_ := Aside0.mk (below_step (by repeat (first | (with_reducible first | exact HB.out | apply below_alloc | apply pw_below_drewN | apply below_drew1) | exact HB.out)) hb)
         have n3_ := Aside0.mk (hbox)
         have n4_ := Aside0.mk ((by rw [hg]; exact (below_size (by repeat (first | (with_reducible first | exact HB.out | apply below_alloc | apply pw_below_drewN | apply below_drew1) | exact HB.out))) : w.heap.size ≤ gb436))
         have n5_ := Aside0.mk ((by rw [hg]; exact (below_size (by repeat (first | (with_reducible first | exact HB.out | apply below_alloc | apply pw_below_drewN | apply below_drew1) | exact HB.out))) : w.heap.size ≤ gb436))
         clear HO_7
         clear HO_8
         clear HB
         have HO_7 := n0_
         have HO_8 := n1_
         have HB := n2_
         have BK436 := n3_
         have GW436 := n4_
         have GE436 := n5_
         clear n0_ n1_ n2_ n3_ n4_ n5_
         clear hb hbox hg
         refine hK.out _ _ ⟨HS0_, HS1_, HS2_⟩ (fun hHeld => ?_)
         clear hK K
         refine norm_ (a' := ?_) ?_ ?_
         rotate_left
         ·show Act.put _ (some 10) _ = _
          simp only [Act.put, List.setIfInBounds_toArray, List.set_cons_zero, List.set_cons_succ, i64_w, i32_w]
          rfl
         refine one_ (i := 9) (N := some 29) (vb 163839 19) rfl rfl (one_of HT_.out (by kernel_rfl)) (by decide) (fun K hK => ?_)
         refine goes_ Try.func32 (by kernel_rfl) rfl #[.slice A0 l0.length c0, .string (rdOf ByteArray.empty t428 x9_1)] (by rfl) rfl rfl (by (try simp only [List.map_toArray, List.map_cons, List.map_nil]); first | done | rfl | (simp only [List.length_drop, List.length_take]; rfl)) ?_
         with_reducible refine (forebearref10_blob.calls k1 _ _ l0 (rdOf ByteArray.empty t428 x9_1) t433 _ ?side1 ?side2 A8.out).mono ?_
         (case side1 => repeat (first | exact (Kd.C_below HR0.out HB.out) | (with_reducible refine Kd.C_alloc ?_ _) | (with_reducible refine Kd.C_drewN ?_ _) | (with_reducible refine Kd.C_drew ?_)))
         (case side2 => exact HC0.out)
         rintro e w' ⟨rfl, ⟨nd, rfl⟩⟩
         refine ⟨_, rfl, ?_⟩
         refine hK.out _ _ ⟨hHeld.1, hHeld.2.1, hHeld.2.2⟩ (fun hHeld => ?_)
         clear hK K
         refine norm_ (a' := ?_) ?_ ?_
         rotate_left
         ·show Act.put _ (some 29) _ = _
          simp only [Act.put, List.setIfInBounds_toArray, List.set_cons_zero, List.set_cons_succ, i64_w, i32_w]
          rfl
         refine one_ (i := 15) (N := some 35) (vb 196607 19) rfl rfl (one_of HT_.out (by kernel_rfl)) (by decide) (fun K hK => ?_)
         refine goes_ Try.func32 (by kernel_rfl) rfl #[.slice A1 l1.length c1, .string (rdOf ByteArray.empty t428 x9_1)] (by rfl) rfl rfl (by (try simp only [List.map_toArray, List.map_cons, List.map_nil]); first | done | rfl | (simp only [List.length_drop, List.length_take]; rfl)) ?_
         with_reducible refine (forebearref10_blob.calls k1 _ _ l1 (rdOf ByteArray.empty t428 x9_1) t435 _ ?side1 ?side2 A9.out).mono ?_
         (case side1 => repeat (first | exact (Kd.C_below HR1.out (by repeat (first | (with_reducible first | exact HB.out | apply below_alloc | apply pw_below_drewN | apply below_drew1 | refine below_set ?_ GE436.out) | exact HB.out))) | (with_reducible refine Kd.C_alloc ?_ _) | (with_reducible refine Kd.C_drewN ?_ _) | (with_reducible refine Kd.C_drew ?_)))
         (case side2 => exact HC1.out)
         rintro e w' ⟨rfl, ⟨nd, rfl⟩⟩
         refine ⟨_, rfl, ?_⟩
         refine hK.out _ _ ⟨hHeld.1, hHeld.2.1, hHeld.2.2⟩ (fun hHeld => ?_)
         clear hK K
         refine norm_ (a' := ?_) ?_ ?_
         rotate_left
         ·show Act.put _ (some 35) _ = _
          simp only [Act.put, List.setIfInBounds_toArray, List.set_cons_zero, List.set_cons_succ, i64_w, i32_w]
          rfl
         refine pure_ (i := 16) (N := some 36) (v := ?_) (a' := ?_) (vb 262143 19) rfl rfl (any_of HT_.out (by kernel_rfl)) (fun _ _ _ h => h) (Or.inl ⟨by rfl, ?_⟩) ?_ ?_
         rotate_left
         ·intro w'
          go_simp
          with_reducible rfl
         rotate_left
         ·simp only [Act.put, List.setIfInBounds_toArray, List.set_cons_zero, List.set_cons_succ, i64_w, i32_w]
          rfl
         exact norm_ (by simp only [putAll, Act.put, List.setIfInBounds_toArray, List.set_cons_zero, List.set_cons_succ]) (hCont (gb436) _ ⟨hHeld, (by (with_reducible repeat (first | apply Kd.R_alloc | apply Kd.R_drewN | apply Kd.R_drew)); exact Kd.R_mono HO_7.out (fun _ hk => hk.2)), (by (with_reducible repeat (first | apply Kd.R_alloc | apply Kd.R_drewN | apply Kd.R_drew)); exact HO_8.out), (by (with_reducible repeat (first | refine blk_drewN ?_ _ | refine blk_drew ?_ | refine blk_alloc ?_ _)); exact BK436.out), GW436.out, GE436.out, (by repeat (first | (with_reducible first | exact HB.out | apply below_alloc | apply pw_below_drewN | apply below_drew1 | refine below_set ?_ GE436.out) | exact HB.out))⟩)
       rintro gb436 w36 ⟨hS_, h0_, h1_, h2_, h3_, h4_, h5_⟩
       have n0_ : Aside0 (Kd.R k55 55 w36 w.heap.size (fun k_ => k_ ≠ gb436) u7 x7_1) := ⟨h0_⟩
       have n1_ : Aside0 (Kd.R Kd.string 9 w36 w.heap.size (fun _ => True) (.slice (some ad431) t428.length co33) t428) := ⟨h1_⟩
       have n2_ : Aside0 (w36.heap[gb436]? = some (.cells #[.string (⟨#[]⟩ : ByteArray), .int .u64 0, .int .u64 0] 55 (0, 0))) := ⟨h2_⟩
       have n3_ : Aside0 (w.heap.size ≤ gb436) := ⟨h3_⟩
       have n4_ : Aside0 (w.heap.size ≤ gb436) := ⟨h4_⟩
       have n5_ : Aside0 (Below w.heap.size w w36) := ⟨h5_⟩
       clear HO_7
       clear HO_8
       clear HB
       clear h0_ h1_ h2_ h3_ h4_ h5_
       have HO_7 := n0_
       have HO_8 := n1_
       have BK436 := n2_
       have GW436 := n3_
       have GE436 := n4_
       have HB := n5_
       clear n0_ n1_ n2_ n3_ n4_ n5_
       have hHeld : w36.cell? (ad431.add (x9_1).toNat) = some (.string (rdOf ByteArray.empty t428 x9_1)) ∧ w36.cell? (ad431.add (x9_1).toNat) = some (.string (rdOf ByteArray.empty t428 x9_1)) ∧ w36.cell? (ad431.add (x9_1).toNat) = some (.string (rdOf ByteArray.empty t428 x9_1)) := hS_
       refine norm_ (a' := ?_) ?_ ?_
       rotate_left
       ·simp only [putAll, Act.put, List.setIfInBounds_toArray, List.set_cons_zero, List.set_cons_succ]
        rfl
       refine one_ (i := 18) (N := none) (vb 524287 19) rfl rfl (one_of HT_.out (by kernel_rfl)) (by decide) (fun K hK => ?_)
       have hs37 : w36.cell? ⟨gb436, 0, none⟩ = some (.string (⟨#[]⟩ : ByteArray)) := (blk_cell BK436.out 0).trans rfl
       have hfs37 := blk_frozen BK436.out 0
       have hs38 : w36.cell? ⟨gb436, 1, none⟩ = some (.int .u64 0) := (blk_cell BK436.out 1).trans rfl
       have hfs38 := blk_frozen BK436.out 1
       have hs39 : w36.cell? ⟨gb436, 2, none⟩ = some (.int .u64 0) := (blk_cell BK436.out 2).trans rfl
       have hfs39 := blk_frozen BK436.out 2
       refine skip_ (w1 := ?_) (by rfl) rfl ?_ ?_
       rotate_left
       ·go_simp
        rfl
       refine hK.out _ _ ⟨((cell_far (p := ⟨gb436, _, none⟩) (by first | exact Kd.own_blk (Kd.R_ne HO_8.out BK436.out (by decide)) | (rw [add_block]; exact Kd.own_blk (Kd.R_ne HO_8.out BK436.out (by decide))) | (show (Addr.add _ _).block ≠ _; rw [add_block]; exact Kd.own_blk (Kd.R_ne HO_8.out BK436.out (by decide))) | (dsimp only; exact Kd.own_blk (Kd.R_ne HO_8.out BK436.out (by decide)))) _).trans (((cell_far (p := ⟨gb436, _, none⟩) (by first | exact Kd.own_blk (Kd.R_ne HO_8.out BK436.out (by decide)) | (rw [add_block]; exact Kd.own_blk (Kd.R_ne HO_8.out BK436.out (by decide))) | (show (Addr.add _ _).block ≠ _; rw [add_block]; exact Kd.own_blk (Kd.R_ne HO_8.out BK436.out (by decide))) | (dsimp only; exact Kd.own_blk (Kd.R_ne HO_8.out BK436.out (by decide)))) _).trans (((cell_far (p := ⟨gb436, _, none⟩) (by first | exact Kd.own_blk (Kd.R_ne HO_8.out BK436.out (by decide)) | (rw [add_block]; exact Kd.own_blk (Kd.R_ne HO_8.out BK436.out (by decide))) | (show (Addr.add _ _).block ≠ _; rw [add_block]; exact Kd.own_blk (Kd.R_ne HO_8.out BK436.out (by decide))) | (dsimp only; exact Kd.own_blk (Kd.R_ne HO_8.out BK436.out (by decide)))) _).trans (hHeld.1)))))), ((cell_far (p := ⟨gb436, _, none⟩) (by first | exact Kd.own_blk (Kd.R_ne HO_8.out BK436.out (by decide)) | (rw [add_block]; exact Kd.own_blk (Kd.R_ne HO_8.out BK436.out (by decide))) | (show (Addr.add _ _).block ≠ _; rw [add_block]; exact Kd.own_blk (Kd.R_ne HO_8.out BK436.out (by decide))) | (dsimp only; exact Kd.own_blk (Kd.R_ne HO_8.out BK436.out (by decide)))) _).trans (((cell_far (p := ⟨gb436, _, none⟩) (by first | exact Kd.own_blk (Kd.R_ne HO_8.out BK436.out (by decide)) | (rw [add_block]; exact Kd.own_blk (Kd.R_ne HO_8.out BK436.out (by decide))) | (show (Addr.add _ _).block ≠ _; rw [add_block]; exact Kd.own_blk (Kd.R_ne HO_8.out BK436.out (by decide))) | (dsimp only; exact Kd.own_blk (Kd.R_ne HO_8.out BK436.out (by decide)))) _).trans (((cell_far (p := ⟨gb436, _, none⟩) (by first | exact Kd.own_blk (Kd.R_ne HO_8.out BK436.out (by decide)) | (rw [add_block]; exact Kd.own_blk (Kd.R_ne HO_8.out BK436.out (by decide))) | (show (Addr.add _ _).block ≠ _; rw [add_block]; exact Kd.own_blk (Kd.R_ne HO_8.out BK436.out (by decide))) | (dsimp only; exact Kd.own_blk (Kd.R_ne HO_8.out BK436.out (by decide)))) _).trans (hHeld.2.1)))))), ((cell_far (p := ⟨gb436, _, none⟩) (by first | exact Kd.own_blk (Kd.R_ne HO_8.out BK436.out (by decide)) | (rw [add_block]; exact Kd.own_blk (Kd.R_ne HO_8.out BK436.out (by decide))) | (show (Addr.add _ _).block ≠ _; rw [add_block]; exact Kd.own_blk (Kd.R_ne HO_8.out BK436.out (by decide))) | (dsimp only; exact Kd.own_blk (Kd.R_ne HO_8.out BK436.out (by decide)))) _).trans (((cell_far (p := ⟨gb436, _, none⟩) (by first | exact Kd.own_blk (Kd.R_ne HO_8.out BK436.out (by decide)) | (rw [add_block]; exact Kd.own_blk (Kd.R_ne HO_8.out BK436.out (by decide))) | (show (Addr.add _ _).block ≠ _; rw [add_block]; exact Kd.own_blk (Kd.R_ne HO_8.out BK436.out (by decide))) | (dsimp only; exact Kd.own_blk (Kd.R_ne HO_8.out BK436.out (by decide)))) _).trans (((cell_far (p := ⟨gb436, _, none⟩) (by first | exact Kd.own_blk (Kd.R_ne HO_8.out BK436.out (by decide)) | (rw [add_block]; exact Kd.own_blk (Kd.R_ne HO_8.out BK436.out (by decide))) | (show (Addr.add _ _).block ≠ _; rw [add_block]; exact Kd.own_blk (Kd.R_ne HO_8.out BK436.out (by decide))) | (dsimp only; exact Kd.own_blk (Kd.R_ne HO_8.out BK436.out (by decide)))) _).trans (hHeld.2.2))))))⟩ (fun hHeld => ?_)
       clear hK K
       refine done_ (done_of HT_.out (by kernel_rfl)) ?_
       have hcz40_0 : w36.cell? ⟨gb436, 0, none⟩ = some (.string (⟨#[]⟩ : ByteArray)) := (blk_cell BK436.out 0).trans rfl
       have hcz40_1 : w36.cell? ⟨gb436, 1, none⟩ = some (.int .u64 0) := (blk_cell BK436.out 1).trans rfl
       have hcz40_2 : w36.cell? ⟨gb436, 2, none⟩ = some (.int .u64 0) := (blk_cell BK436.out 2).trans rfl
       have hfz40_0 := blk_frozen BK436.out 0
       have hfz40_1 := blk_frozen BK436.out 1
       have hfz40_2 := blk_frozen BK436.out 2
       have p437 : 0 ≤ (x9_1 : Int) := of_decide_eq_true (by first | (with_reducible assumption) | assumption)
       have q437 : x9_1 < (t428.length : Int) := of_decide_eq_true (by first | (with_reducible assumption) | assumption)
       obtain ⟨ad437, e437, hx437_0⟩ := Kd.at_string (Kd.R_reads' HO_8.out).2.2 x9_1 p437 q437
       obtain rfl : ad431 = ad437 := (by injection e437)
       have hn437_0 : ad431.block ≠ gb436 := Kd.own_blk (Kd.R_ne HO_8.out BK436.out (by decide))
       have hn437_1 : ad431.block ≠ gb436 := Kd.own_blk (Kd.R_ne HO_8.out BK436.out (by decide))
       have hn437_2 : ad431.block ≠ gb436 := Kd.own_blk (Kd.R_ne HO_8.out BK436.out (by decide))
       replace hx437_0 := (cell_far (p := ⟨gb436, 0, none⟩) (by first | (rw [add_block]; exact hn437_0) | (show (Addr.add _ _).block ≠ _; rw [add_block]; exact hn437_0) | exact hn437_0) (.string (rdOf ByteArray.empty t428 x9_1))).trans hx437_0
       replace hx437_0 := (cell_far (p := ⟨gb436, 1, none⟩) (by first | (rw [add_block]; exact hn437_1) | (show (Addr.add _ _).block ≠ _; rw [add_block]; exact hn437_1) | exact hn437_1) (.int .u64 t433)).trans hx437_0
       replace hx437_0 := (cell_far (p := ⟨gb436, 2, none⟩) (by first | (rw [add_block]; exact hn437_2) | (show (Addr.add _ _).block ≠ _; rw [add_block]; exact hn437_2) | exact hn437_2) (.int .u64 t435)).trans hx437_0
       clear hn437_0
       clear hn437_1
       clear hn437_2
       replace p437 := eq_true p437
       replace q437 := eq_true q437
       try go_wp2_with (first | (go_at_call 48; (with_reducible refine (forebearref03_In.calls k1 _ _ l2 (rdOf ByteArray.empty t428 x9_1) false _ ?side1 ?side2 A19.out).mono ?_); (case side1 => exact Kd.C_below HR2.out (by repeat (first | (with_reducible first | exact HB.out | apply below_alloc | apply pw_below_drewN | apply below_drew1 | refine below_set ?_ GE436.out) | exact HB.out))); (case side2 => exact HC2.out); rintro e w41 ⟨rfl, hb⟩; have n0_ := Aside0.mk (Kd.R_below (by (with_reducible repeat (first | apply Kd.R_alloc | apply Kd.R_drewN | apply Kd.R_drew)); exact (Kd.R_mono (Kd.R_far (p := ⟨gb436, 2, none⟩) (Kd.R_far (p := ⟨gb436, 1, none⟩) (Kd.R_far (p := ⟨gb436, 0, none⟩) (Kd.R_mono HO_7.out (fun k_ hk => (⟨hk, hk⟩ : _ ∧ k_ ≠ gb436))) (fun _ hk => hk.2) (.string (rdOf ByteArray.empty t428 x9_1))) (fun _ hk => hk.2) (.int .u64 t433)) (fun _ hk => hk.2) (.int .u64 t435)) (fun _ h_ => h_.1))) hb); have n1_ := Aside0.mk (Kd.R_below (by (with_reducible repeat (first | apply Kd.R_alloc | apply Kd.R_drewN | apply Kd.R_drew)); exact (Kd.R_mono (Kd.R_far (p := ⟨gb436, 2, none⟩) (Kd.R_far (p := ⟨gb436, 1, none⟩) (Kd.R_far (p := ⟨gb436, 0, none⟩) (Kd.R_types HO_8.out BK436.out (by decide)) (fun _ hk => hk.2) (.string (rdOf ByteArray.empty t428 x9_1))) (fun _ hk => hk.2) (.int .u64 t433)) (fun _ hk => hk.2) (.int .u64 t435)) (fun _ h_ => h_.1))) hb); have n2_ := Aside0.mk (blk_below (g := gb436) (o := .cells #[.string (rdOf ByteArray.empty t428 x9_1), .int .u64 t433, .int .u64 t435] 55 (0, 0)) (by (with_reducible repeat (first | refine blk_drewN ?_ _ | refine blk_drew ?_ | refine blk_alloc ?_ _)); refine blk_put (cs := #[.string (rdOf ByteArray.empty t428 x9_1), .int .u64 t433, .int .u64 0]) ?_ 2 _ rfl; (with_reducible repeat (first | refine blk_drewN ?_ _ | refine blk_drew ?_ | refine blk_alloc ?_ _)); refine blk_put (cs := #[.string (rdOf ByteArray.empty t428 x9_1), .int .u64 0, .int .u64 0]) ?_ 1 _ rfl; (with_reducible repeat (first | refine blk_drewN ?_ _ | refine blk_drew ?_ | refine blk_alloc ?_ _)); refine blk_put (cs := #[.string (⟨#[]⟩ : ByteArray), .int .u64 0, .int .u64 0]) ?_ 0 _ rfl; (with_reducible repeat (first | refine blk_drewN ?_ _ | refine blk_drew ?_ | refine blk_alloc ?_ _)); exact BK436.out) hb); have n3_ := Aside0.mk (below_step (by repeat (first | (with_reducible first | exact HB.out | apply below_alloc | apply pw_below_drewN | apply below_drew1 | refine below_set ?_ GE436.out) | exact HB.out)) hb); clear HO_7; clear HO_8; clear BK436; clear HB; have HO_7 := n0_; have HO_8 := n1_; have BK436 := n2_; have HB := n3_; clear n0_ n1_ n2_ n3_; (try clear hb); (try clear hb2); (try clear hk); (try clear hi)))
       go_roundg k1
       case measure => have := HK1.out; omega
       case rel => exact ⟨(x7_1), (wrap64 (x9_1 + 1)), (by first | rfl | (simp; done) | (simp [*]; done)), H', ⟨by have := HK1.out; omega⟩, ⟨by (with_reducible repeat (first | apply Kd.R_alloc | apply Kd.R_drewN | apply Kd.R_drew)); exact Kd.R_mono HO_7.out (fun _ hk => trivial)⟩, ⟨by (with_reducible repeat (first | apply Kd.R_alloc | apply Kd.R_drewN | apply Kd.R_drew)); exact HO_8.out⟩, ⟨by repeat (first | (with_reducible first | exact HB.out | apply below_alloc | apply pw_below_drewN | apply below_drew1 | refine below_set ?_ GE436.out) | exact HB.out)⟩⟩
    ·rw [if_neg c7] at H
     exact absurd H (by simp)
   ·rw [if_neg c6] at H
    have c6b0 : decide (x9_1 < (t428.length : Int)) = false := decide_eq_false c6
    clear c6
    obtain rfl := Option.some.inj H
    obtain ⟨Ao42, co42, eo42⟩ := Kd.R_slice HO_8.out
    subst eo42
    go_wp2
    go_ret
    exact ⟨_, by first | rfl | (simp [errW_none, errW_some] <;> rfl) | (simp [*, errW_none, errW_some] <;> rfl), by (with_reducible repeat (first | apply Kd.R_alloc | apply Kd.R_drewN | apply Kd.R_drew)); exact HO_7.out, by repeat (first | (with_reducible first | exact HB.out | apply below_alloc | apply pw_below_drewN | apply below_drew1) | exact HB.out)⟩

end Go.Proofs.Ytjnefjggmeieaaa.MT

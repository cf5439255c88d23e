/- Laid by this claim's own program (myprint) out of the translation: functions that the laws of the group F reach, each as a plain function, with the proof that the Go code comes to it. No condition. -/
import Derived.Test.YtgfiapeinpcipaaMFx0
import Derived.Test.YtgfiapeinpcipaaMFx1
namespace Go.Proofs.Ytgfiapeinpcipaa.MF
open Go.Proofs.Ytgfiapeinpcipaa.Opening
open Go.RowKit Go.Proofs.YtgfiapeinpcipaaW.PrintWords Go.Proofs.YtgfiapeinpcipaaW.PrintLast Go.Proofs.YtgfiapeinpcipaaW.PrintMore
attribute [local go_sem] max2_int min2_int max_two min_two max_three min_three max_four min_four   -- for this text's walks alone
set_option linter.unusedVariables false
set_option linter.unusedSimpArgs false

/-! ### filter_Bits: function 16 -/
def filter_Bits.f (l0 : List Int) : Option (Int) := if (l0.length : Int) < 2 then (some 0) else (if 0 < (l0.length : Int) then (if (rd l0 0) = 1 then (some (wrap64 (8 * (wrap64 ((l0.length : Int) - 1))))) else (some 0)) else (none))
set_option maxHeartbeats 8000000 in
set_option maxRecDepth 100000 in
theorem filter_Bits.calls (A0 : Option Addr) (c0 : Nat) (l0 : List Int) (r : Int) (w : World) (hr0 : Kd.C (Kd.int .u8) w A0 l0.length l0) (hc0 : l0.length ≤ c0) (h : filter_Bits.f l0 = some r) :
    Calls Try.prog 16 #[.slice A0 l0.length c0] w fun e w' => e = .returned (.int .i64 r) ∧ Drawn0 w w' := by
  have HR0 := Aside0.mk hr0
  have HC0 := Aside0.mk hc0
  clear hr0 hc0
  have H : (if (l0.length : Int) < 2 then (some 0) else (if 0 < (l0.length : Int) then (if (rd l0 0) = 1 then (some (wrap64 (8 * (wrap64 ((l0.length : Int) - 1))))) else (some 0)) else (none))) = some r := h
  clear h
  by_cases c2 : (l0.length : Int) < 2
  · rw [if_pos c2] at H
    have c2b0 : decide ((l0.length : Int) < 2) = true := decide_eq_true c2
    have c2b1 : decide (l0.length < 2) = true := decide_eq_true (by omega)
    clear c2
    obtain rfl := Option.some.inj H
    go_enter Try.func16, Try.ntmps16
    go_wp2
    go_ret
    exact ⟨by first | rfl | (simp; done) | (simp [*]; done), by repeat (first | exact Drawn0.refl _ | apply Drawn0.step)⟩
  · rw [if_neg c2] at H
    have c2b0 : decide ((l0.length : Int) < 2) = false := decide_eq_false c2
    have c2b1 : decide (l0.length < 2) = false := decide_eq_false (by omega)
    clear c2
    by_cases c3 : 0 < (l0.length : Int)
    · rw [if_pos c3] at H
      have c3b0 : decide (0 < (l0.length : Int)) = true := decide_eq_true c3
      have c3b1 : decide (0 < l0.length) = true := decide_eq_true (by omega)
      clear c3
      by_cases c4 : (rd l0 0) = 1
      · rw [if_pos c4] at H
        have c4b0 : ((rd l0 0) == 1) = true := beq_iff_eq.mpr c4
        have c4b1 : ((rd l0 0) != 1) = false := bne_eq_false_iff_eq.mpr c4
        clear c4
        obtain rfl := Option.some.inj H
        have p120 : 0 ≤ (0 : Int) := (by omega)
        have q120 : 0 < (l0.length : Int) := of_decide_eq_true (by first | (with_reducible assumption) | assumption)
        obtain ⟨ad120, e120, hx120_0⟩ := Kd.at_int HR0.out 0 p120 q120
        cases e120
        have qi120 : (0 < l0.length) = True := eq_true (by omega)
        (try rw [show ((0 : Int)).toNat = 0 from rfl] at hx120_0)
        (try rw [Addr.add_zero'] at hx120_0)
        replace p120 := eq_true p120
        replace q120 := eq_true q120
        go_enter Try.func16, Try.ntmps16
        go_wp2
        go_ret
        exact ⟨by first | rfl | (simp; done) | (simp [*]; done), by repeat (first | exact Drawn0.refl _ | apply Drawn0.step)⟩
      · rw [if_neg c4] at H
        have c4b0 : ((rd l0 0) == 1) = false := beq_eq_false_iff_ne.mpr c4
        have c4b1 : ((rd l0 0) != 1) = true := bne_iff_ne.mpr c4
        obtain rfl := Option.some.inj H
        have p120 : 0 ≤ (0 : Int) := (by omega)
        have q120 : 0 < (l0.length : Int) := of_decide_eq_true (by first | (with_reducible assumption) | assumption)
        obtain ⟨ad120, e120, hx120_0⟩ := Kd.at_int HR0.out 0 p120 q120
        cases e120
        have qi120 : (0 < l0.length) = True := eq_true (by omega)
        (try rw [show ((0 : Int)).toNat = 0 from rfl] at hx120_0)
        (try rw [Addr.add_zero'] at hx120_0)
        replace p120 := eq_true p120
        replace q120 := eq_true q120
        go_enter Try.func16, Try.ntmps16
        go_wp2
        go_ret
        exact ⟨by first | rfl | (simp; done) | (simp [*]; done), by repeat (first | exact Drawn0.refl _ | apply Drawn0.step)⟩
    · rw [if_neg c3] at H
      exact absurd H (by simp)

/-! ### slices_Clone_string_string: function 33 -/
def slices_Clone_string_string.f (l0 : List ByteArray) : Option (List ByteArray) := (some (([] : List ByteArray) : List ByteArray)).bind fun y121 => (if y121.length + l0.length < 8796093022208 then (some (y121 ++ l0)) else (none))
set_option maxHeartbeats 8000000 in
set_option maxRecDepth 100000 in
theorem slices_Clone_string_string.calls (A0 : Option Addr) (c0 : Nat) (l0 : List ByteArray) (r : List ByteArray) (w : World) (hr0 : Kd.C Kd.string w A0 l0.length l0) (hc0 : l0.length ≤ c0) (h : slices_Clone_string_string.f l0 = some r) :
    Calls Try.prog 33 #[.slice A0 l0.length c0] w fun e w' => ∃ v0_ : Value, e = .returned (v0_) ∧ Kd.R Kd.string 9 w' w.heap.size (fun _ => True) v0_ r ∧ Below w.heap.size w w' := by
  cases A0 with
  | none =>
    have hl := hr0.2.2
    have hn : l0 = [] := by
      rcases l0 with _ | ⟨x, l0⟩
      · rfl
      · obtain ⟨_, h2, _⟩ := hl (by simp)
        cases h2
    subst hn
    clear hl hr0 hc0
    have hq := fun W => Lib.run_eql_slice_nil (P := Try.prog) W 22 9 none 0 c0 0 0 Try.underlying22
    obtain rfl : [] = r := by simpa [slices_Clone_string_string.f] using h
    clear h
    go_enter Try.func33, Try.ntmps33
    go_wp2
    go_ret
    exact ⟨_, rfl, Kd.R_nil _ _ _ _ _, Below.refl _ _⟩
  | some ad0_ =>
  have hq_ := fun (W : World) (n_ : Nat) => Lib.run_eql_slice_nil (P := Try.prog) W 22 9 (some ad0_) n_ c0 0 0 Try.underlying22
  have HR0 := Aside0.mk hr0
  have HC0 := Aside0.mk hc0
  clear hr0 hc0
  have HB := Aside0.mk (Below.refl w.heap.size w)
  have H : ((some (([] : List ByteArray) : List ByteArray)).bind fun y121 => (if y121.length + l0.length < 8796093022208 then (some (y121 ++ l0)) else (none))) = some r := h
  clear h
  obtain ⟨y121, hy121⟩ : ∃ y_ : List ByteArray, y_ = (([] : List ByteArray)) := ⟨_, rfl⟩
  replace H : (if y121.length + l0.length < 8796093022208 then (some (y121 ++ l0)) else (none)) = some r := by first | (rw [hy121]; with_reducible exact H) | (have H2_ := (Option.bind_some _ _).symm.trans H; rw [hy121]; with_reducible exact H2_) | (have H2_ := (Option.bind_some _ _).symm.trans H; with_reducible exact H2_) | with_reducible exact H | (rw [hy121]; exact H) | exact H
  have Ny121 := Aside0.mk hy121
  clear hy121
  by_cases c2 : y121.length + l0.length < 8796093022208
  · rw [if_pos c2] at H
    have LMc2 := Aside0.mk c2
    clear c2
    obtain ⟨y124, hy124⟩ : ∃ y_ : List ByteArray, y_ = (y121 ++ l0) := ⟨_, rfl⟩
    replace H : (some y124) = some r := by first | (rw [hy124]; with_reducible exact H) | (have H2_ := (Option.bind_some _ _).symm.trans H; rw [hy124]; with_reducible exact H2_) | (have H2_ := (Option.bind_some _ _).symm.trans H; with_reducible exact H2_) | with_reducible exact H | (rw [hy124]; exact H) | exact H
    have Ny124 := Aside0.mk hy124
    clear hy124
    obtain rfl := Option.some.inj H
    go_enter Try.func33, Try.ntmps33
    go_wp2_with (first | ((with_reducible refine gate_dst (N := 5) rfl ?_); refine Kd.R_lit Kd.string _ 9 ?hg (N := 5) ?hd (xs := ([] : List ByteArray)) (inner := []) (ok := fun _ => True) (okp := fun _ => True) ?hr ?hp (fun _ hk => hk) trivial (Below.refl _ _) (Nat.le_refl _) (by simp) ?_; (case hd => rfl); (case hg => rfl); (case hr => first | (go_simp; done) | (go_simp; rfl)); (case hp => exact (Reps.none _ _)); intro v122 w3 ho4 hb hg_ hnew_; clear hg_ hnew_; (first | rw [← Ny121.out] at ho4 | (simp only [Int.reduceToNat] at ho4; rw [← Ny121.out] at ho4)); have n0_ := Aside0.mk (Kd.R_lower ho4 (below_size (by repeat (first | (with_reducible first | exact HB.out | apply below_alloc | apply pw_below_drewN | apply below_drew1) | exact HB.out)))); have n1_ := Aside0.mk (below_step (by repeat (first | (with_reducible first | exact HB.out | apply below_alloc | apply pw_below_drewN | apply below_drew1) | exact HB.out)) hb); clear HB; have HO123 := n0_; have HB := n1_; clear n0_ n1_; clear hb ho4) | ((with_reducible refine gate_builtin (b := .append) (xs := #[.tmp 5, .tmp 6]) rfl ?_); at_builtin; refine Kd.R_append_rows Kd.string (w0 := w) w.heap.size rfl (.tmp 5) (.tmp 6) 22 9 (.string ⟨#[]⟩) 16 rfl Try.underlying22 info9 rfl (by decide) (by omega) v122 y121 l0 _ _ _ (fun _ => True) (fun _ => False) rfl rfl ?aO ?aR (fun _ _ h => h) (fun _ h => h.elim) ?aF ?aB ?aS ?aL ?_; (case aR => repeat (first | exact (Kd.C_below HR0.out HB.out) | (with_reducible refine Kd.C_alloc ?_ _) | (with_reducible refine Kd.C_drewN ?_ _) | (with_reducible refine Kd.C_drew ?_))); (case aB => exact (by repeat (first | (with_reducible first | exact HB.out | apply below_alloc | apply pw_below_drewN | apply below_drew1) | exact HB.out))); (case aF => exact (fun _ _ => trivial)); (case aO => exact (by (with_reducible repeat (first | apply Kd.R_alloc | apply Kd.R_drewN | apply Kd.R_drew)); exact HO123.out)); (case aS => exact (below_size (by repeat (first | (with_reducible first | exact HB.out | apply below_alloc | apply pw_below_drewN | apply below_drew1) | exact HB.out)))); (case aL => have := LMc2.out; omega); intro v125 w5 ho hb hg hat; rw [← Ny124.out] at ho; have n0_ := Aside0.mk (hb); have n1_ := Aside0.mk (ho); clear HB; clear HO123; have HB := n0_; have HO126 := n1_; clear n0_ n1_; clear ho hb hg hat))
    go_ret
    exact ⟨_, by first | rfl | (simp [errW_none, errW_some] <;> rfl) | (simp [*, errW_none, errW_some] <;> rfl), by (with_reducible repeat (first | apply Kd.R_alloc | apply Kd.R_drewN | apply Kd.R_drew)); exact HO126.out, by repeat (first | (with_reducible first | exact HB.out | apply below_alloc | apply pw_below_drewN | apply below_drew1) | exact HB.out)⟩
  · rw [if_neg c2] at H
    exact absurd H (by simp)

/-! ### slices_Sort_string_string: function 34 -/
def slices_Sort_string_string.f (l0 : List ByteArray) : Option (List ByteArray) := if l0.length < 4611686018427387904 then some (sortS l0) else none
theorem slices_Sort_string_string.calls (P0_ : Nat → Prop) (u9000_ : Value) (l0 : List ByteArray) (r : List ByteArray) (w0 w : World) (hB : Below w0.heap.size w0 w) (ho0 : Kd.R Kd.string 9 w w0.heap.size P0_ u9000_ l0) (h : slices_Sort_string_string.f l0 = some r) :
    Calls Try.prog 34 #[u9000_] w fun e w' => e = .returned (.tuple #[]) ∧ Kd.R Kd.string 9 w' w0.heap.size (fun k_ => (P0_ k_ ∨ w.heap.size ≤ k_)) u9000_ r ∧ Below w0.heap.size w0 w' ∧ Kept w w' (fun k_ => P0_ k_) := by
  unfold slices_Sort_string_string.f at h
  split at h
  · rename_i hsz
    obtain rfl := Option.some.inj h
    exact sortS_calls (fun g cap ys w hH hg hs => Go.Proofs.Any.slices_Sort_string Go.Proofs.Ytgfiapeinpcipaa.Shelf.lays190 g 0 cap ys w hH hg hs) (fun p cap w => Go.Proofs.Any.slices_Sort_string_none Go.Proofs.Ytgfiapeinpcipaa.Shelf.lays190 p cap w) P0_ u9000_ l0 w0 w hB ho0 hsz
  · cases h

/-! ### path_Sort: function 22 -/
def path_Sort.f (l0 : List ByteArray) : Option (List ByteArray) := (slices_Clone_string_string.f l0).bind fun a => (slices_Sort_string_string.f a).bind fun b => if b.length ≤ 9223372036854775807 then some (compactS b) else none
theorem path_Sort.calls (A0 : Option Addr) (c0 : Nat) (l0 : List ByteArray) (r : List ByteArray) (w : World) (hr0 : Kd.C Kd.string w A0 l0.length l0) (hc0 : l0.length ≤ c0) (h : path_Sort.f l0 = some r) :
    Calls Try.prog 22 #[.slice A0 l0.length c0] w fun e w' => ∃ v0_ : Value, e = .returned (v0_) ∧ Kd.R Kd.string 9 w' w.heap.size (fun _ => True) v0_ r ∧ Below w.heap.size w w' := by
  obtain ⟨a, ha, h⟩ := Option.bind_eq_some_iff.1 h
  obtain ⟨b, hb, h⟩ := Option.bind_eq_some_iff.1 h
  split at h
  · rename_i hsz
    obtain rfl := Option.some.inj h
    clear h
    have HA := Aside0.mk ha
    have HB := Aside0.mk hb
    have HR := Aside0.mk hr0
    have HC := Aside0.mk hc0
    have HZ := Aside0.mk hsz
    clear ha hb hr0 hc0 hsz
    go_enter Try.func22, Try.ntmps22
    go_wp2_with (go_at_call 33; refine (slices_Clone_string_string.calls A0 c0 l0 a _ HR.out HC.out HA.out).mono ?_; rintro e w1 ⟨v1, rfl, hR1, hB1⟩; have HR1 := Aside0.mk hR1; have HB1 := Aside0.mk hB1; clear hR1 hB1)
    go_wp2_with (go_at_call 34; refine (slices_Sort_string_string.calls (fun _ => True) v1 a b w _ HB1.out HR1.out HB.out).mono ?_; rintro e w2 ⟨rfl, hR2, hB2, _⟩; have HR2 := Aside0.mk (Kd.R_mono hR2 (ok' := fun _ => True) (fun _ _ => trivial)); have HB2 := Aside0.mk hB2; clear hR2 hB2)
    go_wp2_with (go_at_call 35; refine (compact_after (fun g cap ys w hH h1 h2 => Go.Proofs.Any.slices_Compact_string Go.Proofs.Ytgfiapeinpcipaa.Shelf.lays194 g 0 cap ys w hH h1 h2) (fun p cap w => Go.Proofs.Any.slices_Compact_string_empty Go.Proofs.Ytgfiapeinpcipaa.Shelf.lays194 p cap w) (fun ys => Lib.compact_length_le ys) rfl v1 b w _ HB2.out HR2.out HZ.out).mono ?_; rintro e w3 ⟨v3, rfl, hR3, hB3⟩; have HR3 := Aside0.mk hR3; have HB3 := Aside0.mk hB3; clear hR3 hB3)
    go_ret
    exact ⟨_, rfl, HR3.out, HB3.out⟩
  · cases h

/-! ### filter_Make: function 10 -/
mutual
def filter_Make.l0 : Nat → List ByteArray → List ByteArray → List ByteArray → Int → Int → Option (List Int)
 | 0, _, _, _, _, _ => none
 | k + 1, x3, x4, x14, x15, x16 => if x16 < x15 then (if 0 ≤ x16 then (if x16 < (x14.length : Int) then ((path_Parts.f k (rdOf ByteArray.empty x14 x16)).bind fun t131 => (if (t131.length : Int) > 0 then (if x3.length < 8796093022208 then (if x4.length + t131.length < 8796093022208 then (filter_Make.l0 k (x3 ++ [rdOf ByteArray.empty x14 x16]) (x4 ++ t131) x14 x15 (wrap64 (x16 + 1))) else (none)) else (none)) else (filter_Make.l0 k x3 x4 x14 x15 (wrap64 (x16 + 1))))) else (none)) else (none)) else (if (x3.length : Int) > 8 then (some (([2] : List Int))) else ((path_Sort.f x4).bind fun t143 => (if 0 ≤ (wrap64 (1 + (mx 1 (wrap64 (Int.tdiv (wrap64 ((wrap64 (12 * (t143.length : Int))) + 7)) 8))))) then (if (wrap64 (1 + (mx 1 (wrap64 (Int.tdiv (wrap64 ((wrap64 (12 * (t143.length : Int))) + 7)) 8)))) : Int).toNat ≤ 281474976710656 then ((some (List.replicate (wrap64 (1 + (mx 1 (wrap64 (Int.tdiv (wrap64 ((wrap64 (12 * (t143.length : Int))) + 7)) 8)))) : Int).toNat 0 : List Int)).bind fun y146 => (if 0 < (y146.length : Int) then (filter_Make.l1 k (y146.set (0 : Int).toNat 1) t143 (t143.length : Int) 0) else (none))) else (none)) else (none))))
def filter_Make.l1 : Nat → List Int → List ByteArray → Int → Int → Option (List Int)
 | 0, _, _, _, _ => none
 | k + 1, x8, x49, x50, x51 => if x51 < x50 then (if 0 ≤ x51 then (if x51 < (x49.length : Int) then ((filter_Bits.f x8).bind fun t151 => ((filter_Positions.f k (rdOf ByteArray.empty x49 x51) t151).bind fun t152 => (filter_Make.l2 k x8 x49 x50 x51 t152 (t152.length : Int) 0))) else (none)) else (none)) else (some x8)
def filter_Make.l2 : Nat → List Int → List ByteArray → Int → Int → List Int → Int → Int → Option (List Int)
 | 0, _, _, _, _, _, _, _ => none
 | k + 1, x8, x49, x50, x51, x58, x59, x60 => if x60 < x59 then (if 0 ≤ x60 then (if x60 < (x58.length : Int) then (if 0 ≤ (wrap64 (1 + (wrap64 (Int.tdiv (rd x58 x60) 8)))) then (if (wrap64 (1 + (wrap64 (Int.tdiv (rd x58 x60) 8)))) < (x8.length : Int) then (if 0 ≤ (Int.tmod (rd x58 x60) 8) then (filter_Make.l2 k (x8.set ((wrap64 (1 + (wrap64 (Int.tdiv (rd x58 x60) 8)))) : Int).toNat (Go.bits .or .u8 (rd x8 (wrap64 (1 + (wrap64 (Int.tdiv (rd x58 x60) 8))))) (shl .u8 1 (Int.tmod (rd x58 x60) 8)))) x49 x50 x51 x58 x59 (wrap64 (x60 + 1))) else (none)) else (none)) else (none)) else (none)) else (none)) else (filter_Make.l1 k x8 x49 x50 (wrap64 (x51 + 1)))
end
def filter_Make.f (k : Nat) (l0 : List ByteArray) : Option (List Int) := (path_Sort.f l0).bind fun t127 => (filter_Make.l0 k ([] : List ByteArray) ([] : List ByteArray) t127 (t127.length : Int) 0)
theorem filter_Make.mono_l : ∀ k, (∀ y0 y1 y2 y3 y4, LeO (filter_Make.l0 k y0 y1 y2 y3 y4) (filter_Make.l0 (k + 1) y0 y1 y2 y3 y4)) ∧ (∀ y0 y1 y2 y3, LeO (filter_Make.l1 k y0 y1 y2 y3) (filter_Make.l1 (k + 1) y0 y1 y2 y3)) ∧ (∀ y0 y1 y2 y3 y4 y5 y6, LeO (filter_Make.l2 k y0 y1 y2 y3 y4 y5 y6) (filter_Make.l2 (k + 1) y0 y1 y2 y3 y4 y5 y6))
 | 0 => ⟨fun _ _ _ _ _ r h => by simp [filter_Make.l0] at h, fun _ _ _ _ r h => by simp [filter_Make.l1] at h, fun _ _ _ _ _ _ _ r h => by simp [filter_Make.l2] at h⟩
 | k + 1 => by
  obtain ⟨ih0, ih1, ih2⟩ := filter_Make.mono_l k
  refine ⟨?_, ?_, ?_⟩
  ·intro y0 y1 y2 y3 y4
   unfold filter_Make.l0
   repeat' first
   | (with_reducible exact ih0 _ _ _ _ _)
   | (with_reducible exact ih1 _ _ _ _)
   | (with_reducible exact ih2 _ _ _ _ _ _ _)
   | (with_reducible exact filter_Positions.mono _ _ _)
   | (with_reducible exact path_Parts.mono _ _)
   | (with_reducible exact LeO.refl _)
   | (with_reducible exact LeO.none _)
   | (with_reducible refine LeO.ite ?_ ?_)
   | (with_reducible refine LeO.bind ?_ (fun _ => ?_))
   | exact ih0 _ _ _ _ _
   | exact ih1 _ _ _ _
   | exact ih2 _ _ _ _ _ _ _
   | exact filter_Positions.mono _ _ _
   | exact path_Parts.mono _ _
   | exact LeO.none _
   | refine LeO.ite ?_ ?_
   | refine LeO.bind ?_ (fun _ => ?_)
  ·intro y0 y1 y2 y3
   unfold filter_Make.l1
   repeat' first
   | (with_reducible exact ih0 _ _ _ _ _)
   | (with_reducible exact ih1 _ _ _ _)
   | (with_reducible exact ih2 _ _ _ _ _ _ _)
   | (with_reducible exact filter_Positions.mono _ _ _)
   | (with_reducible exact path_Parts.mono _ _)
   | (with_reducible exact LeO.refl _)
   | (with_reducible exact LeO.none _)
   | (with_reducible refine LeO.ite ?_ ?_)
   | (with_reducible refine LeO.bind ?_ (fun _ => ?_))
   | exact ih0 _ _ _ _ _
   | exact ih1 _ _ _ _
   | exact ih2 _ _ _ _ _ _ _
   | exact filter_Positions.mono _ _ _
   | exact path_Parts.mono _ _
   | exact LeO.none _
   | refine LeO.ite ?_ ?_
   | refine LeO.bind ?_ (fun _ => ?_)
  ·intro y0 y1 y2 y3 y4 y5 y6
   unfold filter_Make.l2
   repeat' first
   | (with_reducible exact ih0 _ _ _ _ _)
   | (with_reducible exact ih1 _ _ _ _)
   | (with_reducible exact ih2 _ _ _ _ _ _ _)
   | (with_reducible exact filter_Positions.mono _ _ _)
   | (with_reducible exact path_Parts.mono _ _)
   | (with_reducible exact LeO.refl _)
   | (with_reducible exact LeO.none _)
   | (with_reducible refine LeO.ite ?_ ?_)
   | (with_reducible refine LeO.bind ?_ (fun _ => ?_))
   | exact ih0 _ _ _ _ _
   | exact ih1 _ _ _ _
   | exact ih2 _ _ _ _ _ _ _
   | exact filter_Positions.mono _ _ _
   | exact path_Parts.mono _ _
   | exact LeO.none _
   | refine LeO.ite ?_ ?_
   | refine LeO.bind ?_ (fun _ => ?_)
theorem filter_Make.mono : ∀ a0 k, LeO (filter_Make.f k a0) (filter_Make.f (k + 1) a0) := by
 intro a0 k
 obtain ⟨ih0, ih1, ih2⟩ := filter_Make.mono_l k
 unfold filter_Make.f
 repeat' first
   | (with_reducible exact ih0 _ _ _ _ _)
   | (with_reducible exact ih1 _ _ _ _)
   | (with_reducible exact ih2 _ _ _ _ _ _ _)
   | (with_reducible exact filter_Positions.mono _ _ _)
   | (with_reducible exact path_Parts.mono _ _)
   | (with_reducible exact LeO.refl _)
   | (with_reducible exact LeO.none _)
   | (with_reducible refine LeO.ite ?_ ?_)
   | (with_reducible refine LeO.bind ?_ (fun _ => ?_))
   | exact ih0 _ _ _ _ _
   | exact ih1 _ _ _ _
   | exact ih2 _ _ _ _ _ _ _
   | exact filter_Positions.mono _ _ _
   | exact path_Parts.mono _ _
   | exact LeO.none _
   | refine LeO.ite ?_ ?_
   | refine LeO.bind ?_ (fun _ => ?_)
def filter_Make.T21 : Bool × List (List Nat × List Nat) := (true, [([], []), ([], []), ([1], [1]), ([2], [2]), ([0, 3], [0, 3]), ([4], [4]), ([], []), ([6], [6]), ([7], [7]), ([5, 8], [5, 8]), ([0, 3, 0, 1, 2, 3, 4, 5, 6, 7, 8, 9], [0, 3]), ([10, 9, 0, 1, 2, 3, 4, 5, 6, 7, 8, 9], [9, 10])])
def filter_Make.B21 : List Nat := [0, 0, 2, 6, 15, 31, 0, 64, 192, 511, 1023, 2047]
theorem filter_Make.tab21 : rtab .any (opsOf Try.f10 21) = filter_Make.T21 := by kernel_rfl
theorem filter_Make.bits21 : waitsOk filter_Make.T21.2 filter_Make.B21 = true := by kernel_rfl
set_option maxHeartbeats 8000000 in
set_option maxRecDepth 100000 in
theorem filter_Make.calls (k : Nat) (A0 : Option Addr) (c0 : Nat) (l0 : List ByteArray) (r : List Int) (w : World) (hr0 : Kd.C Kd.string w A0 l0.length l0) (hc0 : l0.length ≤ c0) (h : filter_Make.f k l0 = some r) :
  Calls Try.prog 10 #[.slice A0 l0.length c0] w fun e w' => ∃ v0_ : Value, e = .returned (v0_) ∧ Kd.R (Kd.int .u8) 5 w' w.heap.size (fun _ => True) v0_ r ∧ Below w.heap.size w w' := by
 have HR0 := Aside0.mk hr0
 have HC0 := Aside0.mk hc0
 clear hr0 hc0
 have HB := Aside0.mk (Below.refl w.heap.size w)
 have H : ((path_Sort.f l0).bind fun t127 => (filter_Make.l0 k ([] : List ByteArray) ([] : List ByteArray) t127 (t127.length : Int) 0)) = some r := h
 clear h
 replace H := Option.bind_eq_some_iff.mp H
 obtain ⟨t127, A20, H⟩ := H
 replace H : (filter_Make.l0 k ([] : List ByteArray) ([] : List ByteArray) t127 (t127.length : Int) 0) = some r := H
 have A2 := Aside0.mk A20
 clear A20
 have H' := Aside0.mk H
 clear H
 go_enter Try.func10, Try.ntmps10
 go_wp2_with (first | ((with_reducible refine gate_callee (f := 22) rfl ?_); refine goesL_ (some 14) rfl rfl Try.func22 (by kernel_rfl) rfl #[.slice A0 l0.length c0] rfl (by (try simp only [List.map_toArray, List.map_cons, List.map_nil]); first | done | rfl | (simp only [List.length_drop, List.length_take]; rfl)) ?_; (with_reducible refine (path_Sort.calls _ _ l0 t127 _ ?side1 ?side2 A2.out).mono ?_); (case side1 => repeat (first | exact HR0.out | (with_reducible refine Kd.C_alloc ?_ _) | (with_reducible refine Kd.C_drewN ?_ _) | (with_reducible refine Kd.C_drew ?_))); (case side2 => exact HC0.out); rintro e w3 ⟨v128, rfl, ho0, hb⟩; refine ⟨_, rfl, ?_⟩; have n0_ := Aside0.mk (Kd.R_lower ho0 (below_size (by repeat (first | (with_reducible first | exact HB.out | apply below_alloc | apply pw_below_drewN | apply below_drew1) | exact HB.out)))); have n1_ := Aside0.mk (below_step (by repeat (first | (with_reducible first | exact HB.out | apply below_alloc | apply pw_below_drewN | apply below_drew1) | exact HB.out)) hb); clear HB; have HO129 := n0_; have HB := n1_; clear n0_ n1_; (try clear hb); (try clear hb2); (try clear hk); (try clear hi); (try clear ho0); obtain ⟨Ao4, co4, eo4⟩ := Kd.R_slice HO129.out; subst eo4))
 go_loopg [3, 4, 16] k (fun kq v3 v4 v16 w' => ∃ (x3_1 : List ByteArray) (x4_1 : List ByteArray) (x16_1 : Int), v16 = .int .i64 x16_1 ∧ Aside0 (filter_Make.l0 kq x3_1 x4_1 t127 (t127.length : Int) x16_1 = some r) ∧ Aside0 (kq ≤ k) ∧ Aside0 (Kd.R Kd.string 9 w' w.heap.size (fun k_ => some k_ ≠ (v4 : Value).ownBlock ∧ some k_ ≠ ((.slice Ao4 t127.length co4) : Value).ownBlock) v3 x3_1) ∧ Aside0 (Kd.R Kd.string 9 w' w.heap.size (fun k_ => some k_ ≠ (v3 : Value).ownBlock ∧ some k_ ≠ ((.slice Ao4 t127.length co4) : Value).ownBlock) v4 x4_1) ∧ Aside0 (Kd.R Kd.string 9 w' w.heap.size (fun k_ => some k_ ≠ (v3 : Value).ownBlock ∧ some k_ ≠ (v4 : Value).ownBlock) (.slice Ao4 t127.length co4) t127) ∧ Aside0 (Below w.heap.size w w'))
 case atStart => exact ⟨(([] : List ByteArray)), (([] : List ByteArray)), (0), (by first | rfl | (simp; done) | (simp [*]; done)), H', ⟨Nat.le_refl _⟩, ⟨by first | exact Kd.R_nil _ _ _ _ _ | exact Kd.N_nil _ _ _ _ _ | exact Kd.V_nil _ _ _ _ _ | exact Kd.Q_nil _ _ _ _ _ | exact Kd.S_nil _ _ _ _ _⟩, ⟨by first | exact Kd.R_nil _ _ _ _ _ | exact Kd.N_nil _ _ _ _ _ | exact Kd.V_nil _ _ _ _ _ | exact Kd.Q_nil _ _ _ _ _ | exact Kd.S_nil _ _ _ _ _⟩, ⟨by (with_reducible repeat (first | apply Kd.R_alloc | apply Kd.R_drewN | apply Kd.R_drew)); exact Kd.R_mono HO129.out (fun _ hk => ⟨(by simp [Value.ownBlock]), (by simp [Value.ownBlock])⟩)⟩, ⟨by repeat (first | (with_reducible first | exact HB.out | apply below_alloc | apply pw_below_drewN | apply below_drew1) | exact HB.out)⟩⟩
 case round =>
  clear H'
  try clear c1
  try clear c2
  try clear p2
  obtain ⟨x3_1, x4_1, x16_1, rfl, HA, HK1, HO_3, HO_4, HO_14, HB⟩ := hrel
  cases gk with
  | zero => exact absurd HA.out (by simp [filter_Make.l0])
  | succ k1 =>
   have H := HA.out
   clear HA
   simp only [filter_Make.l0] at H
   by_cases c5 : x16_1 < (t127.length : Int)
   ·rw [if_pos c5] at H
    have c5b0 : decide (x16_1 < (t127.length : Int)) = true := decide_eq_true c5
    clear c5
    by_cases c6 : 0 ≤ x16_1
    ·rw [if_pos c6] at H
     have c6b0 : decide (0 ≤ x16_1) = true := decide_eq_true c6
     clear c6
     by_cases c7 : x16_1 < (t127.length : Int)
     ·rw [if_pos c7] at H
      have c7b0 : decide (x16_1 < (t127.length : Int)) = true := decide_eq_true c7
      clear c7
      replace H := Option.bind_eq_some_iff.mp H
      obtain ⟨t131, A80, H⟩ := H
      replace H : (if (t131.length : Int) > 0 then (if x3_1.length < 8796093022208 then (if x4_1.length + t131.length < 8796093022208 then (filter_Make.l0 k1 (x3_1 ++ [rdOf ByteArray.empty t127 x16_1]) (x4_1 ++ t131) t127 (t127.length : Int) (wrap64 (x16_1 + 1))) else (none)) else (none)) else (filter_Make.l0 k1 x3_1 x4_1 t127 (t127.length : Int) (wrap64 (x16_1 + 1)))) = some r := H
      have A8 := Aside0.mk A80
      clear A80
      by_cases c9 : (t131.length : Int) > 0
      ·rw [if_pos c9] at H
       have c9b0 : decide (0 < (t131.length : Int)) = true := decide_eq_true c9
       have c9b1 : decide (0 < t131.length) = true := decide_eq_true (by omega)
       clear c9
       by_cases c10 : x3_1.length < 8796093022208
       ·rw [if_pos c10] at H
        have LMc10 := Aside0.mk c10
        clear c10
        obtain ⟨y134, hy134⟩ : ∃ y_ : List ByteArray, y_ = (x3_1 ++ [rdOf ByteArray.empty t127 x16_1]) := ⟨_, rfl⟩
        replace H : (if x4_1.length + t131.length < 8796093022208 then (filter_Make.l0 k1 y134 (x4_1 ++ t131) t127 (t127.length : Int) (wrap64 (x16_1 + 1))) else (none)) = some r := by first | (rw [hy134]; with_reducible exact H) | (have H2_ := (Option.bind_some _ _).symm.trans H; rw [hy134]; with_reducible exact H2_) | (have H2_ := (Option.bind_some _ _).symm.trans H; with_reducible exact H2_) | with_reducible exact H | (rw [hy134]; exact H) | exact H
        have Ny134 := Aside0.mk hy134
        clear hy134
        by_cases c11 : x4_1.length + t131.length < 8796093022208
        ·rw [if_pos c11] at H
         have LMc11 := Aside0.mk c11
         clear c11
         obtain ⟨y137, hy137⟩ : ∃ y_ : List ByteArray, y_ = (x4_1 ++ t131) := ⟨_, rfl⟩
         replace H : (filter_Make.l0 k1 y134 y137 t127 (t127.length : Int) (wrap64 (x16_1 + 1))) = some r := by first | (rw [hy137]; with_reducible exact H) | (have H2_ := (Option.bind_some _ _).symm.trans H; rw [hy137]; with_reducible exact H2_) | (have H2_ := (Option.bind_some _ _).symm.trans H; with_reducible exact H2_) | with_reducible exact H | (rw [hy137]; exact H) | exact H
         have Ny137 := Aside0.mk hy137
         clear hy137
         have H' := Aside0.mk H
         clear H
         have p130 : 0 ≤ (x16_1 : Int) := of_decide_eq_true (by first | (with_reducible assumption) | assumption)
         have q130 : x16_1 < (t127.length : Int) := of_decide_eq_true (by first | (with_reducible assumption) | assumption)
         obtain ⟨ad130, e130, hx130_0⟩ := Kd.at_string (Kd.R_reads' HO_14.out).2.2 x16_1 p130 q130
         cases e130
         replace p130 := eq_true p130
         replace q130 := eq_true q130
         go_wp2_with (first | ((with_reducible refine gate_callee (f := 12) rfl ?_); refine goesL_ (some 21) rfl rfl Try.func12 (by kernel_rfl) rfl #[.string (rdOf ByteArray.empty t127 x16_1)] rfl (by (try simp only [List.map_toArray, List.map_cons, List.map_nil]); first | done | rfl | (simp only [List.length_drop, List.length_take]; rfl)) ?_; (with_reducible refine (path_Parts.calls k1 (rdOf ByteArray.empty t127 x16_1) t131 _ A8.out).mono ?_); rintro e w12 ⟨v132, rfl, ho0, hb⟩; refine ⟨_, rfl, ?_⟩; have n0_ := Aside0.mk (Kd.R_elder' (by (with_reducible repeat (first | apply Kd.R_alloc | apply Kd.R_drewN | apply Kd.R_drew)); exact HO_3.out) (Kd.R_base ho0) hb); have n1_ := Aside0.mk (Kd.R_elder' (by (with_reducible repeat (first | apply Kd.R_alloc | apply Kd.R_drewN | apply Kd.R_drew)); exact HO_4.out) (Kd.R_base ho0) hb); have n2_ := Aside0.mk (Kd.R_elder' (by (with_reducible repeat (first | apply Kd.R_alloc | apply Kd.R_drewN | apply Kd.R_drew)); exact HO_14.out) (Kd.R_base ho0) hb); have n3_ := Aside0.mk (Kd.R_lower (Kd.R_new' (Kd.R_new' (Kd.R_new' ho0 (Kd.R_lt (by (with_reducible repeat (first | apply Kd.R_alloc | apply Kd.R_drewN | apply Kd.R_drew)); exact HO_3.out))) (Kd.R_lt (by (with_reducible repeat (first | apply Kd.R_alloc | apply Kd.R_drewN | apply Kd.R_drew)); exact HO_4.out))) (Kd.R_lt (by (with_reducible repeat (first | apply Kd.R_alloc | apply Kd.R_drewN | apply Kd.R_drew)); exact HO_14.out))) (below_size (by repeat (first | (with_reducible first | exact HB.out | apply below_alloc | apply pw_below_drewN | apply below_drew1) | exact HB.out)))); have n4_ := Aside0.mk (below_step (by repeat (first | (with_reducible first | exact HB.out | apply below_alloc | apply pw_below_drewN | apply below_drew1) | exact HB.out)) hb); clear HO_3; clear HO_4; clear HO_14; clear HB; have HO_3 := n0_; have HO_4 := n1_; have HO_14 := n2_; have HO133 := n3_; have HB := n4_; clear n0_ n1_ n2_ n3_ n4_; (try clear hb); (try clear hb2); (try clear hk); (try clear hi); (try clear ho0); obtain ⟨Ao13, co13, eo13⟩ := Kd.R_slice HO133.out; subst eo13) | ((with_reducible refine gate_builtin (b := .append) (xs := #[.tmp 25, .tmp 27]) rfl ?_); at_builtin; refine Kd.R_append Kd.string (w0 := w) w.heap.size rfl (.tmp 25) (.tmp 27) 22 9 (.string ⟨#[]⟩) 16 rfl Try.underlying22 info9 rfl (by decide) (by omega) u3 x3_1 (rdOf ByteArray.empty t127 x16_1) [.string (rdOf ByteArray.empty t127 x16_1)] (fun k_ => some k_ ≠ (u4 : Value).ownBlock ∧ some k_ ≠ (.slice (some ad130) t127.length co4 : Value).ownBlock ∧ some k_ ≠ (.slice Ao13 t131.length co13 : Value).ownBlock) (fun _ => False) rfl rfl ?aP (fun _ hk => hk.elim) ?aF ?aO ?aB ?aS ?aL ?_; (case aP => exact rfl); (case aB => exact (by repeat (first | (with_reducible first | exact HB.out | apply below_alloc | apply pw_below_drewN | apply below_drew1) | exact HB.out))); (case aF => exact (fun k_ hk => ⟨Kd.fresh' (Kd.R_lt (by (with_reducible repeat (first | apply Kd.R_alloc | apply Kd.R_drewN | apply Kd.R_drew)); exact HO_4.out)) k_ hk, Kd.fresh' (Kd.R_lt (by (with_reducible repeat (first | apply Kd.R_alloc | apply Kd.R_drewN | apply Kd.R_drew)); exact HO_14.out)) k_ hk, Kd.fresh' (Kd.R_lt (by (with_reducible repeat (first | apply Kd.R_alloc | apply Kd.R_drewN | apply Kd.R_drew)); exact HO133.out)) k_ hk⟩)); (case aO => exact (by (with_reducible repeat (first | apply Kd.R_alloc | apply Kd.R_drewN | apply Kd.R_drew)); exact Kd.R_mono HO_3.out (fun _ hk => ⟨hk.1.1, ⟨hk.1.2, hk.2⟩⟩))); (case aS => exact (below_size (by repeat (first | (with_reducible first | exact HB.out | apply below_alloc | apply pw_below_drewN | apply below_drew1) | exact HB.out)))); (case aL => have := LMc10.out; omega); intro v135 w14 ho hb hg hat; rw [← Ny134.out] at ho; have n0_ := Aside0.mk (Kd.R_after (ok := (fun k_ => some k_ ≠ (.slice (some ad130) t127.length co4 : Value).ownBlock ∧ some k_ ≠ (.slice Ao13 t131.length co13 : Value).ownBlock)) (by (with_reducible repeat (first | apply Kd.R_alloc | apply Kd.R_drewN | apply Kd.R_drew)); exact Kd.R_mono HO_4.out (fun _ hk => ⟨⟨hk.1.2, hk.2⟩, hk.1.1⟩)) hg hat); have n1_ := Aside0.mk (Kd.R_after (ok := (fun k_ => some k_ ≠ (u4 : Value).ownBlock ∧ some k_ ≠ (.slice Ao13 t131.length co13 : Value).ownBlock)) (by (with_reducible repeat (first | apply Kd.R_alloc | apply Kd.R_drewN | apply Kd.R_drew)); exact Kd.R_mono HO_14.out (fun _ hk => ⟨⟨hk.1.2, hk.2⟩, hk.1.1⟩)) hg hat); have n2_ := Aside0.mk (Kd.R_after (ok := (fun k_ => some k_ ≠ (u4 : Value).ownBlock ∧ some k_ ≠ (.slice (some ad130) t127.length co4 : Value).ownBlock)) (by (with_reducible repeat (first | apply Kd.R_alloc | apply Kd.R_drewN | apply Kd.R_drew)); exact Kd.R_mono HO133.out (fun _ hk => ⟨⟨hk.1.2, hk.2⟩, hk.1.1.2⟩)) hg hat); have n3_ := Aside0.mk (hb); have n4_ := Aside0.mk (ho); clear HO_4; clear HO_14; clear HO133; clear HB; clear HO_3; have HO_4 := n0_; have HO_14 := n1_; have HO133 := n2_; have HB := n3_; have HO136 := n4_; clear n0_ n1_ n2_ n3_ n4_; clear ho hb hg hat) | ((with_reducible refine gate_builtin (b := .append) (xs := #[.tmp 29, .tmp 30]) rfl ?_); at_builtin; refine Kd.R_append_rows Kd.string (w0 := w) w.heap.size rfl (.tmp 29) (.tmp 30) 22 9 (.string ⟨#[]⟩) 16 rfl Try.underlying22 info9 rfl (by decide) (by omega) u4 x4_1 t131 _ _ _ (fun k_ => some k_ ≠ (.slice (some ad130) t127.length co4 : Value).ownBlock ∧ some k_ ≠ (.slice Ao13 t131.length co13 : Value).ownBlock ∧ some k_ ≠ (v135 : Value).ownBlock) (fun _ => False) rfl rfl ?aO ?aR (fun _ _ h => h) (fun _ h => h.elim) ?aF ?aB ?aS ?aL ?_; (case aR => repeat (first | exact (Kd.R_reads' HO133.out).2.2 | (with_reducible refine Kd.C_alloc ?_ _) | (with_reducible refine Kd.C_drewN ?_ _) | (with_reducible refine Kd.C_drew ?_))); (case aB => exact (by repeat (first | (with_reducible first | exact HB.out | apply below_alloc | apply pw_below_drewN | apply below_drew1) | exact HB.out))); (case aF => exact (fun k_ hk => ⟨Kd.fresh' (Kd.R_lt (by (with_reducible repeat (first | apply Kd.R_alloc | apply Kd.R_drewN | apply Kd.R_drew)); exact HO_14.out)) k_ hk, Kd.fresh' (Kd.R_lt (by (with_reducible repeat (first | apply Kd.R_alloc | apply Kd.R_drewN | apply Kd.R_drew)); exact HO133.out)) k_ hk, Kd.fresh' (Kd.R_lt (by (with_reducible repeat (first | apply Kd.R_alloc | apply Kd.R_drewN | apply Kd.R_drew)); exact HO136.out)) k_ hk⟩)); (case aO => exact (by (with_reducible repeat (first | apply Kd.R_alloc | apply Kd.R_drewN | apply Kd.R_drew)); exact Kd.R_mono HO_4.out (fun _ hk => ⟨hk.1.1, ⟨hk.1.2, hk.2⟩⟩))); (case aS => exact (below_size (by repeat (first | (with_reducible first | exact HB.out | apply below_alloc | apply pw_below_drewN | apply below_drew1) | exact HB.out)))); (case aL => have := LMc11.out; omega); intro v138 w15 ho hb hg hat; rw [← Ny137.out] at ho; have n0_ := Aside0.mk (Kd.R_after (ok := (fun k_ => some k_ ≠ (.slice Ao13 t131.length co13 : Value).ownBlock ∧ some k_ ≠ (v135 : Value).ownBlock)) (by (with_reducible repeat (first | apply Kd.R_alloc | apply Kd.R_drewN | apply Kd.R_drew)); exact Kd.R_mono HO_14.out (fun _ hk => ⟨⟨hk.1.2, hk.2⟩, hk.1.1⟩)) hg hat); have n1_ := Aside0.mk (Kd.R_after (ok := (fun k_ => some k_ ≠ (.slice (some ad130) t127.length co4 : Value).ownBlock ∧ some k_ ≠ (v135 : Value).ownBlock)) (by (with_reducible repeat (first | apply Kd.R_alloc | apply Kd.R_drewN | apply Kd.R_drew)); exact Kd.R_mono HO133.out (fun _ hk => ⟨⟨hk.1.2, hk.2⟩, hk.1.1⟩)) hg hat); have n2_ := Aside0.mk (Kd.R_after (ok := (fun k_ => some k_ ≠ (.slice (some ad130) t127.length co4 : Value).ownBlock ∧ some k_ ≠ (.slice Ao13 t131.length co13 : Value).ownBlock)) (by (with_reducible repeat (first | apply Kd.R_alloc | apply Kd.R_drewN | apply Kd.R_drew)); exact Kd.R_mono HO136.out (fun _ hk => ⟨⟨hk.2.1, hk.2.2⟩, hk.1⟩)) hg hat); have n3_ := Aside0.mk (hb); have n4_ := Aside0.mk (ho); clear HO_14; clear HO133; clear HO136; clear HB; clear HO_4; have HO_14 := n0_; have HO133 := n1_; have HO136 := n2_; have HB := n3_; have HO139 := n4_; clear n0_ n1_ n2_ n3_ n4_; clear ho hb hg hat))
         go_roundg k1
         case measure => have := HK1.out; omega
         case rel => exact ⟨(y134), (y137), (wrap64 (x16_1 + 1)), (by first | rfl | (simp; done) | (simp [*]; done)), H', ⟨by have := HK1.out; omega⟩, ⟨by (with_reducible repeat (first | apply Kd.R_alloc | apply Kd.R_drewN | apply Kd.R_drew)); exact Kd.R_mono HO136.out (fun _ hk => ⟨hk.2, hk.1.1⟩)⟩, ⟨by (with_reducible repeat (first | apply Kd.R_alloc | apply Kd.R_drewN | apply Kd.R_drew)); exact Kd.R_mono HO139.out (fun _ hk => ⟨hk.2.2, hk.1⟩)⟩, ⟨by (with_reducible repeat (first | apply Kd.R_alloc | apply Kd.R_drewN | apply Kd.R_drew)); exact Kd.R_mono HO_14.out (fun _ hk => ⟨hk.1.2, hk.2⟩)⟩, ⟨by repeat (first | (with_reducible first | exact HB.out | apply below_alloc | apply pw_below_drewN | apply below_drew1) | exact HB.out)⟩⟩
        ·rw [if_neg c11] at H
         exact absurd H (by simp)
       ·rw [if_neg c10] at H
        exact absurd H (by simp)
      ·rw [if_neg c9] at H
       have c9b0 : decide (0 < (t131.length : Int)) = false := decide_eq_false c9
       have c9b1 : decide (0 < t131.length) = false := decide_eq_false (by omega)
       clear c9
       have H' := Aside0.mk H
       clear H
       have p130 : 0 ≤ (x16_1 : Int) := of_decide_eq_true (by first | (with_reducible assumption) | assumption)
       have q130 : x16_1 < (t127.length : Int) := of_decide_eq_true (by first | (with_reducible assumption) | assumption)
       obtain ⟨ad130, e130, hx130_0⟩ := Kd.at_string (Kd.R_reads' HO_14.out).2.2 x16_1 p130 q130
       cases e130
       replace p130 := eq_true p130
       replace q130 := eq_true q130
       go_wp2_with (first | ((with_reducible refine gate_callee (f := 12) rfl ?_); refine goesL_ (some 21) rfl rfl Try.func12 (by kernel_rfl) rfl #[.string (rdOf ByteArray.empty t127 x16_1)] rfl (by (try simp only [List.map_toArray, List.map_cons, List.map_nil]); first | done | rfl | (simp only [List.length_drop, List.length_take]; rfl)) ?_; (with_reducible refine (path_Parts.calls k1 (rdOf ByteArray.empty t127 x16_1) t131 _ A8.out).mono ?_); rintro e w16 ⟨v132, rfl, ho0, hb⟩; refine ⟨_, rfl, ?_⟩; have n0_ := Aside0.mk (Kd.R_elder' (by (with_reducible repeat (first | apply Kd.R_alloc | apply Kd.R_drewN | apply Kd.R_drew)); exact HO_3.out) (Kd.R_base ho0) hb); have n1_ := Aside0.mk (Kd.R_elder' (by (with_reducible repeat (first | apply Kd.R_alloc | apply Kd.R_drewN | apply Kd.R_drew)); exact HO_4.out) (Kd.R_base ho0) hb); have n2_ := Aside0.mk (Kd.R_elder' (by (with_reducible repeat (first | apply Kd.R_alloc | apply Kd.R_drewN | apply Kd.R_drew)); exact HO_14.out) (Kd.R_base ho0) hb); have n3_ := Aside0.mk (Kd.R_lower (Kd.R_new' (Kd.R_new' (Kd.R_new' ho0 (Kd.R_lt (by (with_reducible repeat (first | apply Kd.R_alloc | apply Kd.R_drewN | apply Kd.R_drew)); exact HO_3.out))) (Kd.R_lt (by (with_reducible repeat (first | apply Kd.R_alloc | apply Kd.R_drewN | apply Kd.R_drew)); exact HO_4.out))) (Kd.R_lt (by (with_reducible repeat (first | apply Kd.R_alloc | apply Kd.R_drewN | apply Kd.R_drew)); exact HO_14.out))) (below_size (by repeat (first | (with_reducible first | exact HB.out | apply below_alloc | apply pw_below_drewN | apply below_drew1) | exact HB.out)))); have n4_ := Aside0.mk (below_step (by repeat (first | (with_reducible first | exact HB.out | apply below_alloc | apply pw_below_drewN | apply below_drew1) | exact HB.out)) hb); clear HO_3; clear HO_4; clear HO_14; clear HB; have HO_3 := n0_; have HO_4 := n1_; have HO_14 := n2_; have HO133 := n3_; have HB := n4_; clear n0_ n1_ n2_ n3_ n4_; (try clear hb); (try clear hb2); (try clear hk); (try clear hi); (try clear ho0); obtain ⟨Ao17, co17, eo17⟩ := Kd.R_slice HO133.out; subst eo17))
       go_roundg k1
       case measure => have := HK1.out; omega
       case rel => exact ⟨(x3_1), (x4_1), (wrap64 (x16_1 + 1)), (by first | rfl | (simp; done) | (simp [*]; done)), H', ⟨by have := HK1.out; omega⟩, ⟨by (with_reducible repeat (first | apply Kd.R_alloc | apply Kd.R_drewN | apply Kd.R_drew)); exact Kd.R_mono HO_3.out (fun _ hk => ⟨hk.1.1, hk.1.2⟩)⟩, ⟨by (with_reducible repeat (first | apply Kd.R_alloc | apply Kd.R_drewN | apply Kd.R_drew)); exact Kd.R_mono HO_4.out (fun _ hk => ⟨hk.1.1, hk.1.2⟩)⟩, ⟨by (with_reducible repeat (first | apply Kd.R_alloc | apply Kd.R_drewN | apply Kd.R_drew)); exact Kd.R_mono HO_14.out (fun _ hk => ⟨hk.1.1, hk.1.2⟩)⟩, ⟨by repeat (first | (with_reducible first | exact HB.out | apply below_alloc | apply pw_below_drewN | apply below_drew1) | exact HB.out)⟩⟩
     ·rw [if_neg c7] at H
      exact absurd H (by simp)
    ·rw [if_neg c6] at H
     exact absurd H (by simp)
   ·rw [if_neg c5] at H
    have c5b0 : decide (x16_1 < (t127.length : Int)) = false := decide_eq_false c5
    clear c5
    by_cases c18 : (x3_1.length : Int) > 8
    ·rw [if_pos c18] at H
     have c18b0 : decide (8 < (x3_1.length : Int)) = true := decide_eq_true c18
     have c18b1 : decide (8 < x3_1.length) = true := decide_eq_true (by omega)
     clear c18
     obtain ⟨y140, hy140⟩ : ∃ y_ : List Int, y_ = (([2] : List Int)) := ⟨_, rfl⟩
     replace H : (some y140) = some r := by first | (rw [hy140]; with_reducible exact H) | (have H2_ := (Option.bind_some _ _).symm.trans H; rw [hy140]; with_reducible exact H2_) | (have H2_ := (Option.bind_some _ _).symm.trans H; with_reducible exact H2_) | with_reducible exact H | (rw [hy140]; exact H) | exact H
     have Ny140 := Aside0.mk hy140
     clear hy140
     obtain rfl := Option.some.inj H
     obtain ⟨Ao19, co19, eo19⟩ := Kd.R_slice HO_3.out
     subst eo19
     go_wp2_with (first | ((with_reducible refine gate_dst (N := 36) rfl ?_); refine Kd.R_lit (Kd.int .u8) _ 5 ?hg (N := 36) ?hd (xs := ([2] : List Int)) (inner := [.int .u8 2]) (ok := fun _ => True) (okp := fun _ => True) ?hr ?hp (fun _ hk => hk) trivial (Below.refl _ _) (Nat.le_refl _) (by simp) ?_; (case hd => rfl); (case hg => rfl); (case hr => first | (go_simp; done) | (go_simp; rfl)); (case hp => exact (Reps.one (show Kd.M (Kd.int .u8) _ _ _ 2 [.int .u8 2] from rfl) (Reps.none _ _))); intro v141 w20 ho21 hb hg_ hnew_; clear hg_ hnew_; (first | rw [← Ny140.out] at ho21 | (simp only [Int.reduceToNat] at ho21; rw [← Ny140.out] at ho21)); have n0_ := Aside0.mk (Kd.R_below (by (with_reducible repeat (first | apply Kd.R_alloc | apply Kd.R_drewN | apply Kd.R_drew)); exact HO_3.out) hb); have n1_ := Aside0.mk (Kd.R_below (by (with_reducible repeat (first | apply Kd.R_alloc | apply Kd.R_drewN | apply Kd.R_drew)); exact HO_4.out) hb); have n2_ := Aside0.mk (Kd.R_below (by (with_reducible repeat (first | apply Kd.R_alloc | apply Kd.R_drewN | apply Kd.R_drew)); exact HO_14.out) hb); have n3_ := Aside0.mk (Kd.R_lower ho21 (below_size (by repeat (first | (with_reducible first | exact HB.out | apply below_alloc | apply pw_below_drewN | apply below_drew1) | exact HB.out)))); have n4_ := Aside0.mk (below_step (by repeat (first | (with_reducible first | exact HB.out | apply below_alloc | apply pw_below_drewN | apply below_drew1) | exact HB.out)) hb); clear HO_3; clear HO_4; clear HO_14; clear HB; have HO_3 := n0_; have HO_4 := n1_; have HO_14 := n2_; have HO142 := n3_; have HB := n4_; clear n0_ n1_ n2_ n3_ n4_; clear hb ho21))
     go_ret
     exact ⟨_, by first | rfl | (simp [errW_none, errW_some] <;> rfl) | (simp [*, errW_none, errW_some] <;> rfl), by (with_reducible repeat (first | apply Kd.R_alloc | apply Kd.R_drewN | apply Kd.R_drew)); exact HO142.out, by repeat (first | (with_reducible first | exact HB.out | apply below_alloc | apply pw_below_drewN | apply below_drew1) | exact HB.out)⟩
    ·rw [if_neg c18] at H
     have c18b0 : decide (8 < (x3_1.length : Int)) = false := decide_eq_false c18
     have c18b1 : decide (8 < x3_1.length) = false := decide_eq_false (by omega)
     clear c18
     replace H := Option.bind_eq_some_iff.mp H
     obtain ⟨t143, A220, H⟩ := H
     replace H : (if 0 ≤ (wrap64 (1 + (mx 1 (wrap64 (Int.tdiv (wrap64 ((wrap64 (12 * (t143.length : Int))) + 7)) 8))))) then (if (wrap64 (1 + (mx 1 (wrap64 (Int.tdiv (wrap64 ((wrap64 (12 * (t143.length : Int))) + 7)) 8)))) : Int).toNat ≤ 281474976710656 then ((some (List.replicate (wrap64 (1 + (mx 1 (wrap64 (Int.tdiv (wrap64 ((wrap64 (12 * (t143.length : Int))) + 7)) 8)))) : Int).toNat 0 : List Int)).bind fun y146 => (if 0 < (y146.length : Int) then (filter_Make.l1 k1 (y146.set (0 : Int).toNat 1) t143 (t143.length : Int) 0) else (none))) else (none)) else (none)) = some r := H
     have A22 := Aside0.mk A220
     clear A220
     obtain ⟨ji23, hji23⟩ : ∃ j_ : Int, (mx 1 (wrap64 (Int.tdiv (wrap64 ((wrap64 (12 * (t143.length : Int))) + 7)) 8))) = j_ := ⟨_, rfl⟩
     replace H : (if 0 ≤ (wrap64 (1 + (ji23))) then (if (wrap64 (1 + (ji23)) : Int).toNat ≤ 281474976710656 then ((some (List.replicate (wrap64 (1 + (ji23)) : Int).toNat 0 : List Int)).bind fun y146 => (if 0 < (y146.length : Int) then (filter_Make.l1 k1 (y146.set (0 : Int).toNat 1) t143 (t143.length : Int) 0) else (none))) else (none)) else (none)) = some r := by first | (rw [hji23] at H; exact H) | (simp only [hji23] at H ⊢; exact H)
     (try rw [hji23] at A22)
     (try (have hji23l : 1 ≤ ji23 := by (rw [← hji23]; unfold mx; (repeat' split) <;> omega)))
     (try (have hji23m : 0 ≤ ji23 := by omega))
     have hji23_ : (if 1 < (wrap64 (Int.tdiv (wrap64 ((wrap64 (12 * (t143.length : Int))) + 7)) 8)) then (wrap64 (Int.tdiv (wrap64 ((wrap64 (12 * (t143.length : Int))) + 7)) 8)) else 1) = ji23 := hji23
     obtain ⟨ji24, hji24⟩ : ∃ j_ : Int, (wrap64 (1 + (ji23))) = j_ := ⟨_, rfl⟩
     replace H : (if 0 ≤ (ji24) then (if (ji24 : Int).toNat ≤ 281474976710656 then ((some (List.replicate (ji24 : Int).toNat 0 : List Int)).bind fun y146 => (if 0 < (y146.length : Int) then (filter_Make.l1 k1 (y146.set (0 : Int).toNat 1) t143 (t143.length : Int) 0) else (none))) else (none)) else (none)) = some r := by first | (rw [hji24] at H; exact H) | (simp only [hji24] at H ⊢; exact H)
     (try rw [hji24] at A22)
     have hji24w : (IntKind.i64.wrap (1 + (ji23))) = ji24 := (i64_w _).trans hji24
     by_cases c25 : 0 ≤ (ji24)
     ·rw [if_pos c25] at H
      have c25b0 := eq_true c25
      have c25b1 : decide (0 ≤ (ji24)) = true := decide_eq_true c25
      clear c25
      by_cases c26 : (ji24 : Int).toNat ≤ 281474976710656
      ·rw [if_pos c26] at H
       have c26b0 := eq_true c26
       have c26b1 : decide ((ji24 : Int).toNat ≤ 281474976710656) = true := decide_eq_true c26
       clear c26
       obtain ⟨y146, hy146⟩ : ∃ y_ : List Int, y_ = (List.replicate (ji24 : Int).toNat 0) := ⟨_, rfl⟩
       replace H : (if 0 < (y146.length : Int) then (filter_Make.l1 k1 (y146.set (0 : Int).toNat 1) t143 (t143.length : Int) 0) else (none)) = some r := by first | (rw [hy146]; with_reducible exact H) | (have H2_ := (Option.bind_some _ _).symm.trans H; rw [hy146]; with_reducible exact H2_) | (have H2_ := (Option.bind_some _ _).symm.trans H; with_reducible exact H2_) | with_reducible exact H | (rw [hy146]; exact H) | exact H
       have Ny146 := Aside0.mk hy146
       clear hy146
       by_cases c27 : 0 < (y146.length : Int)
       ·rw [if_pos c27] at H
        have c27b0 : decide (0 < (y146.length : Int)) = true := decide_eq_true c27
        have c27b1 : decide (0 < y146.length) = true := decide_eq_true (by omega)
        clear c27
        obtain ⟨y149, hy149⟩ : ∃ y_ : List Int, y_ = (y146.set (0 : Int).toNat 1) := ⟨_, rfl⟩
        replace H : (filter_Make.l1 k1 y149 t143 (t143.length : Int) 0) = some r := by first | (rw [hy149]; with_reducible exact H) | (have H2_ := (Option.bind_some _ _).symm.trans H; rw [hy149]; with_reducible exact H2_) | (have H2_ := (Option.bind_some _ _).symm.trans H; with_reducible exact H2_) | with_reducible exact H | (rw [hy149]; exact H) | exact H
        have Ny149 := Aside0.mk hy149
        clear hy149
        have H' := Aside0.mk H
        clear H
        obtain ⟨Ao29, co29, eo29⟩ := Kd.R_slice HO_3.out
        subst eo29
        obtain ⟨Ao30, co30, eo30⟩ := Kd.R_slice HO_4.out
        subst eo30
        go_wp2_with (first | ((with_reducible refine gate_callee (f := 22) rfl ?_); refine goesL_ (some 38) rfl rfl Try.func22 (by kernel_rfl) rfl #[.slice Ao30 x4_1.length co30] rfl (by (try simp only [List.map_toArray, List.map_cons, List.map_nil]); first | done | rfl | (simp only [List.length_drop, List.length_take]; rfl)) ?_; (with_reducible refine (path_Sort.calls _ _ x4_1 t143 _ ?side1 ?side2 A22.out).mono ?_); (case side1 => repeat (first | exact (Kd.R_reads' HO_4.out).2.2 | (with_reducible refine Kd.C_alloc ?_ _) | (with_reducible refine Kd.C_drewN ?_ _) | (with_reducible refine Kd.C_drew ?_))); (case side2 => exact (Kd.R_reads' HO_4.out).2.1); rintro e w31 ⟨v144, rfl, ho0, hb⟩; refine ⟨_, rfl, ?_⟩; have n0_ := Aside0.mk (Kd.R_elder' (by (with_reducible repeat (first | apply Kd.R_alloc | apply Kd.R_drewN | apply Kd.R_drew)); exact HO_3.out) (Kd.R_base ho0) hb); have n1_ := Aside0.mk (Kd.R_elder' (by (with_reducible repeat (first | apply Kd.R_alloc | apply Kd.R_drewN | apply Kd.R_drew)); exact HO_4.out) (Kd.R_base ho0) hb); have n2_ := Aside0.mk (Kd.R_elder' (by (with_reducible repeat (first | apply Kd.R_alloc | apply Kd.R_drewN | apply Kd.R_drew)); exact HO_14.out) (Kd.R_base ho0) hb); have n3_ := Aside0.mk (Kd.R_lower (Kd.R_new' (Kd.R_new' (Kd.R_new' ho0 (Kd.R_lt (by (with_reducible repeat (first | apply Kd.R_alloc | apply Kd.R_drewN | apply Kd.R_drew)); exact HO_3.out))) (Kd.R_lt (by (with_reducible repeat (first | apply Kd.R_alloc | apply Kd.R_drewN | apply Kd.R_drew)); exact HO_4.out))) (Kd.R_lt (by (with_reducible repeat (first | apply Kd.R_alloc | apply Kd.R_drewN | apply Kd.R_drew)); exact HO_14.out))) (below_size (by repeat (first | (with_reducible first | exact HB.out | apply below_alloc | apply pw_below_drewN | apply below_drew1) | exact HB.out)))); have n4_ := Aside0.mk (below_step (by repeat (first | (with_reducible first | exact HB.out | apply below_alloc | apply pw_below_drewN | apply below_drew1) | exact HB.out)) hb); clear HO_3; clear HO_4; clear HO_14; clear HB; have HO_3 := n0_; have HO_4 := n1_; have HO_14 := n2_; have HO145 := n3_; have HB := n4_; clear n0_ n1_ n2_ n3_ n4_; (try clear hb); (try clear hb2); (try clear hk); (try clear hi); (try clear ho0); obtain ⟨Ao32, co32, eo32⟩ := Kd.R_slice HO145.out; subst eo32) | ((with_reducible refine gate_dst (N := 46) rfl ?_); refine Kd.R_make (Kd.int .u8) _ 5 rfl (N := 46) rfl 25 _ _ rfl ji24 rfl rfl Try.underlying25 (.int .u8 0) 1 info5 rfl (by decide) (by omega) 0 (ok := fun _ => True) (okp := fun _ => True) rfl (fun _ hk => hk) trivial (of_decide_eq_true (by first | (with_reducible assumption) | assumption)) (Nat.le_trans (Nat.mul_le_mul_right _ (of_decide_eq_true (by first | (with_reducible assumption) | assumption) : ji24.toNat ≤ 281474976710656)) (by omega)) (Below.refl _ _) (Nat.le_refl _) ?_; intro v147 w33 ho34 hb hg_ hnew_; clear hg_ hnew_; (first | rw [← Ny146.out] at ho34 | (simp only [Int.reduceToNat] at ho34; rw [← Ny146.out] at ho34)); have n0_ := Aside0.mk (Kd.R_below (by (with_reducible repeat (first | apply Kd.R_alloc | apply Kd.R_drewN | apply Kd.R_drew)); exact HO_3.out) hb); have n1_ := Aside0.mk (Kd.R_below (by (with_reducible repeat (first | apply Kd.R_alloc | apply Kd.R_drewN | apply Kd.R_drew)); exact HO_4.out) hb); have n2_ := Aside0.mk (Kd.R_below (by (with_reducible repeat (first | apply Kd.R_alloc | apply Kd.R_drewN | apply Kd.R_drew)); exact HO_14.out) hb); have n3_ := Aside0.mk (Kd.R_below (by (with_reducible repeat (first | apply Kd.R_alloc | apply Kd.R_drewN | apply Kd.R_drew)); exact HO145.out) hb); have n4_ := Aside0.mk (Kd.R_lower ho34 (below_size (by repeat (first | (with_reducible first | exact HB.out | apply below_alloc | apply pw_below_drewN | apply below_drew1) | exact HB.out)))); have n5_ := Aside0.mk (below_step (by repeat (first | (with_reducible first | exact HB.out | apply below_alloc | apply pw_below_drewN | apply below_drew1) | exact HB.out)) hb); clear HO_3; clear HO_4; clear HO_14; clear HO145; clear HB; have HO_3 := n0_; have HO_4 := n1_; have HO_14 := n2_; have HO145 := n3_; have HO148 := n4_; have HB := n5_; clear n0_ n1_ n2_ n3_ n4_ n5_; clear hb ho34; have p28 : 0 ≤ (0 : Int) := (by omega); have q28 : (0 : Int) < ((y146.length : Int) : Int) := of_decide_eq_true (by first | (with_reducible assumption) | assumption); have qi28 : (0 < y146.length) = True := eq_true (by omega); obtain ⟨go28, co28, eo28, gb28, gl28, cl28, HG28⟩ := Kd.R_form HO148.out (by omega); (first | cases eo28 | (injection eo28 with ea_ en_ ec_; (first | subst ea_ | (injection ea_ with ea_; subst ea_)); subst ec_; clear en_)); have GB28 := Aside0.mk gb28; have GG28 := Aside0.mk HG28; clear gb28 gl28 HG28; obtain ⟨hx28_0, hf28_0⟩ := Kd.R_celln 0 HO148.out (0 : Int) p28 q28; (try rw [show ((0 : Int)).toNat = 0 from rfl] at hx28_0); (try simp only [Nat.reduceMul, Nat.zero_mul, Nat.zero_add, Nat.reduceAdd] at hx28_0); (try rw [show ((0 : Int)).toNat = 0 from rfl] at hf28_0); (try simp only [Nat.reduceMul, Nat.zero_mul, Nat.zero_add, Nat.reduceAdd] at hf28_0); replace p28 := eq_true p28; replace q28 := eq_true q28; obtain ⟨hy35_, hz35_⟩ := Kd.R_celln 0 HO148.out (0 : Int) (by omega) (of_decide_eq_true (by first | (with_reducible assumption) | assumption)); (try simp only [Int.reduceToNat, Int.toNat_zero, Int.toNat_ofNat, Nat.reduceMul, Nat.zero_mul, Nat.zero_add] at hy35_ hz35_); (try rw [show ((0 : Int)).toNat = 0 from rfl] at hy35_); (try rw [show ((0 : Int)).toNat = 0 from rfl] at hz35_); have HP35 := Kd.R_putg HO148.out (0 : Int) 1) | ((with_reducible refine gate_store (t := 5) (p := 48) rfl ?_); refine store_event (t := 5) (p := 48) (v := ?vo_w36) (w1 := (w33.setCell ⟨go28, (0 : Int).toNat, none⟩ (.int .u8 1))) ?hg ?ho ?hn ?hr ?_; (case ho => rfl); (case hg => rfl); (case hn => rfl); (case hr => first | (go_simp; done) | (go_simp; rfl)); intro w36 hw; have hg : w33.grownBy w36 (some go28) := (by rw [hw]; exact HP35.2); have hp_ : Kd.R (Kd.int .u8) 5 w36 w.heap.size (fun _ => True) (.slice (some ⟨go28, 0, none⟩) y146.length co28) y149 := (by rw [hw, Ny149.out]; exact HP35.1); clear HP35; have n0_ := Aside0.mk (Kd.R_over' (v := (.slice (some ⟨go28, 0, none⟩) y146.length co28)) (by (with_reducible repeat (first | apply Kd.R_alloc | apply Kd.R_drewN | apply Kd.R_drew)); exact HO_3.out) (Kd.R_typed HO148.out) (by decide) hg); have n1_ := Aside0.mk (Kd.R_over' (v := (.slice (some ⟨go28, 0, none⟩) y146.length co28)) (by (with_reducible repeat (first | apply Kd.R_alloc | apply Kd.R_drewN | apply Kd.R_drew)); exact HO_4.out) (Kd.R_typed HO148.out) (by decide) hg); have n2_ := Aside0.mk (Kd.R_over' (v := (.slice (some ⟨go28, 0, none⟩) y146.length co28)) (by (with_reducible repeat (first | apply Kd.R_alloc | apply Kd.R_drewN | apply Kd.R_drew)); exact HO_14.out) (Kd.R_typed HO148.out) (by decide) hg); have n3_ := Aside0.mk (Kd.R_over' (v := (.slice (some ⟨go28, 0, none⟩) y146.length co28)) (by (with_reducible repeat (first | apply Kd.R_alloc | apply Kd.R_drewN | apply Kd.R_drew)); exact HO145.out) (Kd.R_typed HO148.out) (by decide) hg); have n4_ := Aside0.mk (hp_); have n5_ := Aside0.mk ((by rw [hw]; exact below_set (HB.out) GB28.out : Below w.heap.size w w36)); clear HO_3; clear HO_4; clear HO_14; clear HO145; clear HO148; clear HB; have HO_3 := n0_; have HO_4 := n1_; have HO_14 := n2_; have HO145 := n3_; have HO148 := n4_; have HB := n5_; clear n0_ n1_ n2_ n3_ n4_ n5_; clear hg hw hp_))
        go_loopg [51] k1 (fun kq v51 w' => ∃ (x8_2 : List Int) (x51_2 : Int), v51 = .int .i64 x51_2 ∧ Aside0 (filter_Make.l1 kq x8_2 t143 (t143.length : Int) x51_2 = some r) ∧ Aside0 (kq ≤ k1) ∧ Aside0 (Kd.R (Kd.int .u8) 5 w' w.heap.size (fun _ => True) (.slice (some ⟨go28, 0, none⟩) y146.length co28) x8_2) ∧ Aside0 (Kd.R Kd.string 9 w' w.heap.size (fun _ => True) (.slice Ao32 t143.length co32) t143) ∧ Aside0 (Below w.heap.size w w'))
        case atStart => exact ⟨(y149), (0), (by first | rfl | (simp; done) | (simp [*]; done)), H', ⟨Nat.le_refl _⟩, ⟨by (with_reducible repeat (first | apply Kd.R_alloc | apply Kd.R_drewN | apply Kd.R_drew)); exact HO148.out⟩, ⟨by (with_reducible repeat (first | apply Kd.R_alloc | apply Kd.R_drewN | apply Kd.R_drew)); exact Kd.R_mono HO145.out (fun _ hk => trivial)⟩, ⟨by repeat (first | (with_reducible first | exact HB.out | apply below_alloc | apply pw_below_drewN | apply below_drew1) | exact HB.out)⟩⟩
        case round =>
         clear H'
         try clear c1
         try clear p1
         try clear q1
         try clear hx1
         try clear c2
         try clear p2
         try clear q2
         try clear hx2
         try clear qi2
         try clear hf2
         try clear c5
         try clear c5b0
         try clear c6
         try clear c6b0
         try clear p6
         try clear c7
         try clear c7b0
         try clear c9
         try clear c9b0
         try clear c9b1
         try clear c10
         try clear c11
         try clear c12
         try clear p13
         try clear q13
         try clear hx13
         try clear c18
         try clear c18b0
         try clear c18b1
         try clear c22
         try clear c25
         try clear c25b0
         try clear c25b1
         try clear c26
         try clear c26b0
         try clear c26b1
         try clear c27
         try clear c27b0
         try clear c27b1
         try clear p28
         try clear q28
         try clear hx28
         try clear qi28
         try clear hf28
         try clear hx130_0
         try clear hx28_0
         try clear p130
         try clear p2
         try clear p28
         try clear q130
         try clear q28
         obtain ⟨x8_2, x51_2, rfl, HA, HK2, HO_8, HO_49, HB⟩ := hrel
         have hl8_2 := (Kd.R_reads' HO_8.out).1
         rw [hl8_2] at HO_8
         (try simp only [hl8_2])
         (try simp only [hl8_2] at HO_49)
         cases gk with
         | zero => exact absurd HA.out (by simp [filter_Make.l1])
         | succ k2 =>
          have H := HA.out
          clear HA
          simp only [filter_Make.l1] at H
          by_cases c37 : x51_2 < (t143.length : Int)
          ·rw [if_pos c37] at H
           have c37b0 : decide (x51_2 < (t143.length : Int)) = true := decide_eq_true c37
           clear c37
           by_cases c38 : 0 ≤ x51_2
           ·rw [if_pos c38] at H
            have c38b0 : decide (0 ≤ x51_2) = true := decide_eq_true c38
            clear c38
            by_cases c39 : x51_2 < (t143.length : Int)
            ·rw [if_pos c39] at H
             have c39b0 : decide (x51_2 < (t143.length : Int)) = true := decide_eq_true c39
             clear c39
             replace H := Option.bind_eq_some_iff.mp H
             obtain ⟨t151, A400, H⟩ := H
             replace H : ((filter_Positions.f k2 (rdOf ByteArray.empty t143 x51_2) t151).bind fun t152 => (filter_Make.l2 k2 x8_2 t143 (t143.length : Int) x51_2 t152 (t152.length : Int) 0)) = some r := H
             have A40 := Aside0.mk A400
             clear A400
             replace H := Option.bind_eq_some_iff.mp H
             obtain ⟨t152, A410, H⟩ := H
             replace H : (filter_Make.l2 k2 x8_2 t143 (t143.length : Int) x51_2 t152 (t152.length : Int) 0) = some r := H
             have A41 := Aside0.mk A410
             clear A410
             have H' := Aside0.mk H
             clear H
             have p150 : 0 ≤ (x51_2 : Int) := of_decide_eq_true (by first | (with_reducible assumption) | assumption)
             have q150 : x51_2 < (t143.length : Int) := of_decide_eq_true (by first | (with_reducible assumption) | assumption)
             obtain ⟨ad150, e150, hx150_0⟩ := Kd.at_string (Kd.R_reads' HO_49.out).2.2 x51_2 p150 q150
             cases e150
             replace p150 := eq_true p150
             replace q150 := eq_true q150
             go_wp2_with (first | ((with_reducible refine gate_callee (f := 16) rfl ?_); refine goesL_ (some 57) rfl rfl Try.func16 (by kernel_rfl) rfl #[.slice (some ⟨go28, 0, none⟩) x8_2.length co28] rfl (by (try simp only [List.map_toArray, List.map_cons, List.map_nil]); first | done | rfl | (simp only [List.length_drop, List.length_take]; rfl)) ?_; (with_reducible refine (filter_Bits.calls _ _ x8_2 t151 _ ?side1 ?side2 A40.out).mono ?_); (case side1 => repeat (first | exact (Kd.R_reads' HO_8.out).2.2 | (with_reducible refine Kd.C_alloc ?_ _) | (with_reducible refine Kd.C_drewN ?_ _) | (with_reducible refine Kd.C_drew ?_))); (case side2 => exact (Kd.R_reads' HO_8.out).2.1); rintro e w' ⟨rfl, ⟨nd, rfl⟩⟩; refine ⟨_, rfl, ?_⟩) | ((with_reducible refine gate_callee (f := 14) rfl ?_); refine goesL_ (some 58) rfl rfl Try.func14 (by kernel_rfl) rfl #[.string (rdOf ByteArray.empty t143 x51_2), .int .i64 t151] rfl (by (try simp only [List.map_toArray, List.map_cons, List.map_nil]); first | done | rfl | (simp only [List.length_drop, List.length_take]; rfl)) ?_; (with_reducible refine (filter_Positions.calls k2 (rdOf ByteArray.empty t143 x51_2) t151 t152 _ A41.out).mono ?_); rintro e w42 ⟨v153, rfl, ho0, hb⟩; refine ⟨_, rfl, ?_⟩; have n0_ := Aside0.mk (Kd.R_below (by (with_reducible repeat (first | apply Kd.R_alloc | apply Kd.R_drewN | apply Kd.R_drew)); exact HO_8.out) hb); have n1_ := Aside0.mk (Kd.R_below (by (with_reducible repeat (first | apply Kd.R_alloc | apply Kd.R_drewN | apply Kd.R_drew)); exact HO_49.out) hb); have n2_ := Aside0.mk (Kd.R_lower ho0 (below_size (by repeat (first | (with_reducible first | exact HB.out | apply below_alloc | apply pw_below_drewN | apply below_drew1) | exact HB.out)))); have n3_ := Aside0.mk (below_step (by repeat (first | (with_reducible first | exact HB.out | apply below_alloc | apply pw_below_drewN | apply below_drew1) | exact HB.out)) hb); clear HO_8; clear HO_49; clear HB; have HO_8 := n0_; have HO_49 := n1_; have HO154 := n2_; have HB := n3_; clear n0_ n1_ n2_ n3_; (try clear hb); (try clear hb2); (try clear hk); (try clear hi); (try clear ho0); obtain ⟨Ao43, co43, eo43⟩ := Kd.R_slice HO154.out; subst eo43))
             go_loopg [60] k2 (fun kq v60 w' => ∃ (x8_3 : List Int) (x60_3 : Int), v60 = .int .i64 x60_3 ∧ Aside0 (filter_Make.l2 kq x8_3 t143 (t143.length : Int) x51_2 t152 (t152.length : Int) x60_3 = some r) ∧ Aside0 (kq ≤ k2) ∧ Aside0 (Kd.R (Kd.int .u8) 5 w' w.heap.size (fun _ => True) (.slice (some ⟨go28, 0, none⟩) x8_2.length co28) x8_3) ∧ Aside0 (Kd.R Kd.string 9 w' w.heap.size (fun _ => True) (.slice (some ad150) t143.length co32) t143) ∧ Aside0 (Kd.R (Kd.int .i64) 3 w' w.heap.size (fun _ => True) (.slice Ao43 t152.length co43) t152) ∧ Aside0 (Below w.heap.size w w'))
             case atStart => exact ⟨(x8_2), (0), (by first | rfl | (simp; done) | (simp [*]; done)), H', ⟨Nat.le_refl _⟩, ⟨by (try simp only [hl8_2]); (with_reducible repeat (first | apply Kd.R_alloc | apply Kd.R_drewN | apply Kd.R_drew)); exact HO_8.out⟩, ⟨by (try simp only [hl8_2]); (with_reducible repeat (first | apply Kd.R_alloc | apply Kd.R_drewN | apply Kd.R_drew)); exact HO_49.out⟩, ⟨by (try simp only [hl8_2]); (with_reducible repeat (first | apply Kd.R_alloc | apply Kd.R_drewN | apply Kd.R_drew)); exact HO154.out⟩, ⟨by repeat (first | (with_reducible first | exact HB.out | apply below_alloc | apply pw_below_drewN | apply below_drew1) | exact HB.out)⟩⟩
             case round =>
              clear H'
              try clear c1
              try clear p1
              try clear q1
              try clear hx1
              try clear c2
              try clear p2
              try clear q2
              try clear hx2
              try clear qi2
              try clear hf2
              try clear c3
              try clear c5
              try clear c5b0
              try clear c6
              try clear c6b0
              try clear p6
              try clear c7
              try clear c7b0
              try clear c9
              try clear c9b0
              try clear c9b1
              try clear c10
              try clear c11
              try clear c12
              try clear p13
              try clear q13
              try clear hx13
              try clear c14
              try clear p15
              try clear q15
              try clear hx15
              try clear c16
              try clear c18
              try clear c18b0
              try clear c18b1
              try clear c22
              try clear c25
              try clear c25b0
              try clear c25b1
              try clear c26
              try clear c26b0
              try clear c26b1
              try clear c27
              try clear c27b0
              try clear c27b1
              try clear p28
              try clear q28
              try clear hx28
              try clear qi28
              try clear hf28
              try clear c37
              try clear c37b0
              try clear c38
              try clear c38b0
              try clear c39
              try clear c39b0
              try clear hx130_0
              try clear hx150_0
              try clear hx28_0
              try clear p1
              try clear p13
              try clear p130
              try clear p150
              try clear p2
              try clear p28
              try clear p6
              try clear q1
              try clear q13
              try clear q130
              try clear q150
              try clear q2
              try clear q28
              obtain ⟨x8_3, x60_3, rfl, HA, HK3, HO_8, HO_49, HO_58, HB⟩ := hrel
              have hl8_3 := (Kd.R_reads' HO_8.out).1
              rw [hl8_3] at HO_8
              (try simp only [hl8_3])
              (try simp only [hl8_3] at HO_49)
              (try simp only [hl8_3] at HO_58)
              cases gk with
              | zero => exact absurd HA.out (by simp [filter_Make.l2])
              | succ k3 =>
               have H := HA.out
               clear HA
               simp only [filter_Make.l2] at H
               by_cases c44 : x60_3 < (t152.length : Int)
               ·rw [if_pos c44] at H
                have c44b0 : decide (x60_3 < (t152.length : Int)) = true := decide_eq_true c44
                clear c44
                by_cases c45 : 0 ≤ x60_3
                ·rw [if_pos c45] at H
                 have c45b0 : decide (0 ≤ x60_3) = true := decide_eq_true c45
                 clear c45
                 by_cases c46 : x60_3 < (t152.length : Int)
                 ·rw [if_pos c46] at H
                  have c46b0 : decide (x60_3 < (t152.length : Int)) = true := decide_eq_true c46
                  clear c46
                  obtain ⟨ji47, hji47⟩ : ∃ j_ : Int, (wrap64 (1 + (wrap64 (Int.tdiv (rd t152 x60_3) 8)))) = j_ := ⟨_, rfl⟩
                  replace H : (if 0 ≤ (ji47) then (if (ji47) < (x8_3.length : Int) then (if 0 ≤ (Int.tmod (rd t152 x60_3) 8) then (filter_Make.l2 k3 (x8_3.set ((ji47) : Int).toNat (Go.bits .or .u8 (rd x8_3 (ji47)) (shl .u8 1 (Int.tmod (rd t152 x60_3) 8)))) t143 (t143.length : Int) x51_2 t152 (t152.length : Int) (wrap64 (x60_3 + 1))) else (none)) else (none)) else (none)) = some r := by first | (rw [hji47] at H; exact H) | (simp only [hji47] at H ⊢; exact H)
                  have hji47w : (IntKind.i64.wrap (1 + (wrap64 (Int.tdiv (rd t152 x60_3) 8)))) = ji47 := (i64_w _).trans hji47
                  by_cases c48 : 0 ≤ (ji47)
                  ·rw [if_pos c48] at H
                   have c48b0 : decide (0 ≤ (ji47)) = true := decide_eq_true c48
                   clear c48
                   by_cases c49 : (ji47) < (x8_3.length : Int)
                   ·rw [if_pos c49] at H
                    have c49b0 : decide ((ji47) < (x8_3.length : Int)) = true := decide_eq_true c49
                    clear c49
                    obtain ⟨ji50, hji50⟩ : ∃ j_ : Int, (Int.tmod (rd t152 x60_3) 8) = j_ := ⟨_, rfl⟩
                    replace H : (if 0 ≤ (ji50) then (filter_Make.l2 k3 (x8_3.set ((ji47) : Int).toNat (Go.bits .or .u8 (rd x8_3 (ji47)) (shl .u8 1 (ji50)))) t143 (t143.length : Int) x51_2 t152 (t152.length : Int) (wrap64 (x60_3 + 1))) else (none)) = some r := by first | (rw [hji50] at H; exact H) | (simp only [hji50] at H ⊢; exact H)
                    by_cases c51 : 0 ≤ (ji50)
                    ·rw [if_pos c51] at H
                     have c51b0 := eq_true c51
                     have c51b1 : decide (0 ≤ (ji50)) = true := decide_eq_true c51
                     clear c51
                     obtain ⟨ji52, hji52⟩ : ∃ j_ : Int, (shl .u8 1 (ji50)) = j_ := ⟨_, rfl⟩
                     replace H : (filter_Make.l2 k3 (x8_3.set ((ji47) : Int).toNat (Go.bits .or .u8 (rd x8_3 (ji47)) (ji52))) t143 (t143.length : Int) x51_2 t152 (t152.length : Int) (wrap64 (x60_3 + 1))) = some r := by first | (rw [hji52] at H; exact H) | (simp only [hji52] at H ⊢; exact H)
                     have hji52_ : (IntKind.u8.wrap (1 * 2 ^ min (ji50).toNat 8)) = ji52 := hji52
                     have hji52z : (ji50) ≤ 8 → (IntKind.u8.wrap (1 * 2 ^ (ji50).toNat)) = ji52 := shl_small hji52
                     have hji52u : (IntKind.u8.wrap (2 ^ min (ji50).toNat 8)) = ji52 := by have h_ := hji52_; rw [Int.one_mul] at h_; exact h_
                     have hji52v : (ji50) ≤ 8 → (IntKind.u8.wrap (2 ^ (ji50).toNat)) = ji52 := fun hle_ => by have h_ := hji52z hle_; rw [Int.one_mul] at h_; exact h_
                     obtain ⟨y157, hy157⟩ : ∃ y_ : List Int, y_ = (x8_3.set ((ji47) : Int).toNat (Go.bits .or .u8 (rd x8_3 (ji47)) (ji52))) := ⟨_, rfl⟩
                     replace H : (filter_Make.l2 k3 y157 t143 (t143.length : Int) x51_2 t152 (t152.length : Int) (wrap64 (x60_3 + 1))) = some r := by first | (rw [hy157]; with_reducible exact H) | (have H2_ := (Option.bind_some _ _).symm.trans H; rw [hy157]; with_reducible exact H2_) | (have H2_ := (Option.bind_some _ _).symm.trans H; with_reducible exact H2_) | with_reducible exact H | (rw [hy157]; exact H) | exact H
                     have Ny157 := Aside0.mk hy157
                     clear hy157
                     have H' := Aside0.mk H
                     clear H
                     have p155 : 0 ≤ (x60_3 : Int) := of_decide_eq_true (by first | (with_reducible assumption) | assumption)
                     have q155 : x60_3 < (t152.length : Int) := of_decide_eq_true (by first | (with_reducible assumption) | assumption)
                     obtain ⟨ad155, e155, hx155_0⟩ := Kd.at_int (Kd.R_reads' HO_58.out).2.2 x60_3 p155 q155
                     cases e155
                     replace p155 := eq_true p155
                     replace q155 := eq_true q155
                     try go_wp2
                     have n0_ := Aside0.mk (Kd.R_drew HO_8.out)
                     have n1_ := Aside0.mk (Kd.R_drew HO_49.out)
                     have n2_ := Aside0.mk (Kd.R_drew HO_58.out)
                     have n3_ := Aside0.mk (below_drew1 HB.out)
                     clear HO_8
                     clear HO_49
                     clear HO_58
                     clear HB
                     have HO_8 := n0_
                     have HO_49 := n1_
                     have HO_58 := n2_
                     have HB := n3_
                     clear n0_ n1_ n2_ n3_
                     have p156 : 0 ≤ ((ji47) : Int) := of_decide_eq_true (by first | (with_reducible assumption) | assumption)
                     have q156 : (ji47) < (x8_3.length : Int) := of_decide_eq_true (by first | (with_reducible assumption) | assumption)
                     obtain ⟨ad156, e156, hx156_0⟩ := Kd.at_int (Kd.R_reads' HO_8.out).2.2 (ji47) p156 q156
                     obtain rfl : (⟨go28, 0, none⟩ : Addr) = ad156 := (by injection e156)
                     (first | simp only [add_plain] at hx156_0 | simp only [add_at] at hx156_0 | simp only [Addr.add, Nat.zero_add] at hx156_0 | skip)
                     replace p156 := eq_true p156
                     replace q156 := eq_true q156
                     have p53 : 0 ≤ ((ji47) : Int) := of_decide_eq_true (by first | (with_reducible assumption) | assumption)
                     have q53 : ((ji47) : Int) < ((x8_3.length : Int) : Int) := of_decide_eq_true (by first | (with_reducible assumption) | assumption)
                     have GGz : ∃ cl_, wr.drew.heap[go28]? = some (Obj.cells cl_ 5) := by obtain ⟨goz, coz, eoz, gbz, glz, clz, HGz⟩ := Kd.R_form HO_8.out (by omega); cases eoz; exact ⟨clz, HGz⟩
                     clear GG28
                     obtain ⟨clz, GGz⟩ := GGz
                     have GG28 := Aside0.mk GGz
                     clear GGz
                     obtain ⟨hx53_0, hf53_0⟩ := Kd.R_celln 0 HO_8.out ((ji47) : Int) p53 q53
                     replace p53 := eq_true p53
                     replace q53 := eq_true q53
                     have HP55 := Kd.R_putn HO_8.out ((ji47) : Int) (Go.bits .or .u8 (rd x8_3 (ji47)) (ji52))
                     rw [← Ny157.out] at HP55
                     have HQ55 := Aside0.mk HP55
                     clear HP55
                     refine start_ (n := 12) (S := fun w' => w'.cell? ⟨go28, ((ji47)).toNat, none⟩ = some (.int .u8 (rd x8_3 (ji47)))) (ds := [11]) (vb 0 12) (by kernel_rfl) rfl rfl (hx156_0) (fun hHeld => ?_); refine with_tabW filter_Make.tab21 filter_Make.bits21 (fun HT_ HW_ => ?_)
                     generalize wr.drew = w54 at GG28 HO_8 HO_49 HO_58 HB HQ55 hf53_0 hx156_0 hx53_0 hHeld ⊢
                     refine pure_ (i := 0) (N := some 64) (v := ?_) (a' := ?_) (vb 1 12) rfl rfl (any_of HT_.out (by kernel_rfl)) (fun _ _ _ h => h) (Or.inl ⟨by rfl, ?_⟩) ?_ ?_
                     rotate_left
                     ·intro w'
                      go_simp
                      with_reducible rfl
                     rotate_left
                     ·simp only [Act.put, List.setIfInBounds_toArray, List.set_cons_zero, List.set_cons_succ, i64_w, i32_w]
                      rfl
                     refine pure_ (i := 1) (N := some 65) (v := ?_) (a' := ?_) (vb 3 12) rfl rfl (any_of HT_.out (by kernel_rfl)) (fun _ _ _ h => h) (Or.inl ⟨by rfl, ?_⟩) ?_ ?_
                     rotate_left
                     ·intro w'
                      go_simp
                      with_reducible rfl
                     rotate_left
                     ·simp only [Act.put, List.setIfInBounds_toArray, List.set_cons_zero, List.set_cons_succ, i64_w, i32_w]
                      rfl
                     refine pure_ (i := 2) (N := some 66) (v := ?_) (a' := ?_) (vb 7 12) rfl rfl (any_of HT_.out (by kernel_rfl)) (fun _ _ _ h => h) (Or.inl ⟨by rfl, ?_⟩) ?_ ?_
                     rotate_left
                     ·intro w'
                      go_simp
                      with_reducible rfl
                     rotate_left
                     ·simp only [Act.put, List.setIfInBounds_toArray, List.set_cons_zero, List.set_cons_succ, i64_w, i32_w]
                      rfl
                     refine pure_ (i := 3) (N := some 67) (v := ?_) (a' := ?_) (vb 15 12) rfl rfl (any_of HT_.out (by kernel_rfl)) (fun _ _ _ h => h) (Or.inl ⟨by rfl, ?_⟩) ?_ ?_
                     rotate_left
                     ·intro w'
                      go_simp
                      with_reducible rfl
                     rotate_left
                     ·simp only [Act.put, List.setIfInBounds_toArray, List.set_cons_zero, List.set_cons_succ, i64_w, i32_w]
                      rfl
                     refine pure_ (i := 4) (N := some 68) (v := ?_) (a' := ?_) (vb 31 12) rfl rfl (any_of HT_.out (by kernel_rfl)) (fun _ _ _ h => h) (Or.inl ⟨by rfl, ?_⟩) ?_ ?_
                     rotate_left
                     ·intro w'
                      go_simp
                      with_reducible rfl
                     rotate_left
                     ·simp only [Act.put, List.setIfInBounds_toArray, List.set_cons_zero, List.set_cons_succ, i64_w, i32_w]
                      rfl
                     refine pure_ (i := 6) (N := some 70) (v := ?_) (a' := ?_) (vb 95 12) rfl rfl (any_of HT_.out (by kernel_rfl)) (fun _ _ _ h => h) (Or.inl ⟨by rfl, ?_⟩) ?_ ?_
                     rotate_left
                     ·intro w'
                      go_simp
                      with_reducible rfl
                     rotate_left
                     ·simp only [Act.put, List.setIfInBounds_toArray, List.set_cons_zero, List.set_cons_succ, i64_w, i32_w]
                      rfl
                     refine pure_ (i := 7) (N := some 71) (v := ?_) (a' := ?_) (vb 223 12) rfl rfl (any_of HT_.out (by kernel_rfl)) (fun _ _ _ h => h) (Or.inl ⟨by rfl, ?_⟩) ?_ ?_
                     rotate_left
                     ·intro w'
                      go_simp
                      with_reducible rfl
                     rotate_left
                     ·simp only [Act.put, List.setIfInBounds_toArray, List.set_cons_zero, List.set_cons_succ, i64_w, i32_w]
                      rfl
                     refine pure_ (i := 8) (N := some 72) (v := ?_) (a' := ?_) (vb 479 12) rfl rfl (any_of HT_.out (by kernel_rfl)) (fun _ _ _ h => h) (Or.inl ⟨by rfl, ?_⟩) ?_ ?_
                     rotate_left
                     ·intro w'
                      go_simp
                      with_reducible rfl
                     rotate_left
                     ·simp only [Act.put, List.setIfInBounds_toArray, List.set_cons_zero, List.set_cons_succ, i64_w, i32_w]
                      rfl
                     refine take_ (i := 5) (N := some 69) (v := ?_) (a' := ?_) (vb 511 12) rfl rfl (take_ofW HT_.out HW_.out (by kernel_rfl)) (fun _ _ _ h => h) (Or.inl ⟨by rfl, ?_⟩) hHeld ?_ ?_
                     rotate_left
                     ·intro w' s0
                      go_simp
                      with_reducible rfl
                     rotate_left
                     ·simp only [Act.put, List.setIfInBounds_toArray, List.set_cons_zero, List.set_cons_succ, i64_w, i32_w]
                      rfl
                     refine pure_ (i := 9) (N := some 73) (v := ?_) (a' := ?_) (vb 1023 12) rfl rfl (any_of HT_.out (by kernel_rfl)) (fun _ _ _ h => h) (Or.inl ⟨by rfl, ?_⟩) ?_ ?_
                     rotate_left
                     ·intro w'
                      go_simp
                      with_reducible rfl
                     rotate_left
                     ·simp only [Act.put, List.setIfInBounds_toArray, List.set_cons_zero, List.set_cons_succ, i64_w, i32_w]
                      rfl
                     refine pure_ (i := 10) (N := some 74) (v := ?_) (a' := ?_) (vb 2047 12) rfl rfl (any_of HT_.out (by kernel_rfl)) (fun _ _ _ h => h) (Or.inl ⟨by rfl, ?_⟩) ?_ ?_
                     rotate_left
                     ·intro w'
                      go_simp
                      with_reducible rfl
                     rotate_left
                     ·simp only [Act.put, List.setIfInBounds_toArray, List.set_cons_zero, List.set_cons_succ, i64_w, i32_w]
                      rfl
                     refine last_ (i := 11) (N := none) (vb 4095 12) rfl rfl (one_of HT_.out (by kernel_rfl)) (by decide) (fun K hK => ?_)
                     refine skip_ (w1 := ?_) (by rfl) rfl ?_ ?_
                     rotate_left
                     ·go_simp
                      rfl
                     refine hK.out _ _ ?_
                     clear hK K
                     refine done_ (done_of HT_.out (by kernel_rfl)) ?_
                     try go_wp2
                     (try simp only [← hl8_3])
                     go_roundg k3
                     case measure => have := HK1.out; have := HK2.out; have := HK3.out; omega
                     case rel => exact ⟨(y157), (wrap64 (x60_3 + 1)), (by first | rfl | (simp; done) | (simp [*]; done)), H', ⟨by have := HK1.out; have := HK2.out; have := HK3.out; omega⟩, ⟨by (try simp only [hl8_2]); (try simp only [hl8_3]); (with_reducible repeat (first | apply Kd.R_alloc | apply Kd.R_drewN | apply Kd.R_drew)); exact HQ55.out⟩, ⟨by (try simp only [hl8_2]); (try simp only [hl8_3]); (with_reducible repeat (first | apply Kd.R_alloc | apply Kd.R_drewN | apply Kd.R_drew)); exact Kd.R_mono (Kd.R_far (p := ⟨go28, ((ji47) : Int).toNat, none⟩) (Kd.R_types HO_49.out GG28.out (by decide)) (fun _ hk => hk.2) (.int .u8 (Go.bits .or .u8 (rd x8_3 (ji47)) (ji52)))) (fun _ hk => trivial)⟩, ⟨by (try simp only [hl8_2]); (try simp only [hl8_3]); (with_reducible repeat (first | apply Kd.R_alloc | apply Kd.R_drewN | apply Kd.R_drew)); exact Kd.R_mono (Kd.R_far (p := ⟨go28, ((ji47) : Int).toNat, none⟩) (Kd.R_types HO_58.out GG28.out (by decide)) (fun _ hk => hk.2) (.int .u8 (Go.bits .or .u8 (rd x8_3 (ji47)) (ji52)))) (fun _ hk => trivial)⟩, ⟨by repeat (first | (with_reducible first | exact HB.out | apply below_alloc | apply pw_below_drewN | apply below_drew1 | refine below_set ?_ GB28.out) | exact HB.out)⟩⟩
                    ·rw [if_neg c51] at H
                     exact absurd H (by simp)
                   ·rw [if_neg c49] at H
                    exact absurd H (by simp)
                  ·rw [if_neg c48] at H
                   exact absurd H (by simp)
                 ·rw [if_neg c46] at H
                  exact absurd H (by simp)
                ·rw [if_neg c45] at H
                 exact absurd H (by simp)
               ·rw [if_neg c44] at H
                have c44b0 : decide (x60_3 < (t152.length : Int)) = false := decide_eq_false c44
                clear c44
                have H' := Aside0.mk H
                clear H
                go_wp2
                (try simp only [← hl8_2, ← hl8_3])
                go_roundg k3
                case measure => have := HK1.out; have := HK2.out; have := HK3.out; omega
                case rel => exact ⟨(x8_3), (wrap64 (x51_2 + 1)), (by first | rfl | (simp; done) | (simp [*]; done)), H', ⟨by have := HK1.out; have := HK2.out; have := HK3.out; omega⟩, ⟨by (try simp only [hl8_2]); (try simp only [hl8_3]); (with_reducible repeat (first | apply Kd.R_alloc | apply Kd.R_drewN | apply Kd.R_drew)); exact HO_8.out⟩, ⟨by (try simp only [hl8_2]); (try simp only [hl8_3]); (with_reducible repeat (first | apply Kd.R_alloc | apply Kd.R_drewN | apply Kd.R_drew)); exact HO_49.out⟩, ⟨by repeat (first | (with_reducible first | exact HB.out | apply below_alloc | apply pw_below_drewN | apply below_drew1) | exact HB.out)⟩⟩
            ·rw [if_neg c39] at H
             exact absurd H (by simp)
           ·rw [if_neg c38] at H
            exact absurd H (by simp)
          ·rw [if_neg c37] at H
           have c37b0 : decide (x51_2 < (t143.length : Int)) = false := decide_eq_false c37
           clear c37
           obtain rfl := Option.some.inj H
           go_wp2
           go_ret
           exact ⟨_, by first | rfl | (simp [errW_none, errW_some] <;> rfl) | (simp only [← hji23, ← hji24]; first | rfl | (simp [errW_none, errW_some] <;> rfl)) | (simp [*, errW_none, errW_some] <;> rfl), by (with_reducible repeat (first | apply Kd.R_alloc | apply Kd.R_drewN | apply Kd.R_drew)); exact HO_8.out, by repeat (first | (with_reducible first | exact HB.out | apply below_alloc | apply pw_below_drewN | apply below_drew1) | exact HB.out)⟩
       ·rw [if_neg c27] at H
        exact absurd H (by simp)
      ·rw [if_neg c26] at H
       exact absurd H (by simp)
     ·rw [if_neg c25] at H
      exact absurd H (by simp)

end Go.Proofs.Ytgfiapeinpcipaa.MF

/- Laid by this claim's own program (myprint) out of the translation: functions that the laws of the group T reach, each as a plain function, with the proof that the Go code comes to it. No condition. -/
import Derived.Test.YtjnefjggmeieaaaMTx0
import Derived.Test.YtjnefjggmeieaaaMTx3
namespace Go.Proofs.Ytjnefjggmeieaaa.MT
open Go.Proofs.Ytjnefjggmeieaaa.Opening
open Go.RowKit Go.Proofs.YtjnefjggmeieaaaW.PrintWords Go.Proofs.YtjnefjggmeieaaaW.PrintLast Go.Proofs.YtjnefjggmeieaaaW.PrintMore
attribute [local go_sem] max2_int min2_int max_two min_two max_three min_three max_four min_four   -- for this text's walks alone
set_option linter.unusedVariables false
set_option linter.unusedSimpArgs false

/-! ### tree_Diff: function 15 -/
set_option linter.unusedVariables false
set_option linter.unusedSimpArgs false
def pathLt (x y : ByteArray) : Bool := Op.bytesLess x.toList y.toList
/-- The paths of two trees, with their blobs. -/
def mg : Nat → List S38 → List S38 → List S51
  | 0, _, _ => []
  | d + 1, [], [] => []
  | d + 1, x :: a, [] => ⟨x.f0, x.f1, 0⟩ :: mg d a []
  | d + 1, [], y :: b => ⟨y.f0, 0, y.f1⟩ :: mg d [] b
  | d + 1, x :: a, y :: b => if pathLt x.f0 y.f0 = true then ⟨x.f0, x.f1, 0⟩ :: mg d a (y :: b) else if pathLt y.f0 x.f0 = true then ⟨y.f0, 0, y.f1⟩ :: mg d (x :: a) b else ⟨x.f0, x.f1, y.f1⟩ :: mg d a b
theorem mg_lt {d : Nat} {x y : S38} {a b : List S38} (h : Op.bytesLess x.f0.toList y.f0.toList = true) : mg (d + 1) (x :: a) (y :: b) = ⟨x.f0, x.f1, 0⟩ :: mg d a (y :: b) := by
  simp only [mg, pathLt, h, if_true]
theorem mg_gt {d : Nat} {x y : S38} {a b : List S38} (h : Op.bytesLess x.f0.toList y.f0.toList = false) (h2 : Op.bytesLess y.f0.toList x.f0.toList = true) : mg (d + 1) (x :: a) (y :: b) = ⟨y.f0, 0, y.f1⟩ :: mg d (x :: a) b := by
  simp only [mg, pathLt, h, h2, if_true, Bool.false_eq_true, if_false]
theorem mg_eq {d : Nat} {x y : S38} {a b : List S38} (h : Op.bytesLess x.f0.toList y.f0.toList = false) (h2 : Op.bytesLess y.f0.toList x.f0.toList = false) : mg (d + 1) (x :: a) (y :: b) = ⟨x.f0, x.f1, y.f1⟩ :: mg d a b := by
  simp only [mg, pathLt, h, h2, Bool.false_eq_true, if_false]
theorem mg_nil (d : Nat) : mg d [] [] = [] := by cases d <;> rfl
theorem add2 (a : Addr) : a.add 2 = ⟨a.block, a.off + 2, none⟩ := by
  have h := add_field a 0 2 (by omega)
  have e : a.add 0 = a := by simp [go_sem]
  rw [e] at h
  exact h
set_option maxHeartbeats 16000000 in
set_option maxRecDepth 100000 in
theorem merge (F : Nat) (eF : ∀ args w, (callFunc F args).run Try.prog w = .ok (.enter F args) w) (w : World) (cap : Array Value) (Inv : World → List S51 → Prop) (hB : ∀ W l, Inv W l → Below w.heap.size w W) (hD : ∀ W l n, Inv W l → Inv (W.drewN n) l)
    (hstep : ∀ W c l, Inv W (c :: l) → Calls Try.prog F (#[.agg #[.string c.f0, .int .u64 c.f1, .int .u64 c.f2]] ++ cap) W fun e w' => e = .returned (.tuple #[]) ∧ Inv w' l)
    (A B : Option Addr) (ca cb : Nat) (a b : List S38) (W : World) (ha : Kd.C k38 w A a.length a) (hb : Kd.C k38 w B b.length b) (hca : a.length ≤ ca) (hcb : b.length ≤ cb) (hI : Inv W (mg (a.length + b.length) a b)) :
    Calls Try.prog 29 #[.slice A a.length ca, .slice B b.length cb, .func (.func F) #[] cap] W fun e w' => e = .returned (.tuple #[]) ∧ Inv w' [] := by
  have HB := Aside0.mk hB
  have HD := Aside0.mk hD
  have HST := Aside0.mk hstep
  have HA := Aside0.mk ha
  have HBB := Aside0.mk hb
  have HCA := Aside0.mk hca
  have HCB := Aside0.mk hcb
  have HI := Aside0.mk hI
  clear hB hD hstep ha hb hca hcb hI
  go_enter Try.func29, Try.ntmps29
  go_wp2
  go_loopg [0, 1] (a.length + b.length) (fun kq s0 s1 wr => ∃ (a b : List S38) (A B : Option Addr) (ca cb : Nat), s0 = .slice A a.length ca ∧ s1 = .slice B b.length cb ∧ Aside0 (a.length + b.length ≤ kq) ∧ Aside0 (Kd.C k38 w A a.length a) ∧ Aside0 (Kd.C k38 w B b.length b) ∧ Aside0 (a.length ≤ ca) ∧ Aside0 (b.length ≤ cb) ∧ Aside0 (Inv wr (mg kq a b)))
  case atStart => exact ⟨a, b, A, B, ca, cb, rfl, rfl, ⟨Nat.le_refl _⟩, HA, HBB, HCA, HCB, HI⟩
  case round =>
    clear HA HBB HCA HCB HI
    obtain ⟨a, b, A, B, ca, cb, rfl, rfl, HK, HA, HBB, HCA, HCB, HI⟩ := hrel
    have hma : a.length ≤ 9223372036854775807 := Kd.C_max HA.out
    have hmb : b.length ≤ 9223372036854775807 := Kd.C_max HBB.out
    rcases a with _ | ⟨x, a⟩
    · rcases b with _ | ⟨y, b⟩
      · go_wp2
        go_end0
        exact ⟨rfl, by have := HI.out; rw [mg_nil] at this; exact this⟩
      · rw [show ([] : List S38).length = 0 from rfl] at hma ⊢
        obtain ⟨bd, rfl, hy0, hy1⟩ := at_T38 (Kd.C_below HBB.out (HB.out _ _ HI.out)) 0 (by omega) (by simp)
        have CE : Aside0 (Kd.C k38 w (if cb = 1 then some bd else (some bd).map (·.add (1 * k38.sz))) b.length b) := ⟨Kd.C_drop (m := 1) (c := cb) HBB.out (by simp) HCB.out⟩
        have ex : rd_T38 (y :: b) 0 = y := rfl
        rw [ex] at hy0 hy1
        simp only [Int.toNat_zero, Nat.zero_mul] at hy0 hy1
        have e0 : bd.add 0 = bd := by simp [go_sem]
        rw [e0] at hy0 hy1
        clear e0
        obtain ⟨m, hm⟩ : ∃ m, b.length = m := ⟨_, rfl⟩
        have hlm : (y :: b).length = m + 1 := by rw [List.length_cons, hm]
        have HK1 : Aside0 (([] : List S38).length + (m + 1) ≤ gk) := ⟨by have := HK.out; rw [hlm] at this; exact this⟩
        rw [hlm] at HBB HCB hmb ⊢
        have HM := Aside0.mk hm
        have h0m : 0 < m + 1 := Nat.succ_pos m
        have h0j : (0 : Int) < (m : Int) + 1 := by omega
        clear ex hm hlm
        obtain ⟨k1, hk1⟩ : ∃ k1, gk = k1 + 1 := ⟨gk - 1, by have := HK1.out; omega⟩
        subst hk1
        by_cases hc2 : cb = 1
        · subst hc2
          have HI_wr : Aside0 (Inv wr (⟨y.f0, 0, y.f1⟩ :: mg k1 [] b)) := HI
          go_upto_region 3 with (fail)
          refine start_ (n := 20) (S := fun _ => True) (ds := []) #[false, false, false, false, false, false, false, false, false, false, false, false, false, false, false, false, false, false, false, false] (by kernel_rfl) rfl rfl trivial (fun hHeld => ?_)
          refine pure_ (i := 0) (N := (some 34)) (v := ?_) (a' := ?_) #[true, false, false, false, false, false, false, false, false, false, false, false, false, false, false, false, false, false, false, false] rfl rfl (by kernel_rfl) (fun _ _ _ h => h) (Or.inl ⟨by rfl, ?_⟩) ?_ ?_
          rotate_left
          · intro w'
            go_simp
            first | done | (with_reducible rfl)
          rotate_left
          · simp only [Act.put, List.setIfInBounds_toArray, List.set_cons_zero, List.set_cons_succ, i64_w, i32_w]
            rfl
          refine pure_ (i := 1) (N := (some 35)) (v := ?_) (a' := ?_) #[true, true, false, false, false, false, false, false, false, false, false, false, false, false, false, false, false, false, false, false] rfl rfl (by kernel_rfl) (fun _ _ _ h => h) (Or.inl ⟨by rfl, ?_⟩) ?_ ?_
          rotate_left
          · intro w'
            go_simp
            first | done | (with_reducible rfl)
          rotate_left
          · simp only [Act.put, List.setIfInBounds_toArray, List.set_cons_zero, List.set_cons_succ, i64_w, i32_w]
            rfl
          refine pure_ (i := 2) (N := (some 36)) (v := ?_) (a' := ?_) #[true, true, true, false, false, false, false, false, false, false, false, false, false, false, false, false, false, false, false, false] rfl rfl (by kernel_rfl) (fun _ _ _ h => h) (Or.inl ⟨by rfl, ?_⟩) ?_ ?_
          rotate_left
          · intro w'
            go_simp
            first | done | (with_reducible rfl)
          rotate_left
          · simp only [Act.put, List.setIfInBounds_toArray, List.set_cons_zero, List.set_cons_succ, i64_w, i32_w]
            rfl
          refine pure_ (i := 3) (N := (some 37)) (v := ?_) (a' := ?_) #[true, true, true, true, false, false, false, false, false, false, false, false, false, false, false, false, false, false, false, false] rfl rfl (by kernel_rfl) (fun _ _ _ h => h) (Or.inl ⟨by rfl, ?_⟩) ?_ ?_
          rotate_left
          · intro w'
            go_simp
            first | done | (with_reducible rfl)
          rotate_left
          · simp only [Act.put, List.setIfInBounds_toArray, List.set_cons_zero, List.set_cons_succ, i64_w, i32_w]
            rfl
          refine pure_ (i := 4) (N := (some 38)) (v := ?_) (a' := ?_) #[true, true, true, true, true, false, false, false, false, false, false, false, false, false, false, false, false, false, false, false] rfl rfl (by kernel_rfl) (fun _ _ _ h => h) (Or.inl ⟨by rfl, ?_⟩) ?_ ?_
          rotate_left
          · intro w'
            go_simp
            first | done | (with_reducible rfl)
          rotate_left
          · simp only [Act.put, List.setIfInBounds_toArray, List.set_cons_zero, List.set_cons_succ, i64_w, i32_w]
            rfl
          refine pure_ (i := 5) (N := (some 39)) (v := ?_) (a' := ?_) #[true, true, true, true, true, true, false, false, false, false, false, false, false, false, false, false, false, false, false, false] rfl rfl (by kernel_rfl) (fun _ _ _ h => h) (Or.inl ⟨by rfl, ?_⟩) ?_ ?_
          rotate_left
          · intro w'
            go_simp
            first | done | (with_reducible rfl)
          rotate_left
          · simp only [Act.put, List.setIfInBounds_toArray, List.set_cons_zero, List.set_cons_succ, i64_w, i32_w]
            rfl
          refine pure_ (i := 6) (N := (some 40)) (v := ?_) (a' := ?_) #[true, true, true, true, true, true, true, false, false, false, false, false, false, false, false, false, false, false, false, false] rfl rfl (by kernel_rfl) (fun _ _ _ h => h) (Or.inl ⟨by rfl, ?_⟩) ?_ ?_
          rotate_left
          · intro w'
            go_simp
            first | done | (with_reducible rfl)
          rotate_left
          · simp only [Act.put, List.setIfInBounds_toArray, List.set_cons_zero, List.set_cons_succ, i64_w, i32_w]
            rfl
          refine pure_ (i := 7) (N := (some 41)) (v := ?_) (a' := ?_) #[true, true, true, true, true, true, true, true, false, false, false, false, false, false, false, false, false, false, false, false] rfl rfl (by kernel_rfl) (fun _ _ _ h => h) (Or.inl ⟨by rfl, ?_⟩) ?_ ?_
          rotate_left
          · intro w'
            go_simp
            first | done | (with_reducible rfl)
          rotate_left
          · simp only [Act.put, List.setIfInBounds_toArray, List.set_cons_zero, List.set_cons_succ, i64_w, i32_w]
            rfl
          refine pure_ (i := 8) (N := (some 42)) (v := undef) (a' := ?_) #[true, true, true, true, true, true, true, true, true, false, false, false, false, false, false, false, false, false, false, false] rfl rfl (by kernel_rfl) (fun _ _ _ h => h) (Or.inr ⟨by rfl, rfl⟩) ?_ ?_
          rotate_left
          · simp only [Act.put, List.setIfInBounds_toArray, List.set_cons_zero, List.set_cons_succ, i64_w, i32_w]
            rfl
          refine pure_ (i := 9) (N := (some 43)) (v := undef) (a' := ?_) #[true, true, true, true, true, true, true, true, true, true, false, false, false, false, false, false, false, false, false, false] rfl rfl (by kernel_rfl) (fun _ _ _ h => h) (Or.inr ⟨by rfl, rfl⟩) ?_ ?_
          rotate_left
          · simp only [Act.put, List.setIfInBounds_toArray, List.set_cons_zero, List.set_cons_succ, i64_w, i32_w]
            rfl
          refine pure_ (i := 10) (N := (some 44)) (v := undef) (a' := ?_) #[true, true, true, true, true, true, true, true, true, true, true, false, false, false, false, false, false, false, false, false] rfl rfl (by kernel_rfl) (fun _ _ _ h => h) (Or.inr ⟨by rfl, rfl⟩) ?_ ?_
          rotate_left
          · simp only [Act.put, List.setIfInBounds_toArray, List.set_cons_zero, List.set_cons_succ, i64_w, i32_w]
            rfl
          refine pure_ (i := 11) (N := (some 45)) (v := undef) (a' := ?_) #[true, true, true, true, true, true, true, true, true, true, true, true, false, false, false, false, false, false, false, false] rfl rfl (by kernel_rfl) (fun _ _ _ h => h) (Or.inr ⟨by rfl, rfl⟩) ?_ ?_
          rotate_left
          · simp only [Act.put, List.setIfInBounds_toArray, List.set_cons_zero, List.set_cons_succ, i64_w, i32_w]
            rfl
          refine pure_ (i := 12) (N := (some 46)) (v := undef) (a' := ?_) #[true, true, true, true, true, true, true, true, true, true, true, true, true, false, false, false, false, false, false, false] rfl rfl (by kernel_rfl) (fun _ _ _ h => h) (Or.inr ⟨by rfl, rfl⟩) ?_ ?_
          rotate_left
          · simp only [Act.put, List.setIfInBounds_toArray, List.set_cons_zero, List.set_cons_succ, i64_w, i32_w]
            rfl
          refine pure_ (i := 13) (N := (some 47)) (v := undef) (a' := ?_) #[true, true, true, true, true, true, true, true, true, true, true, true, true, true, false, false, false, false, false, false] rfl rfl (by kernel_rfl) (fun _ _ _ h => h) (Or.inr ⟨by rfl, rfl⟩) ?_ ?_
          rotate_left
          · simp only [Act.put, List.setIfInBounds_toArray, List.set_cons_zero, List.set_cons_succ, i64_w, i32_w]
            rfl
          refine pure_ (i := 14) (N := (some 48)) (v := undef) (a' := ?_) #[true, true, true, true, true, true, true, true, true, true, true, true, true, true, true, false, false, false, false, false] rfl rfl (by kernel_rfl) (fun _ _ _ h => h) (Or.inr ⟨by rfl, rfl⟩) ?_ ?_
          rotate_left
          · simp only [Act.put, List.setIfInBounds_toArray, List.set_cons_zero, List.set_cons_succ, i64_w, i32_w]
            rfl
          refine pure_ (i := 15) (N := (some 49)) (v := undef) (a' := ?_) #[true, true, true, true, true, true, true, true, true, true, true, true, true, true, true, true, false, false, false, false] rfl rfl (by kernel_rfl) (fun _ _ _ h => h) (Or.inr ⟨by rfl, rfl⟩) ?_ ?_
          rotate_left
          · simp only [Act.put, List.setIfInBounds_toArray, List.set_cons_zero, List.set_cons_succ, i64_w, i32_w]
            rfl
          refine pure_ (i := 16) (N := (some 50)) (v := undef) (a' := ?_) #[true, true, true, true, true, true, true, true, true, true, true, true, true, true, true, true, true, false, false, false] rfl rfl (by kernel_rfl) (fun _ _ _ h => h) (Or.inr ⟨by rfl, rfl⟩) ?_ ?_
          rotate_left
          · simp only [Act.put, List.setIfInBounds_toArray, List.set_cons_zero, List.set_cons_succ, i64_w, i32_w]
            rfl
          refine pure_ (i := 17) (N := (some 51)) (v := ?_) (a' := ?_) #[true, true, true, true, true, true, true, true, true, true, true, true, true, true, true, true, true, true, false, false] rfl rfl (by kernel_rfl) (fun _ _ _ h => h) (Or.inl ⟨by rfl, ?_⟩) ?_ ?_
          rotate_left
          · intro w'
            go_simp
            first | done | (with_reducible rfl)
          rotate_left
          · simp only [Act.put, List.setIfInBounds_toArray, List.set_cons_zero, List.set_cons_succ, i64_w, i32_w]
            rfl
          refine pure_ (i := 18) (N := (some 52)) (v := ?_) (a' := ?_) #[true, true, true, true, true, true, true, true, true, true, true, true, true, true, true, true, true, true, true, false] rfl rfl (by kernel_rfl) (fun _ _ _ h => h) (Or.inl ⟨by rfl, ?_⟩) ?_ ?_
          rotate_left
          · intro w'
            go_simp
            first | done | (with_reducible rfl)
          rotate_left
          · simp only [Act.put, List.setIfInBounds_toArray, List.set_cons_zero, List.set_cons_succ, i64_w, i32_w]
            rfl
          refine pure_ (i := 19) (N := (some 33)) (v := ?_) (a' := ?_) #[true, true, true, true, true, true, true, true, true, true, true, true, true, true, true, true, true, true, true, true] rfl rfl (by kernel_rfl) (fun _ _ _ h => h) (Or.inl ⟨by rfl, ?_⟩) ?_ ?_
          rotate_left
          · intro w'
            go_simp
            first | done | (with_reducible rfl)
          rotate_left
          · simp only [Act.put, List.setIfInBounds_toArray, List.set_cons_zero, List.set_cons_succ, i64_w, i32_w]
            rfl
          refine done_ (by kernel_rfl) ?_
          have HI_w4 : Aside0 (Inv (wr.drew) (⟨y.f0, 0, y.f1⟩ :: mg k1 [] b)) := ⟨HD.out _ _ 1 HI_wr.out⟩
          have hy0_w4 : (wr.drew).cell? bd = some (.string y.f0) := hy0
          have hy1_w4 : (wr.drew).cell? ⟨bd.block, bd.off + 1, none⟩ = some (.int .u64 y.f1) := hy1
          generalize wr.drew = w4 at *
          clear hy0 hy1
          go_upto_region 6 with (fail)
          go_quiet (fail)
          have HI_w5 : Aside0 (Inv (w4.drewN nq) (⟨y.f0, 0, y.f1⟩ :: mg k1 [] b)) := ⟨HD.out _ _ _ HI_w4.out⟩
          have hy0_w5 : (w4.drewN nq).cell? bd = some (.string y.f0) := hy0_w4
          have hy1_w5 : (w4.drewN nq).cell? ⟨bd.block, bd.off + 1, none⟩ = some (.int .u64 y.f1) := hy1_w4
          generalize w4.drewN nq = w5 at *
          clear hy0_w4 hy1_w4
          go_upto_region 7 with (fail)
          go_still_tail 10, (by kernel_rfl)
          change wpList _ _ _ _ _ w5.drew
          go_wp2_with (go_at_fn F; refine (HST.out _ ⟨y.f0, 0, y.f1⟩ (mg k1 [] b) (HD.out _ _ 1 HI_w5.out)).mono ?_; rintro e w7 ⟨rfl, hi⟩; have HI7 := Aside0.mk hi; clear hi)
          go_roundg k1
          case rel => exact ⟨[], b, A, some bd, ca, 0, rfl, by rw [HM.out], ⟨by have := HK.out; simp at this ⊢; omega⟩, HA, CE, HCA, ⟨by have := HCB.out; have := HM.out; omega⟩, HI7⟩
          case measure => omega
        · have CE2 : Aside0 (Kd.C k38 w (some ⟨bd.block, bd.off + 2, none⟩) b.length b) := ⟨by have := CE.out; rw [if_neg hc2] at this; rw [← add2]; exact this⟩
          have HI_wr : Aside0 (Inv wr (⟨y.f0, 0, y.f1⟩ :: mg k1 [] b)) := HI
          go_upto_region 3 with (fail)
          refine start_ (n := 20) (S := fun _ => True) (ds := []) #[false, false, false, false, false, false, false, false, false, false, false, false, false, false, false, false, false, false, false, false] (by kernel_rfl) rfl rfl trivial (fun hHeld => ?_)
          refine pure_ (i := 0) (N := (some 34)) (v := ?_) (a' := ?_) #[true, false, false, false, false, false, false, false, false, false, false, false, false, false, false, false, false, false, false, false] rfl rfl (by kernel_rfl) (fun _ _ _ h => h) (Or.inl ⟨by rfl, ?_⟩) ?_ ?_
          rotate_left
          · intro w'
            go_simp
            first | done | (with_reducible rfl)
          rotate_left
          · simp only [Act.put, List.setIfInBounds_toArray, List.set_cons_zero, List.set_cons_succ, i64_w, i32_w]
            rfl
          refine pure_ (i := 1) (N := (some 35)) (v := ?_) (a' := ?_) #[true, true, false, false, false, false, false, false, false, false, false, false, false, false, false, false, false, false, false, false] rfl rfl (by kernel_rfl) (fun _ _ _ h => h) (Or.inl ⟨by rfl, ?_⟩) ?_ ?_
          rotate_left
          · intro w'
            go_simp
            first | done | (with_reducible rfl)
          rotate_left
          · simp only [Act.put, List.setIfInBounds_toArray, List.set_cons_zero, List.set_cons_succ, i64_w, i32_w]
            rfl
          refine pure_ (i := 2) (N := (some 36)) (v := ?_) (a' := ?_) #[true, true, true, false, false, false, false, false, false, false, false, false, false, false, false, false, false, false, false, false] rfl rfl (by kernel_rfl) (fun _ _ _ h => h) (Or.inl ⟨by rfl, ?_⟩) ?_ ?_
          rotate_left
          · intro w'
            go_simp
            first | done | (with_reducible rfl)
          rotate_left
          · simp only [Act.put, List.setIfInBounds_toArray, List.set_cons_zero, List.set_cons_succ, i64_w, i32_w]
            rfl
          refine pure_ (i := 3) (N := (some 37)) (v := ?_) (a' := ?_) #[true, true, true, true, false, false, false, false, false, false, false, false, false, false, false, false, false, false, false, false] rfl rfl (by kernel_rfl) (fun _ _ _ h => h) (Or.inl ⟨by rfl, ?_⟩) ?_ ?_
          rotate_left
          · intro w'
            go_simp
            first | done | (with_reducible rfl)
          rotate_left
          · simp only [Act.put, List.setIfInBounds_toArray, List.set_cons_zero, List.set_cons_succ, i64_w, i32_w]
            rfl
          refine pure_ (i := 4) (N := (some 38)) (v := ?_) (a' := ?_) #[true, true, true, true, true, false, false, false, false, false, false, false, false, false, false, false, false, false, false, false] rfl rfl (by kernel_rfl) (fun _ _ _ h => h) (Or.inl ⟨by rfl, ?_⟩) ?_ ?_
          rotate_left
          · intro w'
            go_simp
            first | done | (with_reducible rfl)
          rotate_left
          · simp only [Act.put, List.setIfInBounds_toArray, List.set_cons_zero, List.set_cons_succ, i64_w, i32_w]
            rfl
          refine pure_ (i := 5) (N := (some 39)) (v := ?_) (a' := ?_) #[true, true, true, true, true, true, false, false, false, false, false, false, false, false, false, false, false, false, false, false] rfl rfl (by kernel_rfl) (fun _ _ _ h => h) (Or.inl ⟨by rfl, ?_⟩) ?_ ?_
          rotate_left
          · intro w'
            go_simp
            first | done | (with_reducible rfl)
          rotate_left
          · simp only [Act.put, List.setIfInBounds_toArray, List.set_cons_zero, List.set_cons_succ, i64_w, i32_w]
            rfl
          refine pure_ (i := 6) (N := (some 40)) (v := ?_) (a' := ?_) #[true, true, true, true, true, true, true, false, false, false, false, false, false, false, false, false, false, false, false, false] rfl rfl (by kernel_rfl) (fun _ _ _ h => h) (Or.inl ⟨by rfl, ?_⟩) ?_ ?_
          rotate_left
          · intro w'
            go_simp
            first | done | (with_reducible rfl)
          rotate_left
          · simp only [Act.put, List.setIfInBounds_toArray, List.set_cons_zero, List.set_cons_succ, i64_w, i32_w]
            rfl
          refine pure_ (i := 7) (N := (some 41)) (v := ?_) (a' := ?_) #[true, true, true, true, true, true, true, true, false, false, false, false, false, false, false, false, false, false, false, false] rfl rfl (by kernel_rfl) (fun _ _ _ h => h) (Or.inl ⟨by rfl, ?_⟩) ?_ ?_
          rotate_left
          · intro w'
            go_simp
            first | done | (with_reducible rfl)
          rotate_left
          · simp only [Act.put, List.setIfInBounds_toArray, List.set_cons_zero, List.set_cons_succ, i64_w, i32_w]
            rfl
          refine pure_ (i := 8) (N := (some 42)) (v := undef) (a' := ?_) #[true, true, true, true, true, true, true, true, true, false, false, false, false, false, false, false, false, false, false, false] rfl rfl (by kernel_rfl) (fun _ _ _ h => h) (Or.inr ⟨by rfl, rfl⟩) ?_ ?_
          rotate_left
          · simp only [Act.put, List.setIfInBounds_toArray, List.set_cons_zero, List.set_cons_succ, i64_w, i32_w]
            rfl
          refine pure_ (i := 9) (N := (some 43)) (v := undef) (a' := ?_) #[true, true, true, true, true, true, true, true, true, true, false, false, false, false, false, false, false, false, false, false] rfl rfl (by kernel_rfl) (fun _ _ _ h => h) (Or.inr ⟨by rfl, rfl⟩) ?_ ?_
          rotate_left
          · simp only [Act.put, List.setIfInBounds_toArray, List.set_cons_zero, List.set_cons_succ, i64_w, i32_w]
            rfl
          refine pure_ (i := 10) (N := (some 44)) (v := undef) (a' := ?_) #[true, true, true, true, true, true, true, true, true, true, true, false, false, false, false, false, false, false, false, false] rfl rfl (by kernel_rfl) (fun _ _ _ h => h) (Or.inr ⟨by rfl, rfl⟩) ?_ ?_
          rotate_left
          · simp only [Act.put, List.setIfInBounds_toArray, List.set_cons_zero, List.set_cons_succ, i64_w, i32_w]
            rfl
          refine pure_ (i := 11) (N := (some 45)) (v := undef) (a' := ?_) #[true, true, true, true, true, true, true, true, true, true, true, true, false, false, false, false, false, false, false, false] rfl rfl (by kernel_rfl) (fun _ _ _ h => h) (Or.inr ⟨by rfl, rfl⟩) ?_ ?_
          rotate_left
          · simp only [Act.put, List.setIfInBounds_toArray, List.set_cons_zero, List.set_cons_succ, i64_w, i32_w]
            rfl
          refine pure_ (i := 12) (N := (some 46)) (v := undef) (a' := ?_) #[true, true, true, true, true, true, true, true, true, true, true, true, true, false, false, false, false, false, false, false] rfl rfl (by kernel_rfl) (fun _ _ _ h => h) (Or.inr ⟨by rfl, rfl⟩) ?_ ?_
          rotate_left
          · simp only [Act.put, List.setIfInBounds_toArray, List.set_cons_zero, List.set_cons_succ, i64_w, i32_w]
            rfl
          refine pure_ (i := 13) (N := (some 47)) (v := undef) (a' := ?_) #[true, true, true, true, true, true, true, true, true, true, true, true, true, true, false, false, false, false, false, false] rfl rfl (by kernel_rfl) (fun _ _ _ h => h) (Or.inr ⟨by rfl, rfl⟩) ?_ ?_
          rotate_left
          · simp only [Act.put, List.setIfInBounds_toArray, List.set_cons_zero, List.set_cons_succ, i64_w, i32_w]
            rfl
          refine pure_ (i := 14) (N := (some 48)) (v := undef) (a' := ?_) #[true, true, true, true, true, true, true, true, true, true, true, true, true, true, true, false, false, false, false, false] rfl rfl (by kernel_rfl) (fun _ _ _ h => h) (Or.inr ⟨by rfl, rfl⟩) ?_ ?_
          rotate_left
          · simp only [Act.put, List.setIfInBounds_toArray, List.set_cons_zero, List.set_cons_succ, i64_w, i32_w]
            rfl
          refine pure_ (i := 15) (N := (some 49)) (v := undef) (a' := ?_) #[true, true, true, true, true, true, true, true, true, true, true, true, true, true, true, true, false, false, false, false] rfl rfl (by kernel_rfl) (fun _ _ _ h => h) (Or.inr ⟨by rfl, rfl⟩) ?_ ?_
          rotate_left
          · simp only [Act.put, List.setIfInBounds_toArray, List.set_cons_zero, List.set_cons_succ, i64_w, i32_w]
            rfl
          refine pure_ (i := 16) (N := (some 50)) (v := undef) (a' := ?_) #[true, true, true, true, true, true, true, true, true, true, true, true, true, true, true, true, true, false, false, false] rfl rfl (by kernel_rfl) (fun _ _ _ h => h) (Or.inr ⟨by rfl, rfl⟩) ?_ ?_
          rotate_left
          · simp only [Act.put, List.setIfInBounds_toArray, List.set_cons_zero, List.set_cons_succ, i64_w, i32_w]
            rfl
          refine pure_ (i := 17) (N := (some 51)) (v := ?_) (a' := ?_) #[true, true, true, true, true, true, true, true, true, true, true, true, true, true, true, true, true, true, false, false] rfl rfl (by kernel_rfl) (fun _ _ _ h => h) (Or.inl ⟨by rfl, ?_⟩) ?_ ?_
          rotate_left
          · intro w'
            go_simp
            first | done | (with_reducible rfl)
          rotate_left
          · simp only [Act.put, List.setIfInBounds_toArray, List.set_cons_zero, List.set_cons_succ, i64_w, i32_w]
            rfl
          refine pure_ (i := 18) (N := (some 52)) (v := ?_) (a' := ?_) #[true, true, true, true, true, true, true, true, true, true, true, true, true, true, true, true, true, true, true, false] rfl rfl (by kernel_rfl) (fun _ _ _ h => h) (Or.inl ⟨by rfl, ?_⟩) ?_ ?_
          rotate_left
          · intro w'
            go_simp
            first | done | (with_reducible rfl)
          rotate_left
          · simp only [Act.put, List.setIfInBounds_toArray, List.set_cons_zero, List.set_cons_succ, i64_w, i32_w]
            rfl
          refine pure_ (i := 19) (N := (some 33)) (v := ?_) (a' := ?_) #[true, true, true, true, true, true, true, true, true, true, true, true, true, true, true, true, true, true, true, true] rfl rfl (by kernel_rfl) (fun _ _ _ h => h) (Or.inl ⟨by rfl, ?_⟩) ?_ ?_
          rotate_left
          · intro w'
            go_simp
            first | done | (with_reducible rfl)
          rotate_left
          · simp only [Act.put, List.setIfInBounds_toArray, List.set_cons_zero, List.set_cons_succ, i64_w, i32_w]
            rfl
          refine done_ (by kernel_rfl) ?_
          have HI_w4 : Aside0 (Inv (wr.drew) (⟨y.f0, 0, y.f1⟩ :: mg k1 [] b)) := ⟨HD.out _ _ 1 HI_wr.out⟩
          have hy0_w4 : (wr.drew).cell? bd = some (.string y.f0) := hy0
          have hy1_w4 : (wr.drew).cell? ⟨bd.block, bd.off + 1, none⟩ = some (.int .u64 y.f1) := hy1
          generalize wr.drew = w4 at *
          clear hy0 hy1
          go_upto_region 6 with (fail)
          go_quiet (fail)
          have HI_w5 : Aside0 (Inv (w4.drewN nq) (⟨y.f0, 0, y.f1⟩ :: mg k1 [] b)) := ⟨HD.out _ _ _ HI_w4.out⟩
          have hy0_w5 : (w4.drewN nq).cell? bd = some (.string y.f0) := hy0_w4
          have hy1_w5 : (w4.drewN nq).cell? ⟨bd.block, bd.off + 1, none⟩ = some (.int .u64 y.f1) := hy1_w4
          generalize w4.drewN nq = w5 at *
          clear hy0_w4 hy1_w4
          go_upto_region 7 with (fail)
          go_still_tail 10, (by kernel_rfl)
          change wpList _ _ _ _ _ w5.drew
          go_wp2_with (go_at_fn F; refine (HST.out _ ⟨y.f0, 0, y.f1⟩ (mg k1 [] b) (HD.out _ _ 1 HI_w5.out)).mono ?_; rintro e w7 ⟨rfl, hi⟩; have HI7 := Aside0.mk hi; clear hi)
          go_roundg k1
          case rel => exact ⟨[], b, A, some ⟨bd.block, bd.off + 2, none⟩, ca, cb - 1, rfl, by rw [HM.out], ⟨by have := HK.out; simp at this ⊢; omega⟩, HA, CE2, HCA, ⟨by have := HCB.out; have := HM.out; omega⟩, HI7⟩
          case measure => omega
    · skip
      obtain ⟨ad, rfl, hx0, hx1⟩ := at_T38 (Kd.C_below HA.out (HB.out _ _ HI.out)) 0 (by omega) (by simp)
      have CD : Aside0 (Kd.C k38 w (if ca = 1 then some ad else (some ad).map (·.add (1 * k38.sz))) a.length a) := ⟨Kd.C_drop (m := 1) (c := ca) HA.out (by simp) HCA.out⟩
      have ex : rd_T38 (x :: a) 0 = x := rfl
      rw [ex] at hx0 hx1
      simp only [Int.toNat_zero, Nat.zero_mul] at hx0 hx1
      have e0 : ad.add 0 = ad := by simp [go_sem]
      rw [e0] at hx0 hx1
      clear e0
      obtain ⟨n, hn⟩ : ∃ n, a.length = n := ⟨_, rfl⟩
      have hln : (x :: a).length = n + 1 := by rw [List.length_cons, hn]
      have HK0 : Aside0 (n + 1 + b.length ≤ gk) := ⟨by have := HK.out; rw [hln] at this; exact this⟩
      rw [hln] at HA HCA hma ⊢
      have HN := Aside0.mk hn
      have h0n : 0 < n + 1 := Nat.succ_pos n
      have h0i : (0 : Int) < (n : Int) + 1 := by omega
      clear ex hn hln
      obtain ⟨k1, hk1⟩ : ∃ k1, gk = k1 + 1 := ⟨gk - 1, by have := HK0.out; omega⟩
      subst hk1
      rcases b with _ | ⟨y, b⟩
      · skip
        by_cases hc1 : ca = 1
        · subst hc1
          have HI_wr : Aside0 (Inv wr (⟨x.f0, x.f1, 0⟩ :: mg k1 a [])) := HI
          go_upto_region 3 with (fail)
          go_quiet (fail)
          have HI_w4 : Aside0 (Inv (wr.drewN nq) (⟨x.f0, x.f1, 0⟩ :: mg k1 a [])) := ⟨HD.out _ _ _ HI_wr.out⟩
          have hx0_w4 : (wr.drewN nq).cell? ad = some (.string x.f0) := hx0
          have hx1_w4 : (wr.drewN nq).cell? ⟨ad.block, ad.off + 1, none⟩ = some (.int .u64 x.f1) := hx1
          generalize wr.drewN nq = w4 at *
          clear hx0 hx1
          go_upto_region 4 with (fail)
          go_still_tail 10, (by kernel_rfl)
          change wpList _ _ _ _ _ w4.drew
          go_wp2_with (go_at_fn F; refine (HST.out _ ⟨x.f0, x.f1, 0⟩ (mg k1 a []) (HD.out _ _ 1 HI_w4.out)).mono ?_; rintro e w7 ⟨rfl, hi⟩; have HI7 := Aside0.mk hi; clear hi)
          go_roundg k1
          case rel => exact ⟨a, [], some ad, B, 0, cb, by rw [HN.out], rfl, ⟨by have := HK.out; simp at this ⊢; omega⟩, CD, HBB, ⟨by have := HCA.out; have := HN.out; omega⟩, HCB, HI7⟩
          case measure => omega
        · have CD2 : Aside0 (Kd.C k38 w (some ⟨ad.block, ad.off + 2, none⟩) a.length a) := ⟨by have := CD.out; rw [if_neg hc1] at this; rw [← add2]; exact this⟩
          have HI_wr : Aside0 (Inv wr (⟨x.f0, x.f1, 0⟩ :: mg k1 a [])) := HI
          go_upto_region 3 with (fail)
          go_quiet (fail)
          have HI_w4 : Aside0 (Inv (wr.drewN nq) (⟨x.f0, x.f1, 0⟩ :: mg k1 a [])) := ⟨HD.out _ _ _ HI_wr.out⟩
          have hx0_w4 : (wr.drewN nq).cell? ad = some (.string x.f0) := hx0
          have hx1_w4 : (wr.drewN nq).cell? ⟨ad.block, ad.off + 1, none⟩ = some (.int .u64 x.f1) := hx1
          generalize wr.drewN nq = w4 at *
          clear hx0 hx1
          go_upto_region 4 with (fail)
          go_still_tail 10, (by kernel_rfl)
          change wpList _ _ _ _ _ w4.drew
          go_wp2_with (go_at_fn F; refine (HST.out _ ⟨x.f0, x.f1, 0⟩ (mg k1 a []) (HD.out _ _ 1 HI_w4.out)).mono ?_; rintro e w7 ⟨rfl, hi⟩; have HI7 := Aside0.mk hi; clear hi)
          go_roundg k1
          case rel => exact ⟨a, [], some ⟨ad.block, ad.off + 2, none⟩, B, ca - 1, cb, by rw [HN.out], rfl, ⟨by have := HK.out; simp at this ⊢; omega⟩, CD2, HBB, ⟨by have := HCA.out; have := HN.out; omega⟩, HCB, HI7⟩
          case measure => omega
      · skip
        obtain ⟨bd, rfl, hy0, hy1⟩ := at_T38 (Kd.C_below HBB.out (HB.out _ _ HI.out)) 0 (by omega) (by simp)
        have CE : Aside0 (Kd.C k38 w (if cb = 1 then some bd else (some bd).map (·.add (1 * k38.sz))) b.length b) := ⟨Kd.C_drop (m := 1) (c := cb) HBB.out (by simp) HCB.out⟩
        have ex : rd_T38 (y :: b) 0 = y := rfl
        rw [ex] at hy0 hy1
        simp only [Int.toNat_zero, Nat.zero_mul] at hy0 hy1
        have e0 : bd.add 0 = bd := by simp [go_sem]
        rw [e0] at hy0 hy1
        clear e0
        obtain ⟨m, hm⟩ : ∃ m, b.length = m := ⟨_, rfl⟩
        have hlm : (y :: b).length = m + 1 := by rw [List.length_cons, hm]
        rw [hlm] at HBB HCB hmb ⊢
        have HM := Aside0.mk hm
        have h0m : 0 < m + 1 := Nat.succ_pos m
        have h0j : (0 : Int) < (m : Int) + 1 := by omega
        clear ex hm hlm
        have hmg := HI.out
        by_cases hlt : Op.bytesLess x.f0.toList y.f0.toList = true
        · have HI_wr : Aside0 (Inv wr (⟨x.f0, x.f1, 0⟩ :: mg k1 a (y :: b))) := ⟨by rw [mg_lt hlt] at hmg; exact hmg⟩
          clear hmg
          by_cases hc1 : ca = 1
          · subst hc1
            go_upto_region 3 with (fail)
            go_quiet (fail)
            have HI_w4 : Aside0 (Inv (wr.drewN nq) (⟨x.f0, x.f1, 0⟩ :: mg k1 a (y :: b))) := ⟨HD.out _ _ _ HI_wr.out⟩
            have hx0_w4 : (wr.drewN nq).cell? ad = some (.string x.f0) := hx0
            have hx1_w4 : (wr.drewN nq).cell? ⟨ad.block, ad.off + 1, none⟩ = some (.int .u64 x.f1) := hx1
            have hy0_w4 : (wr.drewN nq).cell? bd = some (.string y.f0) := hy0
            have hy1_w4 : (wr.drewN nq).cell? ⟨bd.block, bd.off + 1, none⟩ = some (.int .u64 y.f1) := hy1
            generalize wr.drewN nq = w4 at *
            clear hx0 hx1 hy0 hy1
            go_upto_region 4 with (fail)
            go_still_tail 10, (by kernel_rfl)
            change wpList _ _ _ _ _ w4.drew
            go_wp2_with (go_at_fn F; refine (HST.out _ ⟨x.f0, x.f1, 0⟩ (mg k1 a (y :: b)) (HD.out _ _ 1 HI_w4.out)).mono ?_; rintro e w7 ⟨rfl, hi⟩; have HI7 := Aside0.mk hi; clear hi)
            go_roundg k1
            case rel => exact ⟨a, y :: b, some ad, some bd, 0, cb, by rw [HN.out], by rw [List.length_cons, HM.out], ⟨by have := HK.out; simp at this ⊢; omega⟩, CD, ⟨by rw [List.length_cons, HM.out]; exact HBB.out⟩, ⟨by have := HCA.out; have := HN.out; omega⟩, ⟨by rw [List.length_cons, HM.out]; exact HCB.out⟩, HI7⟩
            case measure => omega
          · have CD2 : Aside0 (Kd.C k38 w (some ⟨ad.block, ad.off + 2, none⟩) a.length a) := ⟨by have := CD.out; rw [if_neg hc1] at this; rw [← add2]; exact this⟩
            go_upto_region 3 with (fail)
            go_quiet (fail)
            have HI_w4 : Aside0 (Inv (wr.drewN nq) (⟨x.f0, x.f1, 0⟩ :: mg k1 a (y :: b))) := ⟨HD.out _ _ _ HI_wr.out⟩
            have hx0_w4 : (wr.drewN nq).cell? ad = some (.string x.f0) := hx0
            have hx1_w4 : (wr.drewN nq).cell? ⟨ad.block, ad.off + 1, none⟩ = some (.int .u64 x.f1) := hx1
            have hy0_w4 : (wr.drewN nq).cell? bd = some (.string y.f0) := hy0
            have hy1_w4 : (wr.drewN nq).cell? ⟨bd.block, bd.off + 1, none⟩ = some (.int .u64 y.f1) := hy1
            generalize wr.drewN nq = w4 at *
            clear hx0 hx1 hy0 hy1
            go_upto_region 4 with (fail)
            go_still_tail 10, (by kernel_rfl)
            change wpList _ _ _ _ _ w4.drew
            go_wp2_with (go_at_fn F; refine (HST.out _ ⟨x.f0, x.f1, 0⟩ (mg k1 a (y :: b)) (HD.out _ _ 1 HI_w4.out)).mono ?_; rintro e w7 ⟨rfl, hi⟩; have HI7 := Aside0.mk hi; clear hi)
            go_roundg k1
            case rel => exact ⟨a, y :: b, some ⟨ad.block, ad.off + 2, none⟩, some bd, ca - 1, cb, by rw [HN.out], by rw [List.length_cons, HM.out], ⟨by have := HK.out; simp at this ⊢; omega⟩, CD2, ⟨by rw [List.length_cons, HM.out]; exact HBB.out⟩, ⟨by have := HCA.out; have := HN.out; omega⟩, ⟨by rw [List.length_cons, HM.out]; exact HCB.out⟩, HI7⟩
            case measure => omega
        · have hltf : Op.bytesLess x.f0.toList y.f0.toList = false := by simpa using hlt
          by_cases hgt : Op.bytesLess y.f0.toList x.f0.toList = true
          · have HI_wr : Aside0 (Inv wr (⟨y.f0, 0, y.f1⟩ :: mg k1 (x :: a) b)) := ⟨by rw [mg_gt hltf hgt] at hmg; exact hmg⟩
            clear hmg hlt
            by_cases hc2 : cb = 1
            · subst hc2
              go_upto_region 3 with (fail)
              go_quiet (fail)
              have HI_w4 : Aside0 (Inv (wr.drewN nq) (⟨y.f0, 0, y.f1⟩ :: mg k1 (x :: a) b)) := ⟨HD.out _ _ _ HI_wr.out⟩
              have hx0_w4 : (wr.drewN nq).cell? ad = some (.string x.f0) := hx0
              have hx1_w4 : (wr.drewN nq).cell? ⟨ad.block, ad.off + 1, none⟩ = some (.int .u64 x.f1) := hx1
              have hy0_w4 : (wr.drewN nq).cell? bd = some (.string y.f0) := hy0
              have hy1_w4 : (wr.drewN nq).cell? ⟨bd.block, bd.off + 1, none⟩ = some (.int .u64 y.f1) := hy1
              generalize wr.drewN nq = w4 at *
              clear hx0 hx1 hy0 hy1
              go_upto_region 6 with (fail)
              go_quiet (fail)
              have HI_w5 : Aside0 (Inv (w4.drewN nq) (⟨y.f0, 0, y.f1⟩ :: mg k1 (x :: a) b)) := ⟨HD.out _ _ _ HI_w4.out⟩
              have hx0_w5 : (w4.drewN nq).cell? ad = some (.string x.f0) := hx0_w4
              have hx1_w5 : (w4.drewN nq).cell? ⟨ad.block, ad.off + 1, none⟩ = some (.int .u64 x.f1) := hx1_w4
              have hy0_w5 : (w4.drewN nq).cell? bd = some (.string y.f0) := hy0_w4
              have hy1_w5 : (w4.drewN nq).cell? ⟨bd.block, bd.off + 1, none⟩ = some (.int .u64 y.f1) := hy1_w4
              generalize w4.drewN nq = w5 at *
              clear hx0_w4 hx1_w4 hy0_w4 hy1_w4
              go_upto_region 7 with (fail)
              go_still_tail 10, (by kernel_rfl)
              change wpList _ _ _ _ _ w5.drew
              go_wp2_with (go_at_fn F; refine (HST.out _ ⟨y.f0, 0, y.f1⟩ (mg k1 (x :: a) b) (HD.out _ _ 1 HI_w5.out)).mono ?_; rintro e w7 ⟨rfl, hi⟩; have HI7 := Aside0.mk hi; clear hi)
              go_roundg k1
              case rel => exact ⟨x :: a, b, some ad, some bd, ca, 0, by rw [List.length_cons, HN.out], by rw [HM.out], ⟨by have := HK.out; simp at this ⊢; omega⟩, ⟨by rw [List.length_cons, HN.out]; exact HA.out⟩, CE, ⟨by rw [List.length_cons, HN.out]; exact HCA.out⟩, ⟨by have := HCB.out; have := HM.out; omega⟩, HI7⟩
              case measure => omega
            · have CE2 : Aside0 (Kd.C k38 w (some ⟨bd.block, bd.off + 2, none⟩) b.length b) := ⟨by have := CE.out; rw [if_neg hc2] at this; rw [← add2]; exact this⟩
              go_upto_region 3 with (fail)
              go_quiet (fail)
              have HI_w4 : Aside0 (Inv (wr.drewN nq) (⟨y.f0, 0, y.f1⟩ :: mg k1 (x :: a) b)) := ⟨HD.out _ _ _ HI_wr.out⟩
              have hx0_w4 : (wr.drewN nq).cell? ad = some (.string x.f0) := hx0
              have hx1_w4 : (wr.drewN nq).cell? ⟨ad.block, ad.off + 1, none⟩ = some (.int .u64 x.f1) := hx1
              have hy0_w4 : (wr.drewN nq).cell? bd = some (.string y.f0) := hy0
              have hy1_w4 : (wr.drewN nq).cell? ⟨bd.block, bd.off + 1, none⟩ = some (.int .u64 y.f1) := hy1
              generalize wr.drewN nq = w4 at *
              clear hx0 hx1 hy0 hy1
              go_upto_region 6 with (fail)
              go_quiet (fail)
              have HI_w5 : Aside0 (Inv (w4.drewN nq) (⟨y.f0, 0, y.f1⟩ :: mg k1 (x :: a) b)) := ⟨HD.out _ _ _ HI_w4.out⟩
              have hx0_w5 : (w4.drewN nq).cell? ad = some (.string x.f0) := hx0_w4
              have hx1_w5 : (w4.drewN nq).cell? ⟨ad.block, ad.off + 1, none⟩ = some (.int .u64 x.f1) := hx1_w4
              have hy0_w5 : (w4.drewN nq).cell? bd = some (.string y.f0) := hy0_w4
              have hy1_w5 : (w4.drewN nq).cell? ⟨bd.block, bd.off + 1, none⟩ = some (.int .u64 y.f1) := hy1_w4
              generalize w4.drewN nq = w5 at *
              clear hx0_w4 hx1_w4 hy0_w4 hy1_w4
              go_upto_region 7 with (fail)
              go_still_tail 10, (by kernel_rfl)
              change wpList _ _ _ _ _ w5.drew
              go_wp2_with (go_at_fn F; refine (HST.out _ ⟨y.f0, 0, y.f1⟩ (mg k1 (x :: a) b) (HD.out _ _ 1 HI_w5.out)).mono ?_; rintro e w7 ⟨rfl, hi⟩; have HI7 := Aside0.mk hi; clear hi)
              go_roundg k1
              case rel => exact ⟨x :: a, b, some ad, some ⟨bd.block, bd.off + 2, none⟩, ca, cb - 1, by rw [List.length_cons, HN.out], by rw [HM.out], ⟨by have := HK.out; simp at this ⊢; omega⟩, ⟨by rw [List.length_cons, HN.out]; exact HA.out⟩, CE2, ⟨by rw [List.length_cons, HN.out]; exact HCA.out⟩, ⟨by have := HCB.out; have := HM.out; omega⟩, HI7⟩
              case measure => omega
          · have HI_wr : Aside0 (Inv wr (⟨x.f0, x.f1, y.f1⟩ :: mg k1 a b)) := ⟨by rw [mg_eq hltf (by simpa using hgt)] at hmg; exact hmg⟩
            have hgtf : Op.bytesLess y.f0.toList x.f0.toList = false := by simpa using hgt
            clear hmg hlt hgt
            by_cases hc1 : ca = 1
            · subst hc1
              by_cases hc2 : cb = 1
              · subst hc2
                go_upto_region 3 with (fail)
                go_quiet (fail)
                have HI_w4 : Aside0 (Inv (wr.drewN nq) (⟨x.f0, x.f1, y.f1⟩ :: mg k1 a b)) := ⟨HD.out _ _ _ HI_wr.out⟩
                have hx0_w4 : (wr.drewN nq).cell? ad = some (.string x.f0) := hx0
                have hx1_w4 : (wr.drewN nq).cell? ⟨ad.block, ad.off + 1, none⟩ = some (.int .u64 x.f1) := hx1
                have hy0_w4 : (wr.drewN nq).cell? bd = some (.string y.f0) := hy0
                have hy1_w4 : (wr.drewN nq).cell? ⟨bd.block, bd.off + 1, none⟩ = some (.int .u64 y.f1) := hy1
                generalize wr.drewN nq = w4 at *
                clear hx0 hx1 hy0 hy1
                go_upto_region 6 with (fail)
                go_quiet (fail)
                have HI_w5 : Aside0 (Inv (w4.drewN nq) (⟨x.f0, x.f1, y.f1⟩ :: mg k1 a b)) := ⟨HD.out _ _ _ HI_w4.out⟩
                have hx0_w5 : (w4.drewN nq).cell? ad = some (.string x.f0) := hx0_w4
                have hx1_w5 : (w4.drewN nq).cell? ⟨ad.block, ad.off + 1, none⟩ = some (.int .u64 x.f1) := hx1_w4
                have hy0_w5 : (w4.drewN nq).cell? bd = some (.string y.f0) := hy0_w4
                have hy1_w5 : (w4.drewN nq).cell? ⟨bd.block, bd.off + 1, none⟩ = some (.int .u64 y.f1) := hy1_w4
                generalize w4.drewN nq = w5 at *
                clear hx0_w4 hx1_w4 hy0_w4 hy1_w4
                go_upto_region 1 with (fail)
                go_still_tail 14, (by kernel_rfl)
                change wpList _ _ _ _ _ w5.drew
                go_wp2_with (go_at_fn F; refine (HST.out _ ⟨x.f0, x.f1, y.f1⟩ (mg k1 a b) (HD.out _ _ 1 HI_w5.out)).mono ?_; rintro e w7 ⟨rfl, hi⟩; have HI7 := Aside0.mk hi; clear hi)
                go_quiet (fail)
                go_wp2
                go_roundg k1
                case rel => exact ⟨a, b, some ad, some bd, 0, 0, by rw [HN.out], by rw [HM.out], ⟨by have := HK.out; simp at this ⊢; omega⟩, CD, CE, ⟨by have := HCA.out; have := HN.out; omega⟩, ⟨by have := HCB.out; have := HM.out; omega⟩, ⟨HD.out _ _ _ HI7.out⟩⟩
                case measure => omega
              · have CE2 : Aside0 (Kd.C k38 w (some ⟨bd.block, bd.off + 2, none⟩) b.length b) := ⟨by have := CE.out; rw [if_neg hc2] at this; rw [← add2]; exact this⟩
                go_upto_region 3 with (fail)
                go_quiet (fail)
                have HI_w4 : Aside0 (Inv (wr.drewN nq) (⟨x.f0, x.f1, y.f1⟩ :: mg k1 a b)) := ⟨HD.out _ _ _ HI_wr.out⟩
                have hx0_w4 : (wr.drewN nq).cell? ad = some (.string x.f0) := hx0
                have hx1_w4 : (wr.drewN nq).cell? ⟨ad.block, ad.off + 1, none⟩ = some (.int .u64 x.f1) := hx1
                have hy0_w4 : (wr.drewN nq).cell? bd = some (.string y.f0) := hy0
                have hy1_w4 : (wr.drewN nq).cell? ⟨bd.block, bd.off + 1, none⟩ = some (.int .u64 y.f1) := hy1
                generalize wr.drewN nq = w4 at *
                clear hx0 hx1 hy0 hy1
                go_upto_region 6 with (fail)
                go_quiet (fail)
                have HI_w5 : Aside0 (Inv (w4.drewN nq) (⟨x.f0, x.f1, y.f1⟩ :: mg k1 a b)) := ⟨HD.out _ _ _ HI_w4.out⟩
                have hx0_w5 : (w4.drewN nq).cell? ad = some (.string x.f0) := hx0_w4
                have hx1_w5 : (w4.drewN nq).cell? ⟨ad.block, ad.off + 1, none⟩ = some (.int .u64 x.f1) := hx1_w4
                have hy0_w5 : (w4.drewN nq).cell? bd = some (.string y.f0) := hy0_w4
                have hy1_w5 : (w4.drewN nq).cell? ⟨bd.block, bd.off + 1, none⟩ = some (.int .u64 y.f1) := hy1_w4
                generalize w4.drewN nq = w5 at *
                clear hx0_w4 hx1_w4 hy0_w4 hy1_w4
                go_upto_region 1 with (fail)
                go_still_tail 14, (by kernel_rfl)
                change wpList _ _ _ _ _ w5.drew
                go_wp2_with (go_at_fn F; refine (HST.out _ ⟨x.f0, x.f1, y.f1⟩ (mg k1 a b) (HD.out _ _ 1 HI_w5.out)).mono ?_; rintro e w7 ⟨rfl, hi⟩; have HI7 := Aside0.mk hi; clear hi)
                go_quiet (fail)
                go_wp2
                go_roundg k1
                case rel => exact ⟨a, b, some ad, some ⟨bd.block, bd.off + 2, none⟩, 0, cb - 1, by rw [HN.out], by rw [HM.out], ⟨by have := HK.out; simp at this ⊢; omega⟩, CD, CE2, ⟨by have := HCA.out; have := HN.out; omega⟩, ⟨by have := HCB.out; have := HM.out; omega⟩, ⟨HD.out _ _ _ HI7.out⟩⟩
                case measure => omega
            · have CD2 : Aside0 (Kd.C k38 w (some ⟨ad.block, ad.off + 2, none⟩) a.length a) := ⟨by have := CD.out; rw [if_neg hc1] at this; rw [← add2]; exact this⟩
              by_cases hc2 : cb = 1
              · subst hc2
                go_upto_region 3 with (fail)
                go_quiet (fail)
                have HI_w4 : Aside0 (Inv (wr.drewN nq) (⟨x.f0, x.f1, y.f1⟩ :: mg k1 a b)) := ⟨HD.out _ _ _ HI_wr.out⟩
                have hx0_w4 : (wr.drewN nq).cell? ad = some (.string x.f0) := hx0
                have hx1_w4 : (wr.drewN nq).cell? ⟨ad.block, ad.off + 1, none⟩ = some (.int .u64 x.f1) := hx1
                have hy0_w4 : (wr.drewN nq).cell? bd = some (.string y.f0) := hy0
                have hy1_w4 : (wr.drewN nq).cell? ⟨bd.block, bd.off + 1, none⟩ = some (.int .u64 y.f1) := hy1
                generalize wr.drewN nq = w4 at *
                clear hx0 hx1 hy0 hy1
                go_upto_region 6 with (fail)
                go_quiet (fail)
                have HI_w5 : Aside0 (Inv (w4.drewN nq) (⟨x.f0, x.f1, y.f1⟩ :: mg k1 a b)) := ⟨HD.out _ _ _ HI_w4.out⟩
                have hx0_w5 : (w4.drewN nq).cell? ad = some (.string x.f0) := hx0_w4
                have hx1_w5 : (w4.drewN nq).cell? ⟨ad.block, ad.off + 1, none⟩ = some (.int .u64 x.f1) := hx1_w4
                have hy0_w5 : (w4.drewN nq).cell? bd = some (.string y.f0) := hy0_w4
                have hy1_w5 : (w4.drewN nq).cell? ⟨bd.block, bd.off + 1, none⟩ = some (.int .u64 y.f1) := hy1_w4
                generalize w4.drewN nq = w5 at *
                clear hx0_w4 hx1_w4 hy0_w4 hy1_w4
                go_upto_region 1 with (fail)
                go_still_tail 14, (by kernel_rfl)
                change wpList _ _ _ _ _ w5.drew
                go_wp2_with (go_at_fn F; refine (HST.out _ ⟨x.f0, x.f1, y.f1⟩ (mg k1 a b) (HD.out _ _ 1 HI_w5.out)).mono ?_; rintro e w7 ⟨rfl, hi⟩; have HI7 := Aside0.mk hi; clear hi)
                go_quiet (fail)
                go_wp2
                go_roundg k1
                case rel => exact ⟨a, b, some ⟨ad.block, ad.off + 2, none⟩, some bd, ca - 1, 0, by rw [HN.out], by rw [HM.out], ⟨by have := HK.out; simp at this ⊢; omega⟩, CD2, CE, ⟨by have := HCA.out; have := HN.out; omega⟩, ⟨by have := HCB.out; have := HM.out; omega⟩, ⟨HD.out _ _ _ HI7.out⟩⟩
                case measure => omega
              · have CE2 : Aside0 (Kd.C k38 w (some ⟨bd.block, bd.off + 2, none⟩) b.length b) := ⟨by have := CE.out; rw [if_neg hc2] at this; rw [← add2]; exact this⟩
                go_upto_region 3 with (fail)
                go_quiet (fail)
                have HI_w4 : Aside0 (Inv (wr.drewN nq) (⟨x.f0, x.f1, y.f1⟩ :: mg k1 a b)) := ⟨HD.out _ _ _ HI_wr.out⟩
                have hx0_w4 : (wr.drewN nq).cell? ad = some (.string x.f0) := hx0
                have hx1_w4 : (wr.drewN nq).cell? ⟨ad.block, ad.off + 1, none⟩ = some (.int .u64 x.f1) := hx1
                have hy0_w4 : (wr.drewN nq).cell? bd = some (.string y.f0) := hy0
                have hy1_w4 : (wr.drewN nq).cell? ⟨bd.block, bd.off + 1, none⟩ = some (.int .u64 y.f1) := hy1
                generalize wr.drewN nq = w4 at *
                clear hx0 hx1 hy0 hy1
                go_upto_region 6 with (fail)
                go_quiet (fail)
                have HI_w5 : Aside0 (Inv (w4.drewN nq) (⟨x.f0, x.f1, y.f1⟩ :: mg k1 a b)) := ⟨HD.out _ _ _ HI_w4.out⟩
                have hx0_w5 : (w4.drewN nq).cell? ad = some (.string x.f0) := hx0_w4
                have hx1_w5 : (w4.drewN nq).cell? ⟨ad.block, ad.off + 1, none⟩ = some (.int .u64 x.f1) := hx1_w4
                have hy0_w5 : (w4.drewN nq).cell? bd = some (.string y.f0) := hy0_w4
                have hy1_w5 : (w4.drewN nq).cell? ⟨bd.block, bd.off + 1, none⟩ = some (.int .u64 y.f1) := hy1_w4
                generalize w4.drewN nq = w5 at *
                clear hx0_w4 hx1_w4 hy0_w4 hy1_w4
                go_upto_region 1 with (fail)
                go_still_tail 14, (by kernel_rfl)
                change wpList _ _ _ _ _ w5.drew
                go_wp2_with (go_at_fn F; refine (HST.out _ ⟨x.f0, x.f1, y.f1⟩ (mg k1 a b) (HD.out _ _ 1 HI_w5.out)).mono ?_; rintro e w7 ⟨rfl, hi⟩; have HI7 := Aside0.mk hi; clear hi)
                go_quiet (fail)
                go_wp2
                go_roundg k1
                case rel => exact ⟨a, b, some ⟨ad.block, ad.off + 2, none⟩, some ⟨bd.block, bd.off + 2, none⟩, ca - 1, cb - 1, by rw [HN.out], by rw [HM.out], ⟨by have := HK.out; simp at this ⊢; omega⟩, CD2, CE2, ⟨by have := HCA.out; have := HN.out; omega⟩, ⟨by have := HCB.out; have := HM.out; omega⟩, ⟨HD.out _ _ _ HI7.out⟩⟩
                case measure => omega
/-- The changes that count, one behind the other. -/
def dgo (k : Nat) (lim : List ByteArray) : List S51 → List S51 → Option (List S51)
  | [], out => some out
  | c :: l, out => if c.f1 = c.f2 then dgo k lim l out else (path_Set_Has.f k lim c.f0).bind fun t => if t = true then (if out.length < 4000000000 then dgo k lim l (out ++ [c]) else none) else dgo k lim l out
structure DInv (k : Nat) (w : World) (s o : Nat) (As : Option Addr) (cs : Nat) (lim r : List S51) (ls : List ByteArray) (W : World) (l : List S51) : Prop where
  set_ : W.heap[s]? = some (.cells #[.slice As ls.length cs] 46 (0, 0))
  base : w.heap.size ≤ o
  row : ∃ v out, W.heap[o]? = some (.cells #[v] 43 (0, 0)) ∧ Kd.R k51 51 W w.heap.size (fun _ => True) v out ∧ dgo k ls l out = some r
  read : Kd.C Kd.string w As ls.length ls
  cap : ls.length ≤ cs
  below : Below w.heap.size w W
set_option maxHeartbeats 4000000 in
set_option maxRecDepth 100000 in
theorem diff1_calls (k : Nat) (w : World) (s o : Nat) (As : Option Addr) (cs : Nat) (r : List S51) (ls : List ByteArray) (W : World) (c : S51) (l : List S51) (hI : DInv k w s o As cs [] r ls W (c :: l)) :
    Calls Try.prog 35 #[.agg #[.string c.f0, .int .u64 c.f1, .int .u64 c.f2], .pointer (some ⟨s, 0, none⟩), .pointer (some ⟨o, 0, none⟩)] W fun e w' => e = .returned (.tuple #[]) ∧ DInv k w s o As cs [] r ls w' l := by
  obtain ⟨hs, hb, ⟨v, out, ho, hR, hd⟩, hC, hcs, hB⟩ := hI
  obtain ⟨Ao, co, rfl⟩ := Kd.R_slice hR
  have HS := Aside0.mk hs
  have HBO := Aside0.mk hb
  have HO := Aside0.mk ho
  have HR := Aside0.mk hR
  have HC := Aside0.mk hC
  have HCS := Aside0.mk hcs
  have HB := Aside0.mk hB
  obtain ⟨w1, hw1⟩ : ∃ w1, W.alloc (.cells #[.string c.f0, .int .u64 c.f1, .int .u64 c.f2] 51) = w1 := ⟨_, rfl⟩
  have hbx : w1.heap[W.heap.size]? = some (.cells #[.string c.f0, .int .u64 c.f1, .int .u64 c.f2] 51 (0, 0)) := by rw [← hw1]; exact heap_alloc_new W _
  have HBX := Aside0.mk hbx
  have HB1 : Aside0 (Below W.heap.size W w1) := ⟨by rw [← hw1]; exact below_alloc (Below.refl _ _) _⟩
  have hc0 : w1.cell? ⟨W.heap.size, 0, none⟩ = some (.string c.f0) := (blk_cell hbx 0).trans rfl
  have hc1 : w1.cell? ⟨W.heap.size, 1, none⟩ = some (.int .u64 c.f1) := (blk_cell hbx 1).trans rfl
  have hc2 : w1.cell? ⟨W.heap.size, 2, none⟩ = some (.int .u64 c.f2) := (blk_cell hbx 2).trans rfl
  have hs0 : w1.cell? ⟨s, 0, none⟩ = some (.slice As ls.length cs) := (blk_cell ((HB1.out.block s (blk_lt hs)).trans hs) 0).trans rfl
  by_cases h12 : c.f1 = c.f2
  · have hq : (c.f1 != c.f2) = false := by simpa using h12
    have HD : Aside0 (dgo k ls l out = some r) := ⟨by rw [dgo, if_pos h12] at hd; exact hd⟩
    clear hs hb ho hR hC hcs hB hd hbx h12
    go_enter Try.func35, Try.ntmps35
    go_wp2
    go_end0
    exact ⟨rfl, ⟨(HB1.out.block s (blk_lt HS.out)).trans HS.out, HBO.out, ⟨_, out, (HB1.out.block o (blk_lt HO.out)).trans HO.out, Kd.R_below HR.out HB1.out, HD.out⟩, HC.out, HCS.out, below_then HB.out HB.out.size HB1.out⟩⟩
  · have hq : (c.f1 != c.f2) = true := by simpa using h12
    rw [dgo, if_neg h12] at hd
    obtain ⟨t, ht, hd⟩ := Option.bind_eq_some_iff.mp hd
    have HT := Aside0.mk ht
    have HW1 : Aside0 (Below w.heap.size w w1) := ⟨below_then HB.out HB.out.size HB1.out⟩
    cases t
    · have HD : Aside0 (dgo k ls l out = some r) := ⟨by simpa using hd⟩
      clear hs hb ho hR hC hcs hB hd hbx h12 ht
      go_enter Try.func35, Try.ntmps35
      go_wp2_with (go_at_call 27; refine (path_Set_Has.calls k As cs ls c.f0 false w1 (Kd.C_below HC.out HW1.out) HCS.out HT.out).mono ?_; rintro e w2 ⟨rfl, hb⟩; have HB2 := Aside0.mk (below_then HB1.out HB1.out.size hb); clear hb)
      go_end0
      exact ⟨rfl, ⟨(HB2.out.block s (blk_lt HS.out)).trans HS.out, HBO.out, ⟨_, out, (HB2.out.block o (blk_lt HO.out)).trans HO.out, Kd.R_below HR.out HB2.out, HD.out⟩, HC.out, HCS.out, below_then HB.out HB.out.size HB2.out⟩⟩
    · rw [if_pos rfl] at hd
      by_cases hl : out.length < 4000000000
      · rw [if_pos hl] at hd
        have HD := Aside0.mk hd
        clear hs hb ho hR hC hcs hB hd hbx h12 ht
        go_enter Try.func35, Try.ntmps35
        go_wp2_with (first
          | (go_at_call 27; refine (path_Set_Has.calls k As cs ls c.f0 true w1 (Kd.C_below HC.out HW1.out) HCS.out HT.out).mono ?_; rintro e w2 ⟨rfl, hb⟩; have HB2 := Aside0.mk (below_then HB1.out HB1.out.size hb); have hbx := (hb.block _ (blk_lt HBX.out)).trans HBX.out; have hd0 : w2.cell? ⟨W.heap.size, 0, none⟩ = some (.string c.f0) := ((blk_cell hbx 0).trans rfl); have hd1 : w2.cell? ⟨W.heap.size, 1, none⟩ = some (.int .u64 c.f1) := ((blk_cell hbx 1).trans rfl); have hd2 : w2.cell? ⟨W.heap.size, 2, none⟩ = some (.int .u64 c.f2) := ((blk_cell hbx 2).trans rfl); have HO2 := Aside0.mk ((HB2.out.block o (blk_lt HO.out)).trans HO.out); have HS2 := Aside0.mk ((HB2.out.block s (blk_lt HS.out)).trans HS.out); have ho0 : w2.cell? ⟨o, 0, none⟩ = some (.slice Ao out.length co) := ((blk_cell HO2.out 0).trans rfl); have HR2 := Aside0.mk (Kd.R_below HR.out HB2.out); have HW2 := Aside0.mk (below_then HB.out HB.out.size HB2.out); clear hb hbx hc0 hc1 hc2)
          | (at_builtin; refine Kd.R_append k51 (w0 := w) (W := w2) w.heap.size rfl (.tmp 15) (.tmp 17) 43 51 (.agg #[(.string ⟨#[]⟩), (.int .u64 0), (.int .u64 0)]) 32 rfl Try.underlying43 info51 rfl (by decide) (by omega) (.slice Ao out.length co) out c [.string c.f0, .int .u64 c.f1, .int .u64 c.f2] (fun _ => True) (fun _ => False) rfl rfl ?aP (fun _ hk => hk.elim) ?aF ?aO ?aB ?aS ?aL ?_; (case aP => exact k51_mkM _ _ _ c); (case aF => exact fun _ _ => trivial); (case aO => exact HR2.out); (case aB => exact HW2.out); (case aS => exact HW2.out.size); (case aL => omega); intro v3 w3 hr hb hg hat; obtain ⟨A3, c3, e3⟩ := Kd.R_slice hr; subst e3; have HR3 := Aside0.mk hr; have HB3 := Aside0.mk hb; have HO3 := Aside0.mk (blk_grown HO2.out hg (Kd.R_ne HR2.out HO2.out (by decide))); have HS3 := Aside0.mk (blk_grown HS2.out hg (Kd.R_ne HR2.out HS2.out (by decide))); have ho3 : w3.cell? ⟨o, 0, none⟩ = some (.slice Ao out.length co) := ((blk_cell HO3.out 0).trans rfl); have hf3 : w3.frozen? ⟨o, 0, none⟩ = false := blk_frozen HO3.out 0; clear hr hb hg hat))
        go_end0
        have hso : s ≠ o := blk_ne HS3.out HO3.out (by decide)
        have hset : ∀ u : Value, (w3.setCell ⟨o, 0, none⟩ u).heap[o]? = some (.cells #[u] 43 (0, 0)) := fun u => by simpa using blk_set HO3.out 0 u
        have hR4 := HR3.out
        rw [show (out ++ [c]).length = out.length + 1 by simp] at hR4
        exact ⟨rfl, ⟨blk_far HS3.out (p := ⟨o, 0, none⟩) hso _, HBO.out, ⟨_, out ++ [c], hset _, Kd.R_set hR4 HO3.out (by decide) 0 _, HD.out⟩, HC.out, HCS.out, HB3.out.setCell HBO.out _⟩⟩
      · rw [if_neg hl] at hd
        cases hd
theorem DInv.drewN {k : Nat} {w : World} {s o : Nat} {As : Option Addr} {cs : Nat} {r : List S51} {ls : List ByteArray} {W : World} {l : List S51} (h : DInv k w s o As cs [] r ls W l) (n : Nat) : DInv k w s o As cs [] r ls (W.drewN n) l := by
  obtain ⟨hs, hb, ⟨v, out, ho, hR, hd⟩, hC, hcs, hB⟩ := h
  exact ⟨hs, hb, ⟨v, out, ho, Kd.R_drewN hR n, hd⟩, hC, hcs, pw_below_drewN hB n⟩
def tree_Diff.f (k : Nat) (l0 l1 : List S38) (ls : List ByteArray) : Option (List S51) := dgo k ls (mg (l0.length + l1.length) l0 l1) []
set_option maxHeartbeats 4000000 in
set_option maxRecDepth 100000 in
theorem tree_Diff.calls (k : Nat) (A0 : Option Addr) (c0 : Nat) (l0 : List S38) (A1 : Option Addr) (c1 : Nat) (l1 : List S38) (A2 : Option Addr) (c2 : Nat) (ls : List ByteArray) (r : List S51) (w : World)
    (hr0 : Kd.C k38 w A0 l0.length l0) (hc0 : l0.length ≤ c0) (hr1 : Kd.C k38 w A1 l1.length l1) (hc1 : l1.length ≤ c1) (hr2 : Kd.C Kd.string w A2 ls.length ls) (hc2 : ls.length ≤ c2) (h : tree_Diff.f k l0 l1 ls = some r) :
    Calls Try.prog 15 #[.slice A0 l0.length c0, .slice A1 l1.length c1, .agg #[.slice A2 ls.length c2]] w fun e w' => ∃ v0_ : Value, e = .returned (v0_) ∧ Kd.R k51 51 w' w.heap.size (fun _ => True) v0_ r ∧ Below w.heap.size w w' := by
  have HR0 := Aside0.mk hr0
  have HR1 := Aside0.mk hr1
  have HR2 := Aside0.mk hr2
  have HC0 := Aside0.mk hc0
  have HC1 := Aside0.mk hc1
  have HC2 := Aside0.mk hc2
  have H := Aside0.mk h
  clear hr0 hr1 hr2 hc0 hc1 hc2 h
  obtain ⟨w1, hw1⟩ : ∃ w1, w.alloc (.cells #[.slice A2 ls.length c2] 46) = w1 := ⟨_, rfl⟩
  obtain ⟨w2, hw2⟩ : ∃ w2, w1.alloc (.cells #[.slice none 0 0] 43) = w2 := ⟨_, rfl⟩
  have HB1 : Aside0 (Below w.heap.size w w1) := ⟨by rw [← hw1]; exact below_alloc (Below.refl _ _) _⟩
  have HB2 : Aside0 (Below w.heap.size w w2) := ⟨by rw [← hw2]; exact below_alloc HB1.out _⟩
  have HB12 : Aside0 (Below w1.heap.size w1 w2) := ⟨by rw [← hw2]; exact below_alloc (Below.refl _ _) _⟩
  have hs1 : w1.heap[w.heap.size]? = some (.cells #[.slice A2 ls.length c2] 46 (0, 0)) := by rw [← hw1]; exact heap_alloc_new w _
  have HI : Aside0 (DInv k w w.heap.size w1.heap.size A2 c2 [] r ls w2 (mg (l0.length + l1.length) l0 l1)) := ⟨⟨(HB12.out.block _ (blk_lt hs1)).trans hs1, HB1.out.size, ⟨_, [], by rw [← hw2]; exact heap_alloc_new w1 _, Kd.R_nil _ _ _ _ _, H.out⟩, HR2.out, HC2.out, HB2.out⟩⟩
  clear hs1
  go_enter Try.func15, Try.ntmps15
  go_wp2_with (go_at_call 29; refine (merge 35 (enters_of Try.func35 (by kernel_rfl) rfl) w #[.pointer (some ⟨w.heap.size, 0, none⟩), .pointer (some ⟨w1.heap.size, 0, none⟩)] (fun W l => DInv k w w.heap.size w1.heap.size A2 c2 [] r ls W l) (fun W l h => h.below) (fun W l n h => h.drewN n) (fun W c l h => diff1_calls k w _ _ _ _ r ls W c l h) A0 A1 c0 c1 l0 l1 w2 HR0.out HR1.out HC0.out HC1.out HI.out).mono ?_; rintro e w3 ⟨rfl, hi⟩; obtain ⟨_, _, ⟨v, out, ho, hR, hd⟩, _, _, hB⟩ := hi; obtain rfl : out = r := Option.some.inj hd; obtain ⟨Ao, co, e3⟩ := Kd.R_slice hR; subst e3; have HR3 := Aside0.mk hR; have HB3 := Aside0.mk hB; have ho3 : w3.cell? ⟨w1.heap.size, 0, none⟩ = some (.slice Ao out.length co) := ((blk_cell ho 0).trans rfl); clear hR hB ho hd)
  go_ret
  exact ⟨_, rfl, HR3.out, HB3.out⟩
theorem dgo_mono : ∀ (l : List S51) (k : Nat) (ls : List ByteArray) (out : List S51), LeO (dgo k ls l out) (dgo (k + 1) ls l out)
  | [], k, ls, out => LeO.refl _
  | c :: l, k, ls, out => by
    unfold dgo
    refine LeO.ite (dgo_mono l k ls out) (LeO.bind (path_Set_Has.mono ls c.f0 k) (fun t => ?_))
    exact LeO.ite (LeO.ite (dgo_mono l k ls _) (LeO.refl _)) (dgo_mono l k ls out)
theorem tree_Diff.mono : ∀ a0 a1 a2 k, LeO (tree_Diff.f k a0 a1 a2) (tree_Diff.f (k + 1) a0 a1 a2) := fun a0 a1 a2 k => dgo_mono _ k a2 []

end Go.Proofs.Ytjnefjggmeieaaa.MT

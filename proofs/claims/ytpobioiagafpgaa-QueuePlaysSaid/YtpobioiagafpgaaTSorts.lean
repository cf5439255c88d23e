/- The law QueueSorts, walked by hand. No condition. -/
import Derived.Test.YtpobioiagafpgaaTQueue2
import Derived.Test.YtpobioiagafpgaaTItems
set_option linter.unusedVariables false
set_option linter.unusedSimpArgs false
namespace Go.Proofs.Ytpobioiagafpgaa.PQueuePlays
open Go.RowKit Go.Proofs.YtpobioiagafpgaaW.PrintWords Go.Proofs.YtpobioiagafpgaaW.PrintLast Go.Proofs.YtpobioiagafpgaaW.PrintMore
open Go.Proofs.Ytpobioiagafpgaa.Pure
theorem sorts_push {b N n ci : Nat} {v : Value} {X : List S31} {Ai : Option Addr} {w2 : World} {B0 : Nat} (hX : X.length = n) (hq : IsQ w2 N b v []) (hN : N ≤ w2.heap.size) (hi : Kd.R k31 31 w2 B0 (fun k => k < N) (.slice Ai n ci) X) (hc : n ≤ ci) (hn : n ≤ 1000000) :
    Calls Try.prog 9 #[.pointer (some ⟨b, 0, none⟩), .slice Ai n ci] w2 fun e w' => ∃ v', e = .returned (.tuple #[]) ∧ IsQ w' N b v' (X.foldl (push z31 lt31) []) ∧ Below N w2 w' ∧ Kd.R k31 31 w' B0 (fun k => k < N) (.slice Ai n ci) X := by
  have hS : ∀ k, k < N → ¬ QS b v k := by
    rintro k hk (h | h)
    · have := hq.base; omega
    · have := Kd.R_base hq.row k h.symm; omega
  subst hX
  refine (push_calls N b v [] Ai ci X w2 hq hN (Kd.C_kept_own hi hS) hc (by simpa using hn)).mono ?_
  rintro e w' ⟨v', rfl, hq', hk, hb, _⟩
  exact ⟨v', rfl, hq', hb, Kd.R_kept hi hk hS⟩
theorem QS_eq {b : Nat} {v v3 : Value} (h : v.ownBlock = v3.ownBlock) (k : Nat) : QS b v k ↔ QS b v3 k := by unfold QS; rw [h]
theorem QS_new {b N : Nat} {v v3 : Value} {w : World} {l : List S31} (hq : IsQ w N b v l) (hv : v.ownBlock = v3.ownBlock) {W : World} (hW : w.heap.size ≤ W.heap.size) : ∀ k, W.heap.size ≤ k → ¬ QS b v3 k := by
  intro k hk h
  rcases (QS_eq hv k).2 h with h | h
  · have := blk_lt hq.blk; omega
  · have := Kd.R_lt hq.row k h.symm; omega
theorem sorts_pop {b N m co : Nat} {v v3 : Value} {h out : List S31} {Ao : Option Addr} {wr : World} {x : S31} (ho : Kd.R k31 31 wr N (fun k => ¬ QS b v3 k) (.slice Ao m co) out) (hq : IsQ wr N b v h) (hN : N ≤ wr.heap.size) (hv : v.ownBlock = v3.ownBlock) (hx : h.getD 0 z31 = x) :
    Calls Try.prog 11 #[.pointer (some ⟨b, 0, none⟩)] wr fun e w' => ∃ v', e = .returned (.tuple #[.agg #[.int .i64 x.f0, .int .u64 x.f1], .bool (decide (0 < h.length))]) ∧ IsQ w' N b v' (popL z31 lt31 h) ∧ Below N wr w' ∧ v'.ownBlock = v3.ownBlock ∧ Kd.R k31 31 w' N (fun k => ¬ QS b v3 k) (.slice Ao m co) out := by
  refine (pop_calls N b v h wr hq hN).mono ?_
  rintro e w' ⟨v', rfl, hq', hk, hb, hv'⟩
  exact ⟨v', by rw [hx], hq', hb, hv'.trans hv, Kd.R_kept ho hk (fun k hk h => hk ((QS_eq hv k).1 h))⟩
theorem sorts_app {b N m co : Nat} {v v3 : Value} {h out : List S31} {Ao : Option Addr} {w4 w5 : World} {o : Obj} (hq : IsQ w4 N b v h) (hv : v.ownBlock = v3.ownBlock) (ho : Kd.R k31 31 w4 N (fun k => ¬ QS b v3 k) (.slice Ao m co) out) (hg : (w4.alloc o).grownBy w5 (Value.slice Ao m co).ownBlock) : IsQ w5 N b v h := by
  refine (hq.alloc o).kept (S := fun k => some k = (Value.slice Ao m co).ownBlock) ⟨hg.size, fun i hi hn => hg.block i hi hn⟩ ?_
  intro k hk e
  exact ho.1 k e.symm ((QS_eq hv k).1 hk)
theorem Kept.of_lt {N : Nat} {w w' : World} (h : Below N w w') : Kept w w' (fun k => N ≤ k) := ⟨h.size, fun i _ hn => h.block i (by omega)⟩
theorem eqA31 (d : Nat) (w : World) (x0 y0 : Int) (x1 y1 : Int) :
    (Op.equalIn (d + 2) 31 (.agg #[.int .i64 x0, .int .u64 x1]) (.agg #[.int .i64 y0, .int .u64 y1])).run Try.prog w = .ok (x0 == y0 && (x1 == y1)) w := by
  refine eqA_of Try.underlying31 (by kernel_rfl) ?_
  refine eqf_cons (by rfl) (by go_simp; rfl) (by go_simp; rfl) (by go_simp) ?_
  exact eqf_last (by rfl) (by go_simp; rfl) (by go_simp; rfl) (by go_simp)
attribute [local go_sem high] eqA31
set_option maxHeartbeats 8000000 in
set_option maxRecDepth 100000 in
theorem sorts_walk (A : Option Addr) (c : Nat) (l : List S28) (w : World) (hr : Kd.C k28 w A l.length l) (hc : l.length ≤ c) :
    Calls Try.prog 4 #[.slice A l.length c] w fun e w' => e = .returned (.bool true) ∧ Below w.heap.size w w' := by
  have HR := Aside0.mk hr
  have HC := Aside0.mk hc
  have hmx : l.length ≤ 9223372036854775807 := Kd.C_max hr
  clear hr hc
  by_cases hbig : 1000 < l.length
  · have hb1 : decide (1000 < (l.length : Int)) = true := decide_eq_true (by omega)
    go_enter Try.func4, Try.ntmps4
    go_wp2_with (go_at_call 6; refine (awake_calls w).mono ?_; rintro e w1 ⟨rfl, hb⟩)
    go_ret
    exact ⟨rfl, hb⟩
  · have hb1 : decide (1000 < (l.length : Int)) = false := decide_eq_false (by omega)
    obtain ⟨X, hX⟩ : ∃ X, l.map c28 = X := ⟨_, rfl⟩
    have hXl : X.length = l.length := by rw [← hX]; simp
    have HX := Aside0.mk hX
    have HXL := Aside0.mk hXl
    clear hX hXl
    go_enter Try.func4, Try.ntmps4
    go_wp2_with (go_at_call 6; refine (awake_calls w).mono ?_; rintro e w1 ⟨rfl, hb⟩; have HB1 := Aside0.mk hb; clear hb)
    go_loopw [3, 4] (fun s3 s4 wr => ∃ k : Nat, s4 = .int .i64 k ∧ Aside0 (k ≤ l.length) ∧ Aside0 (Kd.R k31 31 wr w.heap.size (fun _ => True) s3 (X.take k)) ∧ Aside0 (Below w.heap.size w wr)) (fun s3 s4 wr => l.length - (intOf s4).toNat)
    case atStart => exact ⟨0, rfl, ⟨by omega⟩, ⟨Kd.R_nil _ _ _ _ _⟩, HB1⟩
    case round =>
      obtain ⟨k, rfl, HK, HI, HB⟩ := hrel
      obtain ⟨Ai, ci, rfl⟩ := Kd.R_slice HI.out
      have hil : (X.take k).length = k := by have := HK.out; have := HXL.out; rw [List.length_take]; omega
      rw [hil] at HI ⊢
      have HIL := Aside0.mk hil
      clear hil
      by_cases hlt : k < l.length
      · obtain ⟨ad, rfl, hx0, hx1⟩ := at_T28 (Kd.C_below HR.out HB.out) (k : Int) (by omega) (by omega)
        obtain ⟨x, hx⟩ : ∃ x, rd_T28 l (k : Int) = x := ⟨_, rfl⟩
        rw [hx] at hx0 hx1
        simp only [Int.toNat_natCast] at hx0 hx1
        have HXE := Aside0.mk hx
        clear hx
        go_wp2_with (first
          | (go_at_call 7; refine (forebearlaw02_item.calls x.f0 x.f1 x.f0 x.f1 _ rfl).mono ?_; rintro e w2 ⟨rfl, hb⟩; have HB2 := Aside0.mk (below_then HB.out HB.out.size hb); have HI2 := Aside0.mk (Kd.R_below HI.out hb); clear hb)
          | (at_builtin; refine Kd.R_append k31 (w0 := w) (W := w2) w.heap.size rfl (.tmp 25) (.tmp 31) 25 31 (.agg #[(.int .i64 0), (.int .u64 0)]) 16 rfl Try.underlying25 info31 rfl (by decide) (by omega) (.slice Ai k ci) (X.take k) (c28 x) [.int .i64 x.f0, .int .u64 x.f1] (fun _ => True) (fun _ => False) rfl rfl ?aP (fun _ hk => hk.elim) ?aF ?aO ?aB ?aS ?aL ?_; (case aP => exact k31_mkM _ _ _ (c28 x)); (case aF => exact fun _ _ => trivial); (case aO => exact HI2.out); (case aB => exact HB2.out); (case aS => exact HB2.out.size); (case aL => have := HIL.out; omega); intro v1 w3 ho hb hg hat; have HI3 := Aside0.mk ho; have HB3 := Aside0.mk hb; clear ho hb hg hat))
        go_roundw
        case rel => exact ⟨k + 1, by go_num, ⟨by omega⟩, ⟨by rw [take_snoc31 X k (by rw [HXL.out]; exact hlt), ← HX.out, ← rd28 l k hlt, HXE.out, HX.out]; exact HI3.out⟩, HB3⟩
        case measure => simp [intOf]; omega
      · obtain rfl : k = l.length := by have := HK.out; omega
        have hXt : X.take l.length = X := List.take_of_length_le (by rw [HXL.out]; exact Nat.le_refl _)
        rw [hXt] at HI
        obtain ⟨n, hn⟩ : ∃ n, l.length = n := ⟨_, rfl⟩
        have hn6 : n ≤ 1000 := by omega
        have hXn : X.length = n := by rw [HXL.out, hn]
        have HXN := Aside0.mk hXn
        have HIN : Aside0 (Kd.R k31 31 wr w.heap.size (fun k => k < wr.heap.size) (.slice Ai n ci) X) := ⟨by rw [← hn]; exact Kd.R_mono (Kd.R_bound HI.out) (fun k hk => hk.2.2.1)⟩
        have hcI : n ≤ ci := by have := (Kd.R_reads' HIN.out).2.1; exact this
        obtain ⟨N, hN⟩ : ∃ N, wr.heap.size = N := ⟨_, rfl⟩
        have HNE := Aside0.mk hN
        have hNr : Aside0 (N ≤ wr.heap.size) := ⟨by omega⟩
        rw [hN] at HIN
        have HW0 := HB
        have HNW : Aside0 (w.heap.size ≤ N) := ⟨by rw [← hN]; exact HB.out.size⟩
        clear hXt hXn HI HIL hlt
        rw [hn] at hmx hb1 ⊢
        have HNL := Aside0.mk hn
        clear hn hN
        go_wp2_with (first
          | (go_at_call 8; refine (new_calls [] none 0 wr (Kd.C_nil _ _) (by simp) (by simp)).mono ?_; rintro e w2 ⟨b, v, rfl, hq, hb⟩; rw [HNE.out] at hq hb; have HQ2 : Aside0 (IsQ w2 N b v []) := ⟨hq⟩; have HB2 := Aside0.mk hb; have HI2 := Aside0.mk (Kd.R_below HIN.out (by rw [HNE.out]; exact hb)); have HS2 := Aside0.mk (Nat.le_trans hNr.out hb.size); clear hq hb)
          | (go_at_call 9; refine (sorts_push (n := n) HXN.out HQ2.out HS2.out HI2.out hcI (by omega)).mono ?_; rintro e w3 ⟨v3, rfl, hq, hb, hi⟩; have HQ3 := Aside0.mk hq; have HB3 := Aside0.mk (HB2.out.trans hb); have HI3 := Aside0.mk hi; clear hq hb hi))
        have HW3 : Aside0 (Below w.heap.size w w3) := ⟨HW0.out.trans (HB3.out.mono HNW.out)⟩
        go_loopw [6, 7] (fun s6 s7 wx => ∃ (k : Nat) (v : Value) (h out : List S31), s7 = .int .i64 k ∧ Aside0 (k ≤ n + 1) ∧ Aside0 (Kd.R k31 31 wx N (fun k => ¬ QS b v3 k) s6 out) ∧ Aside0 (IsQ wx N b v h) ∧ Aside0 (v.ownBlock = v3.ownBlock) ∧ Aside0 (Below N w3 wx) ∧ Aside0 (N ≤ wx.heap.size) ∧ Aside0 (SortInv lt31 z31 X out h) ∧ Aside0 (out.length = min k n)) (fun s6 s7 wx => n + 1 - (intOf s7).toNat)
        case atStart => exact ⟨0, v3, _, [], rfl, ⟨by omega⟩, ⟨Kd.R_nil _ _ _ _ _⟩, HQ3, ⟨rfl⟩, ⟨Below.refl _ _⟩, ⟨Nat.le_trans hNr.out HB3.out.size⟩, ⟨sort_start T31 z31 X⟩, ⟨by simp⟩⟩
        case round =>
          obtain ⟨k, v, h, out, rfl, HK, HO, HQ, HV, HB, HS, HSI, HOL⟩ := hrel
          have hlen : out.length + h.length = n := by have := HSI.out.perm.length_eq; rw [List.length_append, HXN.out] at this; exact this
          have HLE := Aside0.mk hlen
          obtain ⟨Ao, co, rfl⟩ := Kd.R_slice HO.out
          obtain ⟨m, hm⟩ : ∃ m, out.length = m := ⟨_, rfl⟩
          have HOL2 : Aside0 (m = min k n) := ⟨by rw [← hm]; exact HOL.out⟩
          have HME := Aside0.mk hm
          rw [hm] at HO hlen ⊢
          have HLE2 := Aside0.mk hlen
          clear hm hlen
          obtain ⟨x, hx⟩ : ∃ x, h.getD 0 z31 = x := ⟨_, rfl⟩
          have HXE := Aside0.mk hx
          clear hx
          by_cases hkn : k ≤ n
          · have hc1 : decide ((k : Int) ≤ (n : Int)) = true := decide_eq_true (by omega)
            by_cases hlt : k < n
            · have hc2 : decide ((k : Int) < (n : Int)) = true := decide_eq_true (by omega)
              have hc3 : decide (0 < h.length) = true := decide_eq_true (by have := HLE2.out; have := HOL2.out; omega)
              have hm6 : m ≤ 1000 := by have := HOL2.out; omega
              go_wp2_with (first
                | (go_at_call 11; refine (sorts_pop HO.out HQ.out HS.out HV.out HXE.out).mono ?_; rintro e w4 ⟨v4, rfl, hq, hb, hv, hi⟩; rw [hc3]; have HQ4 := Aside0.mk hq; have HB4 := Aside0.mk hb; have HV4 := Aside0.mk hv; have HO4 := Aside0.mk hi; clear hq hb hi hv; obtain ⟨wa, hwa⟩ : ∃ wa, w4.alloc (.cells #[.int .i64 x.f0, .int .u64 x.f1] 31) = wa := ⟨_, rfl⟩; have hy0 : wa.cell? ⟨w4.heap.size, 0, none⟩ = some (.int .i64 x.f0) := (by rw [← hwa]; exact (blk_cell (heap_alloc_new w4 _) 0).trans rfl); have hy1 : wa.cell? ⟨w4.heap.size, 1, none⟩ = some (.int .u64 x.f1) := (by rw [← hwa]; exact (blk_cell (heap_alloc_new w4 _) 1).trans rfl); have HWA := Aside0.mk hwa)
                | (at_builtin; refine Kd.R_append k31 (w0 := w3) (W := wa) N rfl (.tmp 55) (.tmp 57) 25 31 (.agg #[(.int .i64 0), (.int .u64 0)]) 16 rfl Try.underlying25 info31 rfl (by decide) (by omega) (.slice Ao m co) out x [.int .i64 x.f0, .int .u64 x.f1] (fun k => ¬ QS b v3 k) (fun _ => False) rfl rfl ?aP (fun _ hk => hk.elim) ?aF ?aO ?aB ?aS ?aL ?_; (case aP => exact k31_mkM _ _ _ x); (case aF => exact QS_new HQ4.out HV4.out (by rw [← HWA.out]; simp)); (case aO => rw [← HWA.out]; exact Kd.R_alloc HO4.out _); (case aB => rw [← HWA.out]; exact (HB.out.trans HB4.out).alloc (Nat.le_trans HS.out HB4.out.size) _); (case aS => rw [← HWA.out]; exact Nat.le_trans (Nat.le_trans HS.out HB4.out.size) (by simp)); (case aL => rw [HME.out]; omega); intro v1 w5 ho hb hg hat; have HO5 := Aside0.mk ho; have HB5 := Aside0.mk hb; rw [← HWA.out] at hg; have HQ5 := Aside0.mk (sorts_app HQ4.out HV4.out HO4.out hg); have HS5 := Aside0.mk (Nat.le_trans (Nat.le_trans HS.out HB4.out.size) (Nat.le_trans (by simp) hg.size)); clear ho hb hat hg))
              go_roundw
              case rel => exact ⟨k + 1, v4, popL z31 lt31 h, out ++ [x], by go_num, ⟨by omega⟩, HO5, HQ5, HV4, HB5, HS5, ⟨by rw [← HXE.out]; exact sort_step T31 z31 HSI.out (by simpa using hc3)⟩, ⟨by rw [List.length_append, HME.out, HOL2.out]; simp; omega⟩⟩
              case measure => simp [intOf]; omega
            · have hkn2 : k = n := by omega
              have hc2 : decide ((k : Int) < (n : Int)) = false := decide_eq_false (by omega)
              have hh0 : h = [] := List.eq_nil_of_length_eq_zero (by have := HLE2.out; have := HOL2.out; omega)
              have hc3 : decide (0 < h.length) = false := by rw [hh0]; rfl
              have HH0 := Aside0.mk hh0
              have HKN := Aside0.mk hkn2
              have HX0 : Aside0 (out.length = min (k + 1) n) := ⟨by rw [HME.out, HOL2.out]; omega⟩
              clear hh0 hkn2
              have HSI2 : Aside0 (SortInv lt31 z31 X out (popL z31 lt31 h)) := ⟨by have := HSI.out; rw [HH0.out] at this ⊢; exact this⟩
              go_wp2_with (first
                | (go_at_call 11; refine (sorts_pop HO.out HQ.out HS.out HV.out HXE.out).mono ?_; rintro e w4 ⟨v4, rfl, hq, hb, hv, hi⟩; rw [hc3]; have HQ4 := Aside0.mk hq; have HB4 := Aside0.mk hb; have HV4 := Aside0.mk hv; have HO4 := Aside0.mk hi; clear hq hb hi hv))
              go_roundw
              case rel => exact ⟨k + 1, v4, popL z31 lt31 h, out, by go_num, ⟨by omega⟩, ⟨Kd.R_alloc HO4.out _⟩, ⟨HQ4.out.alloc _⟩, HV4, ⟨(HB.out.trans HB4.out).alloc (Nat.le_trans HS.out HB4.out.size) _⟩, ⟨Nat.le_trans (Nat.le_trans HS.out HB4.out.size) (by simp)⟩, HSI2, HX0⟩
              case measure => simp [intOf]; omega
          · obtain rfl : k = n + 1 := by have := HK.out; omega
            have hmn : m = n := by have := HOL2.out; omega
            have hh0 : h = [] := List.eq_nil_of_length_eq_zero (by have := HLE2.out; omega)
            have hpm : out.Perm X := by have := HSI.out.perm; rw [hh0, List.append_nil] at this; exact this
            have HPM := Aside0.mk hpm
            have HSO : Aside0 (∀ i, 0 < i → i < out.length → Le lt31 (out.getD (i - 1) z31) (out.getD i z31)) := ⟨HSI.out.sorted⟩
            have HI4 : Aside0 (Kd.C k31 wr Ai n X) := ⟨by have := (Kd.R_reads' (Kd.R_kept HI3.out (Kept.of_lt HB.out) (fun k hk h => by omega))).2.2; rwa [HXN.out] at this⟩
            rw [hmn] at HO HME ⊢
            have HO4 : Aside0 (Kd.C k31 wr Ao n out) := ⟨by have := (Kd.R_reads' HO.out).2.2; rwa [HME.out] at this⟩
            clear hh0 hpm hmn HK HOL2 HLE2 HQ HV HSI HXE
            have HBw : Aside0 (Below w.heap.size w wr) := ⟨HW3.out.trans (HB.out.mono HNW.out)⟩
            have HOLn : Aside0 (out.length = n) := HME
            clear HOL HB HS HO HI3 HME hNr
            have hc1 : decide (((n + 1 : Nat) : Int) ≤ (n : Int)) = false := decide_eq_false (by omega)
            go_wp2
            clear hc1
            go_loopw [10] (fun s10 wx => ∃ k : Nat, s10 = .int .i64 k ∧ Aside0 (k ≤ n) ∧ Aside0 (Kd.C k31 wx Ai n X) ∧ Aside0 (Kd.C k31 wx Ao n out) ∧ Aside0 (Below w.heap.size w wx)) (fun s10 wx => n - (intOf s10).toNat)
            case atStart => exact ⟨0, rfl, ⟨by omega⟩, HI4, HO4, HBw⟩
            case round =>
              clear HI4 HO4 HBw
              obtain ⟨k, rfl, HK, HI4, HO4, HBw⟩ := hrel
              by_cases hlt : k < n
              · obtain ⟨ad, rfl, he0, he1⟩ := at_T31 HO4.out (k : Int) (by omega) (by omega)
                obtain ⟨e, hee⟩ : ∃ e, rd_T31 out (k : Int) = e := ⟨_, rfl⟩
                rw [hee] at he0 he1
                simp only [Int.toNat_natCast] at he0 he1
                have HEE := Aside0.mk hee
                clear hee
                have hkn : (k : Int) < (n : Int) := by omega
                have hk00 : 0 ≤ (k : Int) := by omega
                go_upto_region 24 with (fail)
                go_cut [108] (fun s108 wx => s108 = .bool false ∧ ∃ q, wx = wr.drewN q)
                case first =>
                  by_cases hk0 : 0 < k
                  · have hkb : decide (0 < (k : Int)) = true := decide_eq_true (by omega)
                    obtain ⟨_, e1, ha0, ha1⟩ := at_T31 HO4.out ((k : Int) - 1) (by omega) (by omega)
                    obtain rfl := Option.some.inj e1
                    obtain ⟨p, hp⟩ : ∃ p, (k : Int) - 1 = (p : Nat) := ⟨k - 1, by omega⟩
                    obtain ⟨a, haa⟩ : ∃ a, rd_T31 out ((k : Int) - 1) = a := ⟨_, rfl⟩
                    rw [haa] at ha0 ha1
                    obtain ⟨h1, h2⟩ := not_ahead (a := a) (b := e) (by
                      have := HSO.out k hk0 (by rw [HOLn.out]; exact hlt)
                      rw [← haa, ← HEE.out, rd31, hp, rd31]
                      rw [show p = k - 1 by omega]; exact this)
                    rw [hp] at ha0 ha1
                    simp only [Int.toNat_natCast] at ha0 ha1
                    have hpn : (p : Int) < (n : Int) := by omega
                    have hp00 : 0 ≤ (p : Int) := by omega
                    have hpw : IntKind.i64.wrap ((k : Int) - 1) = (p : Int) := by rw [hp]; exact IntWalk.i64_in _ (by omega)
                    have hd1 : decide (a.f0 < e.f0) = false := decide_eq_false h1
                    clear haa e1 hp h1
                    by_cases h3 : e.f0 = a.f0
                    · have h4 : ¬ e.f1 < a.f1 := h2 h3
                      have hd2 : (e.f0 == a.f0) = true := by rw [h3]; simp
                      have hd3 : decide (e.f1 < a.f1) = false := decide_eq_false h4
                      clear h3 h4 h2
                      go_quiet (fail)
                      go_wp2
                      go_meet
                      case rel => exact ⟨rfl, _, rfl⟩
                    · have hd2 : (e.f0 == a.f0) = false := by simpa using h3
                      clear h3 h2
                      go_quiet (fail)
                      go_wp2
                      go_meet
                      case rel => exact ⟨rfl, _, rfl⟩
                  · have hkb : decide (0 < (k : Int)) = false := decide_eq_false (by omega)
                    go_quiet (fail)
                    go_wp2
                    go_meet
                    case rel => exact ⟨rfl, _, rfl⟩
                case rest =>
                  obtain ⟨rfl, q, rfl⟩ := hcut
                  go_wp2
                  have HX4 : Aside0 (Kd.C k31 (wr.drewN q) Ai n X) := ⟨Kd.C_drewN HI4.out q⟩
                  have HO5 : Aside0 (Kd.C k31 (wr.drewN q) (some ad) n out) := ⟨Kd.C_drewN HO4.out q⟩
                  have HB5 : Aside0 (Below w.heap.size w (wr.drewN q)) := ⟨pw_below_drewN HBw.out q⟩
                  generalize wr.drewN q = wq at *
                  clear he0 he1
                  go_loopw [11, 12, 13] (fun s11 s12 s13 wx => ∃ j : Nat, s13 = .int .i64 j ∧ Aside0 (j ≤ n) ∧ s11 = .int .i64 (cnt e (out.take j) : Nat) ∧ s12 = .int .i64 (cnt e (X.take j) : Nat) ∧ Aside0 (Kd.C k31 wx Ai n X) ∧ Aside0 (Kd.C k31 wx (some ad) n out) ∧ Aside0 (Below w.heap.size w wx)) (fun s11 s12 s13 wx => n - (intOf s13).toNat)
                  case atStart => exact ⟨0, rfl, ⟨by omega⟩, rfl, rfl, HX4, HO5, HB5⟩
                  case round =>
                    clear HX4 HO5 HB5
                    obtain ⟨j, rfl, HJ, rfl, rfl, HX4, HO5, HB5⟩ := hrel
                    by_cases hj : j < n
                    · have EC := HJ
                      obtain ⟨_, r1, he0, he1⟩ := at_T31 HO5.out (k : Int) (by omega) (by omega)
                      obtain rfl := Option.some.inj r1
                      obtain ⟨_, r2, hy0, hy1⟩ := at_T31 HO5.out (j : Int) (by omega) (by omega)
                      obtain rfl := Option.some.inj r2
                      obtain ⟨ai, rfl, hu0, hu1⟩ := at_T31 HX4.out (j : Int) (by omega) (by omega)
                      rw [HEE.out] at he0 he1
                      obtain ⟨y, hy⟩ : ∃ y, rd_T31 out (j : Int) = y := ⟨_, rfl⟩
                      obtain ⟨u, hu⟩ : ∃ u, rd_T31 X (j : Int) = u := ⟨_, rfl⟩
                      rw [hy] at hy0 hy1
                      rw [hu] at hu0 hu1
                      simp only [Int.toNat_natCast] at he0 he1 hy0 hy1 hu0 hu1
                      have ht1 : cnt e (out.take (j + 1)) = cnt e (out.take j) + if (y.f0 == e.f0 && (y.f1 == e.f1)) = true then 1 else 0 := by
                        rw [take_snoc31 out j (by rw [HOLn.out]; exact hj), ← rd31, hy, cnt_snocB]
                      have ht2 : cnt e (X.take (j + 1)) = cnt e (X.take j) + if (u.f0 == e.f0 && (u.f1 == e.f1)) = true then 1 else 0 := by
                        rw [take_snoc31 X j (by rw [HXN.out]; exact hj), ← rd31, hu, cnt_snocB]
                      have hb1 : cnt e (out.take j) ≤ 1000 := by have := cnt_le e (out.take j); rw [List.length_take, HOLn.out] at this; omega
                      have hb2 : cnt e (X.take j) ≤ 1000 := by have := cnt_le e (X.take j); rw [List.length_take, HXN.out] at this; omega
                      obtain ⟨p, hp⟩ : ∃ p, cnt e (out.take j) = p := ⟨_, rfl⟩
                      obtain ⟨r, hr⟩ : ∃ r, cnt e (X.take j) = r := ⟨_, rfl⟩
                      rw [hp] at ht1 hb1 ⊢
                      rw [hr] at ht2 hb2 ⊢
                      obtain ⟨q1, hq1⟩ : ∃ q1, (y.f0 == e.f0 && (y.f1 == e.f1)) = q1 := ⟨_, rfl⟩
                      obtain ⟨q2, hq2⟩ : ∃ q2, (u.f0 == e.f0 && (u.f1 == e.f1)) = q2 := ⟨_, rfl⟩
                      rw [hq1] at ht1
                      rw [hq2] at ht2
                      have HT1 := Aside0.mk ht1
                      have HT2 := Aside0.mk ht2
                      clear ht1 ht2 hp hr hy hu r1 r2
                      have hjn : (j : Int) < (n : Int) := by omega
                      have hj00 : 0 ≤ (j : Int) := by omega
                      have HT3 : Aside0 (Kd.C k31 wr (some ad) n out) := HO5
                      have fin : ∀ (q' a' b' : Nat), cnt e (out.take (j + 1)) = a' → cnt e (X.take (j + 1)) = b' → (∃ j' : Nat, Value.int .i64 ((j : Int) + 1) = .int .i64 j' ∧ Aside0 (j' ≤ n) ∧ Value.int .i64 a' = .int .i64 (cnt e (out.take j') : Nat) ∧ Value.int .i64 b' = .int .i64 (cnt e (X.take j') : Nat) ∧ Aside0 (Kd.C k31 (wr.drewN q') (some ai) n X) ∧ Aside0 (Kd.C k31 (wr.drewN q') (some ad) n out) ∧ Aside0 (Below w.heap.size w (wr.drewN q'))) :=
                        fun q' a' b' ha hb => ⟨j + 1, by go_num, ⟨by omega⟩, by rw [ha], by rw [hb], ⟨Kd.C_drewN HX4.out q'⟩, ⟨Kd.C_drewN HO5.out q'⟩, ⟨pw_below_drewN HB5.out q'⟩⟩
                      have FIN := Aside0.mk fin
                      clear fin
                      cases q1 <;> cases q2
                      all_goals
                        have HH1 := HT1.out
                        have HH2 := HT2.out
                        simp only [Bool.false_eq_true, if_true, if_false, Nat.add_zero] at HH1 HH2
                        have HF1 := Aside0.mk HH1
                        have HF2 := Aside0.mk HH2
                        clear HH1 HH2
                        go_upto_region 31 with (fail)
                        go_quiet (fail)
                        go_upto_region 33 with (fail)
                        go_quiet (fail)
                        go_wp2
                        go_roundw
                        case rel => exact FIN.out _ _ _ HF1.out HF2.out
                        case measure => simp [intOf]; omega
                    · obtain rfl : j = n := by have := HJ.out; omega
                      have hE : cnt e (out.take j) = cnt e (X.take j) := by
                        rw [List.take_of_length_le (by rw [HOLn.out]; exact Nat.le_refl _), List.take_of_length_le (by rw [HXN.out]; exact Nat.le_refl _)]; exact cnt_perm HPM.out
                      rw [hE]
                      generalize cnt e (X.take j) = cc at *
                      clear hE
                      go_wp2
                      go_roundw
                      case rel => exact ⟨k + 1, by go_num, ⟨by omega⟩, HX4, HO5, HB5⟩
                      case measure => simp [intOf]; omega
              · go_wp2
                go_ret
                exact ⟨rfl, HBw.out⟩
theorem sorts_walk2 (W : World) (A : Option Addr) (c : Nat) (l : List S28) (_ : l.length * 16 ≤ 140737488351232 ∧ l.length ≤ 9223372036854775807 ∧ ∀ y ∈ l, gS28 y) (hr : Kd.C k28 W A l.length l) (hc : l.length ≤ c) :
    Calls Try.prog 4 #[.slice A l.length c] W fun e w' => e = .returned (.bool true) ∧ Below W.heap.size W w' := sorts_walk A c l W hr hc
end Go.Proofs.Ytpobioiagafpgaa.PQueuePlays

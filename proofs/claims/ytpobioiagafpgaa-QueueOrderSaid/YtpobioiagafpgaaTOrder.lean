/- The law QueueOrder, walked by hand. No condition. -/
import Derived.Test.YtpobioiagafpgaaTSorts
set_option linter.unusedVariables false
set_option linter.unusedSimpArgs false
namespace Go.Proofs.Ytpobioiagafpgaa.PQueuePlays
open Go.RowKit Go.Proofs.YtpobioiagafpgaaW.PrintWords Go.Proofs.YtpobioiagafpgaaW.PrintLast Go.Proofs.YtpobioiagafpgaaW.PrintMore
open Go.Proofs.Ytpobioiagafpgaa.Pure Go.Proofs.Ytpobioiagafpgaa.Opening
/-- One item is pushed, out of a literal. -/
theorem push1_calls {N b : Nat} {v vi : Value} {h is_ : List S31} {W : World} (x : S31) (hq : IsQ W N b v h) (hN : N ≤ W.heap.size) (hl : h.length < 1000) (hi : Kd.R k31 31 W N (fun k => ¬ QS b v k) vi is_) :
    Calls Try.prog 9 #[.pointer (some ⟨b, 0, none⟩), .slice (some ⟨W.heap.size, 0, none⟩) 1 1] (W.alloc (.cells #[.int .i64 x.f0, .int .u64 x.f1] 31)) fun e w' => ∃ v', e = .returned (.tuple #[]) ∧ IsQ w' N b v' (push z31 lt31 h x) ∧ Below N W w' ∧ Kd.R k31 31 w' N (fun k => ¬ QS b v' k) vi is_ := by
  have hr := lit31 W [x] (by simp)
  have hS : ∀ k, W.heap.size ≤ k → ¬ QS b v k := QS_new hq rfl (Nat.le_refl _)
  have hr2 : Kd.R k31 31 (W.alloc (.cells #[.int .i64 x.f0, .int .u64 x.f1] 31)) W.heap.size (fun k => W.heap.size ≤ k) (.slice (some ⟨W.heap.size, 0, none⟩) 1 1) [x] := Kd.R_mono (Kd.R_bound hr) (fun k hk => hk.2.1)
  have hlt : ∀ k, vi.ownBlock = some k → k < W.heap.size := Kd.R_lt hi
  refine (push_calls N b v h (some ⟨W.heap.size, 0, none⟩) 1 [x] _ (hq.alloc _) (Nat.le_trans hN (by simp)) (Kd.C_kept_own hr2 hS) (Nat.le_refl _) (by simp; omega)).mono ?_
  rintro e w' ⟨v', rfl, hq', hk, hb, hv⟩
  refine ⟨v', rfl, hq', ((Below.refl N W).alloc hN _).trans hb, ?_⟩
  have h1 : Kd.R k31 31 w' N (fun k => ¬ QS b v k) vi is_ := Kd.R_kept (Kd.R_alloc hi _) hk (fun k hk h => hk h)
  refine Kd.R_mono (Kd.R_tight rfl h1) ?_
  intro k hk hq2
  have hk' := hi.1 k hk.symm
  rcases hq2 with h | h
  · exact hk' (.inl h)
  · rcases hv with hv | ⟨k2, hv, hge⟩
    · exact hk' (.inr (by rw [h, hv]))
    · rw [hv] at h
      have e := Option.some.inj h
      have := hlt k hk.symm
      simp at hge
      omega
theorem order_app {b N : Nat} {v vi v1 : Value} {h is_ : List S31} {w4 w5 : World} (hq : IsQ w4 N b v h) (ho : Kd.R k31 31 w4 N (fun k => ¬ QS b v k) vi is_) (hg : w4.grownBy w5 vi.ownBlock) : IsQ w5 N b v h := by
  refine hq.kept (S := fun k => some k = vi.ownBlock) ⟨hg.size, fun i hi hn => hg.block i hi hn⟩ ?_
  intro k hk e
  exact ho.1 k e.symm hk
theorem order_push {l : List S28} {X h : List S31} {k J : Nat} {y : S28} (hp : h.Perm (X.reverse.take k)) (hX : l.map c28 = X) (hk : k < l.length) (hJ : J = l.length - 1 - k) (hy : rd_T28 l (J : Int) = y) : (push z31 lt31 h (c28 y)).Perm (X.reverse.take (k + 1)) := by
  have hl : X.length = l.length := by rw [← hX]; simp
  rw [take_snoc31 X.reverse k (by rw [List.length_reverse, hl]; exact hk)]
  have e : X.reverse.getD k z31 = c28 y := by
    rw [← hy, rd28 l J (by omega), hX, List.getD_eq_getElem?_getD, List.getElem?_reverse (by omega), List.getD_eq_getElem?_getD, hl, hJ]
  rw [e]
  exact (push_perm z31 h (c28 y)).trans (hp.append_right _)
theorem order_new {b N M n ci : Nat} {v : Value} {h X : List S31} {Ai : Option Addr} {wr : World} (hX : X.length = n) (hM : M = wr.heap.size) (hi : Kd.R k31 31 wr N (fun k => ¬ QS b v k ∧ k < M) (.slice Ai n ci) X) (hc : n ≤ ci) (hn : n ≤ 1000000) (hq : IsQ wr N b v h) :
    Calls Try.prog 8 #[.slice Ai n ci] wr fun e w' => ∃ b2 v2, e = .returned (.pointer (some ⟨b2, 0, none⟩)) ∧ IsQ w' M b2 v2 (X.foldl (push z31 lt31) []) ∧ IsQ w' N b v h ∧ Below M wr w' ∧ Kd.R k31 31 w' N (fun k => ¬ QS b v k ∧ k < M) (.slice Ai n ci) X ∧ M ≤ w'.heap.size := by
  subst hX; subst hM
  refine (new_calls X Ai ci wr (Kd.R_reads' hi).2.2 hc hn).mono ?_
  rintro e w' ⟨b2, v2, rfl, hq2, hb⟩
  exact ⟨b2, v2, rfl, hq2, hq.below hb, hb, Kd.R_below hi hb, hb.size⟩
theorem QS_ge {w : World} {M b2 : Nat} {v2 : Value} {h2 : List S31} (hq : IsQ w M b2 v2 h2) : ∀ k, QS b2 v2 k → M ≤ k := by
  rintro k (hk | hk)
  · rw [hk]; exact hq.base
  · exact Kd.R_base hq.row k hk.symm
theorem order_pop1 {b b2 N M : Nat} {v va vb Vi : Value} {h1 h2 X : List S31} {wx : World} {x : S31} {ok : Bool} (ha : IsQ wx N b va h1) (hN : N ≤ wx.heap.size) (hv : va.ownBlock = v.ownBlock) (hi : Kd.R k31 31 wx N (fun k => ¬ QS b v k ∧ k < M) Vi X) (hb : IsQ wx M b2 vb h2) (hS : ∀ k, QS b v k → k < M) (hx : h1.getD 0 z31 = x) (hok : decide (0 < h1.length) = ok) :
    Calls Try.prog 11 #[.pointer (some ⟨b, 0, none⟩)] wx fun e w' => ∃ v', e = .returned (.tuple #[.agg #[.int .i64 x.f0, .int .u64 x.f1], .bool ok]) ∧ IsQ w' N b v' (popL z31 lt31 h1) ∧ v'.ownBlock = v.ownBlock ∧ IsQ w' M b2 vb h2 ∧ Kd.R k31 31 w' N (fun k => ¬ QS b v k ∧ k < M) Vi X ∧ Below N wx w' := by
  refine (pop_calls N b va h1 wx ha hN).mono ?_
  rintro e w' ⟨v', rfl, hq', hk, hb', hv'⟩
  refine ⟨v', by rw [hx, hok], hq', hv'.trans hv, hb.kept hk ?_, Kd.R_kept hi hk (fun k hk h => hk.1 ((QS_eq hv k).1 h)), hb'⟩
  intro k hk2 h
  have h1 := hS k ((QS_eq hv k).1 h)
  have h2 := QS_ge hb k hk2
  omega
theorem order_pop2 {b b2 N M : Nat} {v va vb Vi : Value} {h1 h2 X : List S31} {w4 wx : World} {x : S31} {ok : Bool} {cs : Array Value} (hw : w4.alloc (.cells cs 31) = wx) (ha : IsQ w4 N b va h1) (hM : M ≤ w4.heap.size) (hv : va.ownBlock = v.ownBlock) (hi : Kd.R k31 31 w4 N (fun k => ¬ QS b v k ∧ k < M) Vi X) (hb : IsQ w4 M b2 vb h2) (hS : ∀ k, QS b v k → k < M) (hx : h2.getD 0 z31 = x) (hok : decide (0 < h2.length) = ok) :
    Calls Try.prog 11 #[.pointer (some ⟨b2, 0, none⟩)] wx fun e w' => ∃ v', e = .returned (.tuple #[.agg #[.int .i64 x.f0, .int .u64 x.f1], .bool ok]) ∧ IsQ w' M b2 v' (popL z31 lt31 h2) ∧ v'.ownBlock = vb.ownBlock ∧ IsQ w' N b va h1 ∧ Kd.R k31 31 w' N (fun k => ¬ QS b v k ∧ k < M) Vi X ∧ w'.heap[w4.heap.size]? = some (.cells cs 31 (0, 0)) ∧ Below M w4 w' := by
  subst hw
  refine (pop_calls M b2 vb h2 _ (hb.alloc _) (Nat.le_trans hM (by simp))).mono ?_
  rintro e w' ⟨v', rfl, hq', hk, hb', hv'⟩
  refine ⟨v', by rw [hx, hok], hq', hv', (ha.alloc _).kept hk ?_, Kd.R_kept (Kd.R_alloc hi _) hk ?_, blk_kept (heap_alloc_new w4 _) hk ?_, ((Below.refl M w4).alloc hM _).trans hb'⟩
  · intro k hk2 h
    have h1 := hS k ((QS_eq hv k).1 hk2)
    have h2 := QS_ge hb k h
    omega
  · intro k hk2 h
    have h2 := QS_ge hb k h
    omega
  · exact QS_new hb rfl (Nat.le_refl _) _ (Nat.le_refl _)
attribute [local go_sem high] eqA31
set_option maxHeartbeats 8000000 in
set_option maxRecDepth 100000 in
theorem order_walk (A : Option Addr) (c : Nat) (l : List S28) (w : World) (hr : Kd.C k28 w A l.length l) (hc : l.length ≤ c) :
    Calls Try.prog 5 #[.slice A l.length c] w fun e w' => e = .returned (.bool true) ∧ Below w.heap.size w w' := by
  have HR := Aside0.mk hr
  have HC := Aside0.mk hc
  have hmx : l.length ≤ 9223372036854775807 := Kd.C_max hr
  clear hr hc
  by_cases hbig : 1000 < l.length
  · have hb1 : decide (1000 < (l.length : Int)) = true := decide_eq_true (by omega)
    go_enter Try.func5, Try.ntmps5
    go_wp2_with (go_at_call 6; refine (awake_calls w).mono ?_; rintro e w1 ⟨rfl, hb⟩)
    go_ret
    exact ⟨rfl, hb⟩
  · have hb1 : decide (1000 < (l.length : Int)) = false := decide_eq_false (by omega)
    obtain ⟨X, hX⟩ : ∃ X, l.map c28 = X := ⟨_, rfl⟩
    have hXl : X.length = l.length := by rw [← hX]; simp
    have HX := Aside0.mk hX
    have HXL := Aside0.mk hXl
    clear hX hXl
    go_enter Try.func5, Try.ntmps5
    go_wp2_with (first
      | (go_at_call 6; refine (awake_calls w).mono ?_; rintro e w1 ⟨rfl, hb⟩; have HB1 := Aside0.mk hb; clear hb)
      | (go_at_call 8; refine (new_calls [] none 0 w1 (Kd.C_nil _ _) (by simp) (by simp)).mono ?_; rintro e w2 ⟨b, v2, rfl, hq, hb⟩; have HQ2 := Aside0.mk hq; have HB2 := Aside0.mk hb; clear hq hb))
    have HSZ := HB1.out.size
    obtain ⟨N, hN⟩ : ∃ N, w1.heap.size = N := ⟨_, rfl⟩
    rw [hN] at HQ2 HB2 HSZ
    have HBN : Aside0 (Below N w1 w2) := HB2
    have HNW : Aside0 (w.heap.size ≤ N) := ⟨HSZ⟩
    have HN2 : Aside0 (N ≤ w2.heap.size) := ⟨by have := HBN.out.size; omega⟩
    have HW2 : Aside0 (Below w.heap.size w w2) := ⟨HB1.out.trans (HBN.out.mono HSZ)⟩
    clear HSZ hN
    go_loopw [3, 5] (fun s3 s5 wr => ∃ (k : Nat) (v : Value) (h : List S31), s5 = .int .i64 k ∧ Aside0 (k ≤ l.length) ∧ Aside0 (Kd.R k31 31 wr N (fun k => ¬ QS b v k) s3 (X.take k)) ∧ Aside0 (IsQ wr N b v h) ∧ Aside0 (Below N w2 wr) ∧ Aside0 (N ≤ wr.heap.size) ∧ Aside0 (Heap z31 lt31 h) ∧ Aside0 (h.Perm (X.reverse.take k))) (fun s3 s5 wr => l.length - (intOf s5).toNat)
    case atStart => exact ⟨0, v2, [], rfl, ⟨by omega⟩, ⟨Kd.R_nil _ _ _ _ _⟩, HQ2, ⟨Below.refl _ _⟩, HN2, ⟨heap_nil z31⟩, ⟨by simp⟩⟩
    case round =>
      obtain ⟨k, v, h, rfl, HK, HI, HQ, HB, HS, HH, HP⟩ := hrel
      obtain ⟨Ai, ci, rfl⟩ := Kd.R_slice HI.out
      have hil : (X.take k).length = k := by have := HK.out; have := HXL.out; rw [List.length_take]; omega
      have hhl : h.length = k := by rw [HP.out.length_eq, List.length_take, List.length_reverse, HXL.out]; have := HK.out; omega
      rw [hil] at HI ⊢
      have HIL := Aside0.mk hil
      have HHL := Aside0.mk hhl
      clear hil hhl
      by_cases hlt : k < l.length
      · obtain ⟨ad, rfl, hx0, hx1⟩ := at_T28 (Kd.C_below HR.out (HW2.out.trans (HB.out.mono HNW.out))) (k : Int) (by omega) (by omega)
        obtain ⟨x, hx⟩ : ∃ x, rd_T28 l (k : Int) = x := ⟨_, rfl⟩
        rw [hx] at hx0 hx1
        simp only [Int.toNat_natCast] at hx0 hx1
        have HXE := Aside0.mk hx
        obtain ⟨J, hJ⟩ : ∃ J : Nat, (l.length : Int) - 1 - (k : Int) = (J : Int) := ⟨l.length - 1 - k, by omega⟩
        have hJl : J < l.length := by omega
        have hJe : J = l.length - 1 - k := by omega
        have HJE := Aside0.mk hJe
        obtain ⟨y, hy⟩ : ∃ y, rd_T28 l (J : Int) = y := ⟨_, rfl⟩
        have HYE := Aside0.mk hy
        have HYC : Aside0 (∀ W, Below w.heap.size w W → W.cell? (ad.add (J * 2)) = some (.int .i64 y.f0) ∧ W.cell? ⟨(ad.add (J * 2)).block, (ad.add (J * 2)).off + 1, none⟩ = some (.int .u64 y.f1)) := by
          refine ⟨fun W hW => ?_⟩
          obtain ⟨_, e1, h0, h1⟩ := at_T28 (Kd.C_below HR.out hW) (J : Int) (by omega) (by omega)
          obtain rfl := Option.some.inj e1
          rw [hy] at h0 h1
          exact ⟨by simpa using h0, by simpa using h1⟩
        have hJn : (J : Int) < (l.length : Int) := by omega
        clear hx hy hJe
        go_wp2_with (first
          | (go_at_call 7; have _t : x = x := rfl; have _g := hx0; refine (forebearlaw02_item.calls x.f0 x.f1 x.f0 x.f1 _ rfl).mono ?_; rintro e w3 ⟨rfl, hb⟩; have HB3 := Aside0.mk (below_then HB.out HS.out hb); have HS3 := Aside0.mk (Nat.le_trans HS.out hb.size); have HI3 := Aside0.mk (Kd.R_below HI.out hb); have HQ3 := Aside0.mk (HQ.out.below hb); clear hb hx0 hx1 _g _t)
          | (at_builtin; refine Kd.R_append k31 (w0 := w2) (W := w3) N rfl (.tmp 24) (.tmp 30) 25 31 (.agg #[(.int .i64 0), (.int .u64 0)]) 16 rfl Try.underlying25 info31 rfl (by decide) (by omega) (.slice Ai k ci) (X.take k) (c28 x) [.int .i64 x.f0, .int .u64 x.f1] (fun k => ¬ QS b v k) (fun _ => False) rfl rfl ?aP (fun _ hk => hk.elim) ?aF ?aO ?aB ?aS ?aL ?_; (case aP => exact k31_mkM _ _ _ (c28 x)); (case aF => exact QS_new HQ3.out rfl (Nat.le_refl _)); (case aO => exact HI3.out); (case aB => exact HB3.out); (case aS => exact HS3.out); (case aL => have := HIL.out; omega); intro v1 w4 ho hb hg hat; have HI4 := Aside0.mk ho; have HB4 := Aside0.mk hb; have HQ4 : Aside0 (IsQ w4 N b v h) := Aside0.mk (order_app (v1 := v1) HQ3.out HI3.out hg); have HS4 := Aside0.mk (Nat.le_trans HS3.out hg.size); obtain ⟨hy0, hy1⟩ := HYC.out w4 (HW2.out.trans (hb.mono HNW.out)); clear ho hb hg hat)
          | (go_at_call 7; refine (forebearlaw02_item.calls y.f0 y.f1 y.f0 y.f1 _ rfl).mono ?_; rintro e w5 ⟨rfl, hb⟩; have HB5 := Aside0.mk (below_then HB4.out HS4.out hb); have HS5 := Aside0.mk (Nat.le_trans HS4.out hb.size); have HI5 := Aside0.mk (Kd.R_below HI4.out hb); have HQ5 := Aside0.mk (HQ4.out.below hb); clear hb)
          | (go_at_call 9; refine (push1_calls (c28 y) HQ5.out HS5.out (by have := HHL.out; omega) HI5.out).mono ?_; rintro e w6 ⟨v6, rfl, hq, hb, hi⟩; have HQ6 := Aside0.mk hq; have HB6 := Aside0.mk (HB5.out.trans hb); have HS6 := Aside0.mk (Nat.le_trans HS5.out hb.size); have HI6 := Aside0.mk hi; clear hq hb hi))
        go_roundw
        case rel => exact ⟨k + 1, v6, push z31 lt31 h (c28 y), by go_num, ⟨by omega⟩, ⟨by rw [take_snoc31 X k (by rw [HXL.out]; exact hlt), ← HX.out, ← rd28 l k hlt, HXE.out, HX.out]; exact HI6.out⟩, HQ6, HB6, HS6, ⟨push_heap T31 z31 HH.out _⟩, ⟨order_push HP.out HX.out hlt HJE.out HYE.out⟩⟩
        case measure => simp [intOf]; omega
      · obtain rfl : k = l.length := by have := HK.out; omega
        have hXt : X.take l.length = X := List.take_of_length_le (by rw [HXL.out]; exact Nat.le_refl _)
        have hRt : X.reverse.take l.length = X.reverse := List.take_of_length_le (by rw [List.length_reverse, HXL.out]; exact Nat.le_refl _)
        rw [hXt] at HI
        have HPX : Aside0 (h.Perm X) := ⟨by have := HP.out; rw [hRt] at this; exact this.trans (List.reverse_perm X)⟩
        obtain ⟨n, hn⟩ : ∃ n, l.length = n := ⟨_, rfl⟩
        have hn6 : n ≤ 1000 := by omega
        have HXN : Aside0 (X.length = n) := ⟨by rw [HXL.out, hn]⟩
        obtain ⟨M, hM⟩ : ∃ M, wr.heap.size = M := ⟨_, rfl⟩
        have HIN : Aside0 (Kd.R k31 31 wr N (fun k => ¬ QS b v k ∧ k < M) (.slice Ai n ci) X) := ⟨by rw [← hn, ← hM]; exact Kd.R_mono (Kd.R_bound HI.out) (fun k hk => ⟨hk.1, hk.2.2.1⟩)⟩
        have hcI : n ≤ ci := by have := (Kd.R_reads' HIN.out).2.1; exact this
        have HME := Aside0.mk hM
        have HNM : Aside0 (N ≤ M) := ⟨by rw [← hM]; exact HS.out⟩
        have HW3 : Aside0 (Below w.heap.size w wr) := ⟨HW2.out.trans (HB.out.mono HNW.out)⟩
        have HSV0 : Aside0 (∀ k, QS b v k → k < M) := by
          refine ⟨?_⟩
          rw [← hM]
          rintro k (hk | hk)
          · rw [hk]; exact blk_lt HQ.out.blk
          · exact Kd.R_lt HQ.out.row k hk.symm
        clear hXt hRt HI HIL hlt HHL HP hM
        rw [hn] at hmx hb1 ⊢
        have HNL := Aside0.mk hn
        clear hn
        go_wp2_with (go_at_call 8; refine (order_new (M := M) HXN.out (by rw [HME.out]) HIN.out hcI (by omega) HQ.out).mono ?_; rintro e w3 ⟨b2, v2, rfl, hq2, hq, hb, hi, hh⟩; have HQ3 := Aside0.mk hq; have HR3 := Aside0.mk hq2; have HB3 := Aside0.mk hb; have HI3 := Aside0.mk hi; have HM3 := Aside0.mk hh; clear hq hq2 hb hi hh)
        have HW4 : Aside0 (Below w.heap.size w w3) := ⟨HW3.out.trans (HB3.out.mono (Nat.le_trans HNW.out HNM.out))⟩
        go_loopw [7] (fun s7 wx => ∃ (k : Nat) (va vb : Value) (h1 h2 : List S31), s7 = .int .i64 k ∧ Aside0 (k ≤ n + 1) ∧ Aside0 (Kd.R k31 31 wx N (fun k => ¬ QS b v k ∧ k < M) (.slice Ai n ci) X) ∧ Aside0 (IsQ wx N b va h1) ∧ Aside0 (va.ownBlock = v.ownBlock) ∧ Aside0 (IsQ wx M b2 vb h2) ∧ Aside0 (vb.ownBlock = v2.ownBlock) ∧ Aside0 (Below N w3 wx) ∧ Aside0 (M ≤ wx.heap.size) ∧ Aside0 (Heap z31 lt31 h1) ∧ Aside0 (Heap z31 lt31 h2) ∧ Aside0 (h1.Perm h2) ∧ Aside0 (h1.length = n - k)) (fun s7 wx => n + 1 - (intOf s7).toNat)
        case atStart => exact ⟨0, v, v2, h, _, rfl, ⟨by omega⟩, HI3, HQ3, ⟨rfl⟩, HR3, ⟨rfl⟩, ⟨Below.refl _ _⟩, HM3, HH, ⟨fold_heap T31 z31 X [] (heap_nil z31)⟩, ⟨HPX.out.trans (by simpa using (fold_perm (lt := lt31) z31 X []).symm)⟩, ⟨by rw [HPX.out.length_eq, HXN.out]; rfl⟩⟩
        case round =>
          obtain ⟨k, va, vb, h1, h2, rfl, HK, HI, HA, HVA, HBq, HVB, HBx, HS, HH1, HH2, HP, HLN⟩ := hrel
          by_cases hkn : k ≤ n
          · have hc1 : decide ((k : Int) ≤ (n : Int)) = true := decide_eq_true (by omega)
            obtain ⟨x, hx⟩ : ∃ x, h1.getD 0 z31 = x := ⟨_, rfl⟩
            obtain ⟨ok, hok⟩ : ∃ ok, decide (0 < h1.length) = ok := ⟨_, rfl⟩
            have HXE := Aside0.mk hx
            have HXE2 : Aside0 (h2.getD 0 z31 = x) := ⟨by rw [← first_unique T31 z31 HH1.out HH2.out HP.out]; exact hx⟩
            have HOK := Aside0.mk hok
            have HOK2 : Aside0 (decide (0 < h2.length) = ok) := ⟨by rw [← HP.out.length_eq]; exact hok⟩
            have HL2 : Aside0 ((popL z31 lt31 h1).length = n - (k + 1)) := ⟨by rw [pop_len, HLN.out]; omega⟩
            clear hx hok
            have HSV : Aside0 (∀ k, QS b v k → k < M) := HSV0
            have tok1 : True := trivial
            go_upto_region 18 with (first
              | (go_at_call 11; have _t := tok1; clear _t; refine (order_pop1 HA.out (Nat.le_trans HNM.out HS.out) HVA.out HI.out HBq.out HSV.out HXE.out HOK.out).mono ?_; rintro e w4 ⟨v4, rfl, ha, hv, hb, hi, hl⟩; have HA4 := Aside0.mk ha; have HV4 := Aside0.mk hv; have HQ4 := Aside0.mk hb; have HI4 := Aside0.mk hi; have HB4 := Aside0.mk hl; clear ha hv hb hi hl tok1; obtain ⟨wa, hwa⟩ : ∃ wa, w4.alloc (.cells #[.int .i64 x.f0, .int .u64 x.f1] 31) = wa := ⟨_, rfl⟩; have HWA := Aside0.mk hwa; obtain ⟨ha8, hha8⟩ : ∃ ha8, w4.heap.size = ha8 := ⟨_, rfl⟩; have HH8 := Aside0.mk hha8)
              | (go_at_call 11; refine (order_pop2 HWA.out HA4.out (Nat.le_trans HS.out HB4.out.size) HV4.out HI4.out HQ4.out HSV.out HXE2.out HOK2.out).mono ?_; rintro e w5 ⟨v5, rfl, ha, hv, hb, hi, hc, hl⟩; rw [HH8.out] at hc; have HA5 := Aside0.mk hb; have HV5 := Aside0.mk (hv.trans HVB.out); have HQ5 := Aside0.mk ha; have HI5 := Aside0.mk hi; have HB5 := Aside0.mk (HB4.out.trans (hl.mono HNM.out)); have HS5 := Aside0.mk (Nat.le_trans (Nat.le_trans HS.out HB4.out.size) hl.size); have hc8 : ∀ o, (w5.alloc o).cell? ⟨ha8, 0, none⟩ = some (.int .i64 x.f0) := (fun o => (blk_cell (blk_alloc hc o) 0).trans rfl); have hc9 : ∀ o, (w5.alloc o).cell? ⟨ha8, 1, none⟩ = some (.int .u64 x.f1) := (fun o => (blk_cell (blk_alloc hc o) 1).trans rfl); clear ha hv hb hi hl hc))
            have hbn : (ok != ok) = false := by cases ok <;> rfl
            have HI6 : Aside0 (∀ o, Kd.R k31 31 (w5.alloc o) N (fun k => ¬ QS b v k ∧ k < M) (.slice Ai n ci) X) := ⟨fun o => Kd.R_alloc HI5.out o⟩
            have HW6 : Aside0 (∀ o, Below w.heap.size w (w5.alloc o)) := ⟨fun o => (HW4.out.trans ((HBx.out.trans HB5.out).mono HNW.out)).alloc (Nat.le_trans HNW.out (Nat.le_trans HNM.out HS5.out)) o⟩
            go_upto_region 20 with (fail)
            obtain ⟨w6, hw6⟩ : ∃ w6, w5.alloc (.cells #[.int .i64 x.f0, .int .u64 x.f1] 31) = w6 := ⟨_, rfl⟩
            have HW6E := Aside0.mk hw6
            rw [hw6]
            have HI7 : Aside0 (Kd.R k31 31 w6 N (fun k => ¬ QS b v k ∧ k < M) (.slice Ai n ci) X) := ⟨by rw [← hw6]; exact Kd.R_alloc HI5.out _⟩
            have HW7 : Aside0 (Below w.heap.size w w6) := ⟨by rw [← hw6]; exact HW6.out _⟩
            have HA7 : Aside0 (IsQ w6 N b v4 (popL z31 lt31 h1)) := ⟨by rw [← hw6]; exact HA5.out.alloc _⟩
            have HQ7 : Aside0 (IsQ w6 M b2 v5 (popL z31 lt31 h2)) := ⟨by rw [← hw6]; exact HQ5.out.alloc _⟩
            have HS7 : Aside0 (M ≤ w6.heap.size) := ⟨by rw [← hw6]; exact Nat.le_trans HS5.out (by simp)⟩
            have HB7 : Aside0 (Below N w3 w6) := ⟨by rw [← hw6]; exact (HBx.out.trans HB5.out).alloc (Nat.le_trans HNM.out HS5.out) _⟩
            clear hw6 hc8 hc9 hbn HI6 HW6
            go_cut [85] (fun s85 wx => s85 = .bool false ∧ Aside0 (Below w6.heap.size w6 wx))
            case first =>
              by_cases hlt : k < n
              · have hcl : decide ((k : Int) < (n : Int)) = true := decide_eq_true (by omega)
                have hk00 : 0 ≤ (k : Int) := by omega
                have hkn' : (k : Int) < (n : Int) := by omega
                have hCl := Kd.C_below HR.out HW7.out
                rw [HNL.out] at hCl
                obtain ⟨ad, rfl, hy0, hy1⟩ := at_T28 hCl (k : Int) (by omega) (by omega)
                have hCi := (Kd.R_reads' HI7.out).2.2
                rw [HXN.out] at hCi
                obtain ⟨ai, rfl, hi0, hi1⟩ := at_T31 hCi (k : Int) (by omega) (by omega)
                obtain ⟨y, hy⟩ : ∃ y, rd_T28 l (k : Int) = y := ⟨_, rfl⟩
                have hxy : rd_T31 X (k : Int) = c28 y := by rw [rd31, ← HX.out, ← rd28 l k (by rw [HNL.out]; exact hlt), hy]
                rw [hy] at hy0 hy1
                rw [hxy] at hi0 hi1
                simp only [Int.toNat_natCast] at hy0 hy1 hi0 hi1
                have hi0' : w6.cell? (ai.add (k * 2)) = some (.int .i64 y.f0) := hi0
                have hi1' : w6.cell? ⟨(ai.add (k * 2)).block, (ai.add (k * 2)).off + 1, none⟩ = some (.int .u64 y.f1) := hi1
                clear hi0 hi1 hxy hy hCl hCi
                go_region_held3 (fun w' => Below w6.heap.size w6 w' ∧ w'.cell? (ai.add (k * 2)) = some (.int .i64 y.f0) ∧ w'.cell? ⟨(ai.add (k * 2)).block, (ai.add (k * 2)).off + 1, none⟩ = some (.int .u64 y.f1) ∧ w'.cell? (ad.add (k * 2)) = some (.int .i64 y.f0) ∧ w'.cell? ⟨(ad.add (k * 2)).block, (ad.add (k * 2)).off + 1, none⟩ = some (.int .u64 y.f1))
                  (first | exact ⟨below_drew (Below.refl _ _), hi0', hi1', hy0, hy1⟩ | exact ⟨⟨hb.os, hb.tape, hb.output, hb.size, hb.block⟩, pw_cell_below hb hi0', pw_cell_below hb hi1', pw_cell_below hb hy0, pw_cell_below hb hy1⟩ | go_keep)
                  (first | (go_at_call 7; refine (forebearlaw02_item.calls y.f0 y.f1 y.f0 y.f1 _ rfl).mono ?_; rintro e w7 ⟨rfl, hb⟩))
                all_goals
                  rename_i hheld
                  have HBB := Aside0.mk hheld.1
                  clear hheld
                  go_wp2
                  go_meet
                  case rel => exact ⟨rfl, HBB⟩
              · have hcl : decide ((k : Int) < (n : Int)) = false := decide_eq_false (by omega)
                go_quiet (fail)
                go_wp2
                go_meet
                case rel => exact ⟨rfl, ⟨pw_below_drewN (Below.refl _ _) _⟩⟩
            case rest =>
              obtain ⟨rfl, HBB⟩ := hcut
              go_wp2
              go_roundw
              case rel => exact ⟨k + 1, v4, v5, popL z31 lt31 h1, popL z31 lt31 h2, by go_num, ⟨by omega⟩, ⟨Kd.R_below HI7.out HBB.out⟩, ⟨HA7.out.below HBB.out⟩, HV4, ⟨HQ7.out.below HBB.out⟩, HV5, ⟨below_then HB7.out (Nat.le_trans HNM.out HS7.out) HBB.out⟩, ⟨Nat.le_trans HS7.out HBB.out.size⟩, ⟨pop_heap2 T31 z31 HH1.out⟩, ⟨pop_heap2 T31 z31 HH2.out⟩, ⟨pop_perm2 T31 z31 HH1.out HH2.out HP.out⟩, HL2⟩
              case measure => simp [intOf]; omega
          · obtain rfl : k = n + 1 := by have := HK.out; omega
            have e1 : h1.length = 0 := by have := HLN.out; omega
            have e2 : h2.length = 0 := by have := HP.out.length_eq; omega
            have E1 := Aside0.mk e1
            have E2 := Aside0.mk e2
            have HWf : Aside0 (Below w.heap.size w wr) := ⟨HW4.out.trans (HBx.out.mono HNW.out)⟩
            have hc1 : decide (((n + 1 : Nat) : Int) ≤ (n : Int)) = false := decide_eq_false (by omega)
            have tok1 : True := trivial
            clear e1 e2
            go_wp2_with (first
              | (go_at_call 14; have _t := tok1; clear _t tok1; refine (len_calls _ _ _ _ _ HA.out).mono ?_; rintro e w7 ⟨rfl, rfl⟩; rw [E1.out])
              | (go_at_call 14; refine (len_calls _ _ _ _ _ HBq.out).mono ?_; rintro e w7 ⟨rfl, rfl⟩; rw [E2.out]))
            go_ret
            exact ⟨rfl, HWf.out⟩
theorem order_walk2 (W : World) (A : Option Addr) (c : Nat) (l : List S28) (_ : l.length * 16 ≤ 140737488351232 ∧ l.length ≤ 9223372036854775807 ∧ ∀ y ∈ l, gS28 y) (hr : Kd.C k28 W A l.length l) (hc : l.length ≤ c) :
    Calls Try.prog 5 #[.slice A l.length c] W fun e w' => e = .returned (.bool true) ∧ Below W.heap.size W w' := order_walk A c l W hr hc
end Go.Proofs.Ytpobioiagafpgaa.PQueuePlays

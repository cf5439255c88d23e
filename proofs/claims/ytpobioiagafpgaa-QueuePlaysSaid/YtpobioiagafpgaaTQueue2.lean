/- The queue's other calls, and the law's own order, walked by hand. No condition. -/
import Derived.Test.YtpobioiagafpgaaTQueue
set_option linter.unusedVariables false
set_option linter.unusedSimpArgs false
namespace Go.Proofs.Ytpobioiagafpgaa.PQueuePlays
open Go.RowKit Go.Proofs.YtpobioiagafpgaaW.PrintWords Go.Proofs.YtpobioiagafpgaaW.PrintLast Go.Proofs.YtpobioiagafpgaaW.PrintMore
open Go.Proofs.Ytpobioiagafpgaa.Pure
theorem heap31 : Kd.Heap k31 := Kd.heap_iso _ (Kd.heap_pair (Kd.heap_int _) (Kd.heap_int _))
theorem new_calls (l : List S31) (A : Option Addr) (c : Nat) (w : World) (hr : Kd.C k31 w A l.length l) (hc : l.length ≤ c) (hl : l.length ≤ 1000000) :
    Calls Try.prog 8 #[.slice A l.length c] w fun e w' => ∃ (b : Nat) (v : Value), e = .returned (.pointer (some ⟨b, 0, none⟩)) ∧ IsQ w' w.heap.size b v (l.foldl (push z31 lt31) []) ∧ Below w.heap.size w w' := by
  have HR := Aside0.mk hr
  obtain ⟨w1, hw1⟩ : ∃ w1, w.alloc (.cells #[.slice none 0 0] 46) = w1 := ⟨_, rfl⟩
  have HB1 : Aside0 (Below w.heap.size w w1) := ⟨by rw [← hw1]; exact below_alloc (Below.refl _ _) _⟩
  have HQ1 : Aside0 (IsQ w1 w.heap.size w.heap.size (.slice none 0 0) []) := ⟨⟨by rw [← hw1]; exact heap_alloc_new w _, Nat.le_refl _, Kd.R_nil _ _ _ _ _, by simp⟩⟩
  have HK1 : Aside0 (∀ W', Kept w1 W' (QS w.heap.size (.slice none 0 0)) → Kd.C k31 W' A l.length l) := ⟨Kd.C_kept_came heap31 hr HB1.out (fun k hk => by
    rcases hk with hk | hk
    · omega
    · cases hk)⟩
  clear hr
  go_enter Try.func8, Try.ntmps8
  go_wp2_with (go_at_call 9; refine (push_calls w.heap.size w.heap.size (.slice none 0 0) [] A c l w1 HQ1.out HB1.out.size HK1.out hc (by simpa using hl)).mono ?_; rintro e w2 ⟨v', rfl, hq, hk, hb, _⟩; have HQ2 := Aside0.mk hq; have HB2 := Aside0.mk (HB1.out.trans hb); clear hq hb hk)
  go_ret
  exact ⟨_, v', rfl, HQ2.out, HB2.out⟩
theorem len_calls (B b : Nat) (v : Value) (l : List S31) (w : World) (hq : IsQ w B b v l) :
    Calls Try.prog 14 #[.pointer (some ⟨b, 0, none⟩)] w fun e w' => e = .returned (.int .i64 l.length) ∧ w' = w := by
  obtain ⟨A, c, rfl⟩ := Kd.R_slice hq.row
  have hb0 : w.cell? ⟨b, 0, none⟩ = some (.slice A l.length c) := (blk_cell hq.blk 0).trans rfl
  have HQ := Aside0.mk hq
  clear hq
  go_enter Try.func14, Try.ntmps14
  go_wp2
  go_ret
  exact ⟨rfl, rfl⟩
set_option maxHeartbeats 2000000 in
theorem peek_calls (B b : Nat) (v : Value) (l : List S31) (w : World) (hq : IsQ w B b v l) :
    Calls Try.prog 13 #[.pointer (some ⟨b, 0, none⟩)] w fun e w' => e = .returned (.tuple #[.agg #[.int .i64 (l.getD 0 z31).f0, .int .u64 (l.getD 0 z31).f1], .bool (decide (0 < l.length))]) ∧ Below w.heap.size w w' := by
  have HQ := Aside0.mk hq
  clear hq
  rcases l with _ | ⟨f, l'⟩
  · obtain ⟨A, c, rfl⟩ := Kd.R_slice HQ.out.row
    have hb0 : ∀ cs, (w.alloc (.cells cs 31)).cell? ⟨b, 0, none⟩ = some (.slice A 0 c) := fun cs => (blk_cell (HQ.out.alloc _).blk 0).trans rfl
    go_enter Try.func13, Try.ntmps13
    go_wp2
    exact bodyPost_ret (v := .tuple #[.agg #[.int .i64 0, .int .u64 0], .bool false]) (by simp [results, Try.results13, go_sem]) rfl ⟨rfl, below_alloc (Below.refl _ _) _⟩
  · obtain ⟨l, hl⟩ : ∃ l, f :: l' = l := ⟨_, rfl⟩
    have hf : l.getD 0 z31 = f := by rw [← hl]; rfl
    have hln : l.length = l'.length + 1 := by rw [← hl]; rfl
    rw [hl] at HQ ⊢
    rw [hf]
    obtain ⟨g, c1, rfl, hgB, hgl, _⟩ := Kd.R_form HQ.out.row (by omega)
    obtain ⟨m, hm⟩ : ∃ m, l'.length = m := ⟨_, rfl⟩
    rw [hm] at hln
    rw [hln] at HQ ⊢
    have hb0 : ∀ cs, (w.alloc (.cells cs 31)).cell? ⟨b, 0, none⟩ = some (.slice (some ⟨g, 0, none⟩) (m + 1) c1) := fun cs => (blk_cell (HQ.out.alloc _).blk 0).trans rfl
    have ha0 : ∀ cs, (w.alloc (.cells cs 31)).cell? ⟨g, 0, none⟩ = some (.int .i64 f.f0) := fun cs => by have := (q_at (HQ.out.alloc (.cells cs 31)).row 0 (by omega)).1; rw [hf] at this; simpa using this
    have ha1 : ∀ cs, (w.alloc (.cells cs 31)).cell? ⟨g, 1, none⟩ = some (.int .u64 f.f1) := fun cs => by have := (q_at (HQ.out.alloc (.cells cs 31)).row 0 (by omega)).2.1; rw [hf] at this; simpa using this
    have hm6 : m < 1000000 := by have := HQ.out.len; omega
    clear hf hl hln hm hgB hgl
    go_enter Try.func13, Try.ntmps13
    go_wp2
    have hres : decide (0 < m + 1) = true := by simp
    rw [hres]
    exact bodyPost_ret (v := .tuple #[.agg #[.int .i64 f.f0, .int .u64 f.f1], .bool true]) (by simp [results, Try.results13, go_sem]) rfl ⟨rfl, below_alloc (Below.refl _ _) _⟩
def cells31 (xs : List S31) : List Value := xs.flatMap fun x => [.int .i64 x.f0, .int .u64 x.f1]
theorem reps31 {R : S31 → List Value → Prop} (hR : ∀ x, R x [.int .i64 x.f0, .int .u64 x.f1]) : ∀ (xs ps : List S31) (cs : List Value), Reps R 2 ps cs → Reps R 2 (ps ++ xs) (cs ++ cells31 xs)
  | [], ps, cs, h => by simpa [cells31] using h
  | x :: xs, ps, cs, h => by
    have := reps31 hR xs (ps ++ [x]) (cs ++ [.int .i64 x.f0, .int .u64 x.f1]) (h.snoc (hR x) rfl)
    simpa [cells31, List.append_assoc] using this
theorem lit31 (W : World) (xs : List S31) (hm : xs.length ≤ 9223372036854775807) : Kd.R k31 31 (W.alloc (.cells (cells31 xs).toArray 31)) W.heap.size (fun _ => True) (.slice (some ⟨W.heap.size, 0, none⟩) xs.length xs.length) xs := by
  refine ⟨fun _ _ => trivial, ?_⟩
  have hr := reps31 (R := k31.M (W.alloc (.cells (cells31 xs).toArray 31)) W.heap.size (fun k => True ∧ some k ≠ (Value.slice (some ⟨W.heap.size, 0, none⟩) xs.length xs.length).ownBlock)) (fun x => k31_mkM _ _ _ x) xs [] [] (Reps.none _ _)
  rw [List.nil_append, List.nil_append] at hr
  exact OwnRow.lit W W.heap.size hr (Nat.le_refl _) hm
def L3 : List S31 := [⟨1, 7⟩, ⟨5, 9⟩, ⟨5, 8⟩]
theorem L3_push : L3.foldl (push z31 lt31) [] = [⟨5, 8⟩, ⟨1, 7⟩, ⟨5, 9⟩] := rfl
theorem L3_pop : popL z31 lt31 [⟨5, 8⟩, ⟨1, 7⟩, ⟨5, 9⟩] = [⟨5, 9⟩, ⟨1, 7⟩] := rfl
set_option maxHeartbeats 2000000 in
theorem awake_calls (w : World) : Calls Try.prog 6 #[] w fun e w' => e = .returned (.bool true) ∧ Below w.heap.size w w' := by
  obtain ⟨w1, hw1⟩ : ∃ w1, w.alloc (.cells #[.int .i64 1, .int .u64 7, .int .i64 5, .int .u64 9, .int .i64 5, .int .u64 8] 31) = w1 := ⟨_, rfl⟩
  have HB1 : Aside0 (Below w.heap.size w w1) := ⟨by rw [← hw1]; exact below_alloc (Below.refl _ _) _⟩
  have HC1 : Aside0 (Kd.C k31 w1 (some ⟨w.heap.size, 0, none⟩) L3.length L3) := ⟨by rw [← hw1]; exact (Kd.R_reads' (lit31 w L3 (by decide))).2.2⟩
  go_enter Try.func6, Try.ntmps6
  go_wp2_with (first
    | (go_at_call 8; refine (new_calls L3 (some ⟨w.heap.size, 0, none⟩) 3 w1 HC1.out (by decide) (by decide)).mono ?_; rintro e w2 ⟨b, v', rfl, hq, hb⟩; rw [L3_push] at hq; have HQ2 := Aside0.mk hq; have HB2 := Aside0.mk (HB1.out.trans (hb.mono HB1.out.size)); have HS2 := Aside0.mk (show w1.heap.size ≤ w2.heap.size from hb.size); clear hq hb)
    | (go_at_call 11; refine (pop_calls _ b v' _ w2 HQ2.out HS2.out).mono ?_; rintro e w3 ⟨v3, rfl, hq, hk, hb, hv⟩; rw [L3_pop] at hq; have HQ3 := Aside0.mk hq; have HB3 := Aside0.mk (HB2.out.trans (hb.mono HB1.out.size)); clear hq hk hb hv)
    | (go_at_call 13; refine (peek_calls _ b v3 _ _ (HQ3.out.alloc _)).mono ?_; rintro e w4 ⟨rfl, hb⟩; have HQ4 := Aside0.mk ((HQ3.out.alloc _).below hb); have HB4 := Aside0.mk (below_then (below_alloc HB3.out _) (below_size (below_alloc HB3.out _)) hb); have hc8 : ∀ o, (w4.alloc o).cell? ⟨w3.heap.size, 1, none⟩ = some (.int .u64 8) := (fun o => (blk_cell (blk_alloc ((hb.block _ (by simp)).trans (heap_alloc_new w3 _)) o) 1).trans rfl); clear hb)
    | (go_at_call 14; refine (len_calls _ b v3 _ _ (HQ4.out.alloc _)).mono ?_; rintro e w5 ⟨rfl, rfl⟩)
    )
  go_ret
  exact ⟨rfl, below_alloc HB4.out _⟩
end Go.Proofs.Ytpobioiagafpgaa.PQueuePlays

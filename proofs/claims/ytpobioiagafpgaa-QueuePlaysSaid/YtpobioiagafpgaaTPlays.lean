/- The law QueuePlays, walked by hand. No condition. -/
import Derived.Test.YtpobioiagafpgaaTSorts
import Derived.Test.YtpobioiagafpgaaTFirst
set_option linter.unusedVariables false
set_option linter.unusedSimpArgs false
namespace Go.Proofs.Ytpobioiagafpgaa.PQueuePlays
open Go.RowKit Go.Proofs.YtpobioiagafpgaaW.PrintWords Go.Proofs.YtpobioiagafpgaaW.PrintLast Go.Proofs.YtpobioiagafpgaaW.PrintMore
open Go.Proofs.Ytpobioiagafpgaa.Pure Go.Proofs.Ytpobioiagafpgaa.Opening
structure S36 where
  f0 : Int
  f1 : List S28
def z36 : S36 := ⟨0, []⟩
def k36 : Kd S36 := Kd.iso (Kd.pair (Kd.int .i64) (Kd.slice 28 k28)) (fun x : S36 => (x.f0, x.f1))
theorem k36_open {w : World} {x : S36} {cs : List Value} (h : k36.K w x cs) : ∃ A1 c1, cs = [.int .i64 x.f0, .slice A1 x.f1.length c1] ∧ x.f1.length ≤ c1 ∧ k28.C w A1 x.f1.length x.f1 := by
  obtain ⟨_, _, rfl, rfl, ⟨A1, c1, rfl, l1, g1⟩⟩ := h
  exact ⟨A1, c1, rfl, l1, g1⟩
def rd_T36 (xs : List S36) (i : Int) : S36 := xs.getD i.toNat z36
theorem at_T36 {w : World} {A : Option Addr} {n : Nat} {xs : List S36} (h : Kd.C k36 w A n xs) (i : Int) (h0 : 0 ≤ i) (h1 : i < n) : ∃ ad A1 c1, A = some ad ∧ w.cell? (ad.add (i.toNat * 2)) = some (.int .i64 (rd_T36 xs i).f0) ∧ w.cell? ⟨(ad.add (i.toNat * 2)).block, (ad.add (i.toNat * 2)).off + 1, none⟩ = some (.slice A1 (rd_T36 xs i).f1.length c1) ∧ (rd_T36 xs i).f1.length ≤ c1 ∧ k28.C w A1 (rd_T36 xs i).f1.length (rd_T36 xs i).f1 := by
  obtain ⟨ad, c, e, _, hK, hc0⟩ := Kd.C_get h z36 i h0 h1
  have hc : ∀ j u, c[j]? = some u → w.cell? (ad.add (i.toNat * 2 + j)) = some u := hc0
  obtain ⟨A1, c1, rfl, l1, g1⟩ := k36_open hK
  exact ⟨ad, A1, c1, e, hc 0 _ rfl, by rw [← add_field _ _ 1 (by omega)]; exact hc 1 _ rfl, l1, g1⟩
def gS36 (x : S36) : Prop := ((Lit.int .i64 x.f0).wf = true) ∧ (x.f1.length * 16 ≤ 140737488351232 ∧ x.f1.length ≤ 9223372036854775807 ∧ ∀ y ∈ x.f1, gS28 y)
theorem oS36 : Opn Try.prog 36 k36 gS36 := opn_struct (fun x : S36 => (x.f0, x.f1)) (fun p => ⟨p.1, p.2⟩) (fun _ => rfl) Try.underlying36 (by kernel_rfl) (opnF_cons rfl (by kernel_rfl) (opn_int Try.underlying3) (opnF_one rfl (by kernel_rfl) (opn_slice (B := 16) Try.underlying22 (by kernel_rfl) (by kernel_rfl) oS28)))
theorem push1k {N b : Nat} {v : Value} {h : List S31} {W : World} (x : S31) (hq : IsQ W N b v h) (hN : N ≤ W.heap.size) (hl : h.length < 1000000) :
    Calls Try.prog 9 #[.pointer (some ⟨b, 0, none⟩), .slice (some ⟨W.heap.size, 0, none⟩) 1 1] (W.alloc (.cells #[.int .i64 x.f0, .int .u64 x.f1] 31)) fun e w' => ∃ v', e = .returned (.tuple #[]) ∧ IsQ w' N b v' (push z31 lt31 h x) ∧ Kept W w' (QS b v) ∧ Below N W w' := by
  have hr := lit31 W [x] (by simp)
  have hS : ∀ k, W.heap.size ≤ k → ¬ QS b v k := QS_new hq rfl (Nat.le_refl _)
  have hr2 : Kd.R k31 31 (W.alloc (.cells #[.int .i64 x.f0, .int .u64 x.f1] 31)) W.heap.size (fun k => W.heap.size ≤ k) (.slice (some ⟨W.heap.size, 0, none⟩) 1 1) [x] := Kd.R_mono (Kd.R_bound hr) (fun k hk => hk.2.1)
  refine (push_calls N b v h (some ⟨W.heap.size, 0, none⟩) 1 [x] _ (hq.alloc _) (Nat.le_trans hN (by simp)) (Kd.C_kept_own hr2 hS) (Nat.le_refl _) (by simp; omega)).mono ?_
  rintro e w' ⟨v', rfl, hq', hk, hb, hv⟩
  exact ⟨v', rfl, hq', ((Kept.refl W _).alloc _).then_ hk (fun k hk => .inl hk), ((Below.refl N W).alloc hN _).trans hb⟩
/-- The document's list and the queue have no block in common. -/
theorem l_apart {W : World} {B B2 b : Nat} {ok : Nat → Prop} {v vl : Value} {h : List S31} {l : List S28} (hl : Kd.R k28 28 W B ok vl l) (hq : IsQ W B2 b v h) : Kd.R k28 28 W B (fun k => ok k ∧ ¬ QS b v k) vl l := by
  refine Kd.R_mono (Kd.R_bound hl) ?_
  rintro k ⟨hok, _, _, q, hq1, cells, hc⟩
  have hq28 : q = 28 := by
    rcases List.mem_cons.1 hq1 with e | e
    · exact e
    · exact absurd e (by simp [k28, Kd.iso, Kd.pair, Kd.int, Kd.scalar])
  subst hq28
  refine ⟨hok, ?_⟩
  rintro (e | e)
  · exact blk_ne hc hq.blk (by decide) e
  · obtain ⟨cells', hc'⟩ := Kd.R_typed hq.row k e.symm
    rw [hc] at hc'
    injection hc' with hc'
    injection hc' with _ hc'
    cases hc'
theorem l_kept {W W' : World} {B B2 b : Nat} {ok : Nat → Prop} {v vl : Value} {h : List S31} {l : List S28} (hl : Kd.R k28 28 W B ok vl l) (hq : IsQ W B2 b v h) (hk : Kept W W' (QS b v)) : Kd.R k28 28 W' B ok vl l :=
  Kd.R_mono (Kd.R_kept (l_apart hl hq) hk (fun k hk => hk.2)) (fun _ hk => hk.1)
theorem q_grown {W W' : World} {B B2 b : Nat} {ok : Nat → Prop} {v vl : Value} {h : List S31} {l : List S28} (hl : Kd.R k28 28 W B ok vl l) (hq : IsQ W B2 b v h) (hg : W.grownBy W' vl.ownBlock) : IsQ W' B2 b v h :=
  hq.kept (S := fun k => some k = vl.ownBlock) ⟨hg.size, fun i hi hn => hg.block i hi hn⟩ (fun k hk e => ((l_apart hl hq).1 k e.symm).2 hk)
theorem IsQ.lower {w : World} {B B2 b : Nat} {v : Value} {l : List S31} (h : IsQ w B b v l) (hB : B2 ≤ B) : IsQ w B2 b v l := ⟨h.blk, Nat.le_trans hB h.base, Kd.R_lower h.row hB, h.len⟩
theorem l_over {W W' : World} {B : Nat} {v v' : Value} {x : List S31} {l : List S28} (hl : Kd.R k28 28 W B (fun _ => True) v l) (hx : Kd.R k31 31 W B (fun _ => True) v' x) (hg : W.grownBy W' v'.ownBlock) : Kd.R k28 28 W' B (fun _ => True) v l := Kd.R_over hl hx (by simp [k28, Kd.iso, Kd.pair, Kd.int, Kd.scalar]) hg
theorem x_over {W W' : World} {B : Nat} {v v' : Value} {x : List S31} {l : List S28} (hx : Kd.R k31 31 W B (fun _ => True) v' x) (hl : Kd.R k28 28 W B (fun _ => True) v l) (hg : W.grownBy W' v.ownBlock) : Kd.R k31 31 W' B (fun _ => True) v' x := Kd.R_over hx hl (by simp [k31, Kd.iso, Kd.pair, Kd.int, Kd.scalar]) hg
theorem take_snoc28 (l : List S28) (k : Nat) (hk : k < l.length) {x : S28} (hx : rd_T28 l (k : Int) = x) : l.take (k + 1) = l.take k ++ [x] := by
  rw [List.take_succ_eq_append_getElem hk, ← hx]; simp [rd_T28, hk]
theorem IsQ.drewN {w : World} {B b : Nat} {v : Value} {l : List S31} (h : IsQ w B b v l) (n : Nat) : IsQ (w.drewN n) B b v l := h.below (pw_below_drewN (Below.refl _ _) n)
theorem plays_new {N n ci : Nat} {vl : Value} {X : List S31} {ls : List S28} {Ai : Option Addr} {wr : World} (hX : X.length = n) (hi : Kd.R k31 31 wr N (fun _ => True) (.slice Ai n ci) X) (hc : n ≤ ci) (hn : n ≤ 1000000) (hN : N ≤ wr.heap.size) (hl : Kd.R k28 28 wr N (fun _ => True) vl ls) :
    Calls Try.prog 8 #[.slice Ai n ci] wr fun e w' => ∃ b v, e = .returned (.pointer (some ⟨b, 0, none⟩)) ∧ IsQ w' N b v (X.foldl (push z31 lt31) []) ∧ Below N wr w' ∧ Kd.R k28 28 w' N (fun _ => True) vl ls := by
  subst hX
  refine (new_calls X Ai ci wr (Kd.R_reads' hi).2.2 hc hn).mono ?_
  rintro e w' ⟨b2, v2, rfl, hq2, hb⟩
  exact ⟨b2, v2, rfl, hq2.lower hN, hb.mono hN, Kd.R_below hl hb⟩
theorem hB_cell {N : Nat} {w wr W : World} {a : Addr} {v : Value} (hW : Below N w W) (hc : wr.cell? a = some v) (hlt : a.block < w.heap.size) (hB : Below N w wr) (hN : w.heap.size = N) : W.cell? a = some v := by
  subst hN
  have h1 : wr.cell? a = w.cell? a := hB.cell hlt
  exact (hW.cell hlt).trans (h1.symm.trans hc)
theorem plays_first {N m cl kf : Nat} {r : Int} {Al : Option Addr} {ls : List S28} {wr : World} (hl : Kd.R k28 28 wr N (fun _ => True) (.slice Al m cl) ls) (hm : ls.length = m) (hf : forebearref02_First.f kf ls = some r) :
    Calls Try.prog 10 #[.slice Al m cl] wr fun e w' => e = .returned (.int .i64 r) ∧ Below wr.heap.size wr w' := by
  subst hm
  obtain ⟨_, h2, h3⟩ := Kd.R_reads' hl
  exact forebearref02_First.calls kf Al cl ls r wr h3 h2 hf
theorem plays_pop {N m cl b : Nat} {Al : Option Addr} {ls : List S28} {v : Value} {h : List S31} {wr : World} {x : S31} {ok : Bool} (hl : Kd.R k28 28 wr N (fun _ => True) (.slice Al m cl) ls) (hq : IsQ wr N b v h) (hN : N ≤ wr.heap.size) (hx : h.getD 0 z31 = x) (hok : decide (0 < h.length) = ok) :
    Calls Try.prog 11 #[.pointer (some ⟨b, 0, none⟩)] wr fun e w' => ∃ v', e = .returned (.tuple #[.agg #[.int .i64 x.f0, .int .u64 x.f1], .bool ok]) ∧ IsQ w' N b v' (popL z31 lt31 h) ∧ Kd.R k28 28 w' N (fun _ => True) (.slice Al m cl) ls ∧ Below N wr w' := by
  refine (pop_calls N b v h wr hq hN).mono ?_
  rintro e w' ⟨v', rfl, hq', hk, hb', hv'⟩
  exact ⟨v', by rw [hx, hok], hq', l_kept hl hq hk, hb'⟩
theorem plays_without {N m cl j : Nat} {Al : Option Addr} {ls : List S28} {wr : World} (hl : Kd.R k28 28 wr N (fun _ => True) (.slice Al m cl) ls) (hm : ls.length = m) (hm6 : m ≤ 1000000) (hj : j < m) :
    Calls Try.prog 12 #[.slice Al m cl, .int .i64 (j : Int)] wr fun e w' => ∃ v', e = .returned v' ∧ Kd.R k28 28 w' wr.heap.size (fun _ => True) v' (ls.take j ++ ls.drop (j + 1)) ∧ Below wr.heap.size wr w' := by
  subst hm
  obtain ⟨_, h2, h3⟩ := Kd.R_reads' hl
  exact forebearref02_Without.calls Al cl ls (j : Int) _ wr h3 h2 (without_f ls hm6 j hj)
theorem plays_peek {N b : Nat} {v : Value} {h : List S31} {wr : World} {x : S31} {ok : Bool} (hq : IsQ wr N b v h) (hx : h.getD 0 z31 = x) (hok : decide (0 < h.length) = ok) :
    Calls Try.prog 13 #[.pointer (some ⟨b, 0, none⟩)] wr fun e w' => e = .returned (.tuple #[.agg #[.int .i64 x.f0, .int .u64 x.f1], .bool ok]) ∧ Below wr.heap.size wr w' := by
  subst hx; subst hok
  exact peek_calls N b v h wr hq
theorem plays_len {N b m : Nat} {v : Value} {h : List S31} {wr : World} (hq : IsQ wr N b v h) (hm : h.length = m) :
    Calls Try.prog 14 #[.pointer (some ⟨b, 0, none⟩)] wr fun e w' => e = .returned (.int .i64 m) ∧ w' = wr := by
  subst hm
  exact len_calls N b v h wr hq
attribute [local go_sem high] eqA31
set_option maxHeartbeats 16000000 in
set_option maxRecDepth 100000 in
theorem plays_walk (A : Option Addr) (c : Nat) (l : List S28) (A2 : Option Addr) (c2 : Nat) (sc : List S36) (w : World) (hr : Kd.C k28 w A l.length l) (hc : l.length ≤ c) (hr2 : Kd.C k36 w A2 sc.length sc) (hc2 : sc.length ≤ c2) :
    Calls Try.prog 3 #[.slice A l.length c, .slice A2 sc.length c2] w fun e w' => e = .returned (.bool true) ∧ Below w.heap.size w w' := by
  have HR := Aside0.mk hr
  have HC := Aside0.mk hc
  have HR2 := Aside0.mk hr2
  have HC2 := Aside0.mk hc2
  have hmx : l.length ≤ 9223372036854775807 := Kd.C_max hr
  have hmx2 : sc.length ≤ 9223372036854775807 := Kd.C_max hr2
  clear hr hc hr2 hc2
  by_cases hbig : 200 < l.length
  · have hb1 : decide (200 < (l.length : Int)) = true := decide_eq_true (by omega)
    go_enter Try.func3, Try.ntmps3
    go_wp2_with (go_at_call 6; refine (awake_calls w).mono ?_; rintro e w1 ⟨rfl, hb⟩)
    go_ret
    exact ⟨rfl, hb⟩
  · have hb1 : decide (200 < (l.length : Int)) = false := decide_eq_false (by omega)
    by_cases hbig2 : 200 < sc.length
    · have hb2 : decide (200 < (sc.length : Int)) = true := decide_eq_true (by omega)
      go_enter Try.func3, Try.ntmps3
      go_wp2_with (go_at_call 6; refine (awake_calls w).mono ?_; rintro e w1 ⟨rfl, hb⟩)
      go_ret
      exact ⟨rfl, hb⟩
    · have hb2 : decide (200 < (sc.length : Int)) = false := decide_eq_false (by omega)
      obtain ⟨X, hX⟩ : ∃ X, l.map c28 = X := ⟨_, rfl⟩
      have hXl : X.length = l.length := by rw [← hX]; simp
      have HX := Aside0.mk hX
      have HXL := Aside0.mk hXl
      clear hX hXl
      go_enter Try.func3, Try.ntmps3
      go_wp2_with (go_at_call 6; refine (awake_calls w).mono ?_; rintro e w1 ⟨rfl, hb⟩; have HB1 := Aside0.mk hb; clear hb)
      go_loopw [5, 6, 7] (fun s5 s6 s7 wr => ∃ k : Nat, s7 = .int .i64 k ∧ Aside0 (k ≤ l.length) ∧ Aside0 (Kd.R k28 28 wr w.heap.size (fun _ => True) s5 (l.take k)) ∧ Aside0 (Kd.R k31 31 wr w.heap.size (fun _ => True) s6 (X.take k)) ∧ Aside0 (Below w.heap.size w wr)) (fun s5 s6 s7 wr => l.length - (intOf s7).toNat)
      case atStart => exact ⟨0, rfl, ⟨by omega⟩, ⟨Kd.R_nil _ _ _ _ _⟩, ⟨Kd.R_nil _ _ _ _ _⟩, HB1⟩
      case round =>
        obtain ⟨k, rfl, HK, HL, HI, HB⟩ := hrel
        obtain ⟨Al, cl, rfl⟩ := Kd.R_slice HL.out
        obtain ⟨Ai, ci, rfl⟩ := Kd.R_slice HI.out
        have hil : (X.take k).length = k := by have := HK.out; have := HXL.out; rw [List.length_take]; omega
        have hll : (l.take k).length = k := by have := HK.out; rw [List.length_take]; omega
        rw [hil] at HI ⊢
        rw [hll] at HL ⊢
        have HIL := Aside0.mk hil
        have HLL := Aside0.mk hll
        clear hil hll
        by_cases hlt : k < l.length
        · obtain ⟨ad, rfl, hx0, hx1⟩ := at_T28 (Kd.C_below HR.out HB.out) (k : Int) (by omega) (by omega)
          obtain ⟨x, hx⟩ : ∃ x, rd_T28 l (k : Int) = x := ⟨_, rfl⟩
          rw [hx] at hx0 hx1
          simp only [Int.toNat_natCast] at hx0 hx1
          have HXE := Aside0.mk hx
          have HXC : Aside0 (∀ W, Below w.heap.size w W → W.cell? (ad.add (k * 2)) = some (.int .i64 x.f0) ∧ W.cell? ⟨(ad.add (k * 2)).block, (ad.add (k * 2)).off + 1, none⟩ = some (.int .u64 x.f1)) := by
            refine ⟨fun W hW => ?_⟩
            obtain ⟨_, e1, h0, h1⟩ := at_T28 (Kd.C_below HR.out hW) (k : Int) (by omega) (by omega)
            obtain rfl := Option.some.inj e1
            rw [hx] at h0 h1
            exact ⟨by simpa using h0, by simpa using h1⟩
          clear hx
          go_wp2_with (first
            | (at_builtin; refine Kd.R_append k28 (w0 := w) (W := wr) w.heap.size rfl (.tmp 33) (.tmp 38) 22 28 (.agg #[(.int .i64 0), (.int .u64 0)]) 16 rfl Try.underlying22 info28 rfl (by decide) (by omega) (.slice Al k cl) (l.take k) x [.int .i64 x.f0, .int .u64 x.f1] (fun _ => True) (fun _ => False) rfl rfl ?aP (fun _ hk => hk.elim) ?aF ?aO ?aB ?aS ?aL ?_; (case aP => exact k28_mkM _ _ _ x); (case aF => exact fun _ _ => trivial); (case aO => exact HL.out); (case aB => exact HB.out); (case aS => exact HB.out.size); (case aL => have := HLL.out; omega); intro v1 w2 ho hb hg hat; have HL2 := Aside0.mk ho; have HB2 := Aside0.mk hb; have HI2 := Aside0.mk (x_over HI.out HL.out hg); obtain ⟨hy0, hy1⟩ := HXC.out w2 hb; clear ho hb hg hat hx0 hx1)
            | (go_at_call 7; refine (forebearlaw02_item.calls x.f0 x.f1 x.f0 x.f1 _ rfl).mono ?_; rintro e w3 ⟨rfl, hb⟩; have HB3 := Aside0.mk (below_then HB2.out HB2.out.size hb); have HI3 := Aside0.mk (Kd.R_below HI2.out hb); have HL3 := Aside0.mk (Kd.R_below HL2.out hb); clear hb)
            | (at_builtin; refine Kd.R_append k31 (w0 := w) (W := w3) w.heap.size rfl (.tmp 40) (.tmp 46) 25 31 (.agg #[(.int .i64 0), (.int .u64 0)]) 16 rfl Try.underlying25 info31 rfl (by decide) (by omega) (.slice Ai k ci) (X.take k) (c28 x) [.int .i64 x.f0, .int .u64 x.f1] (fun _ => True) (fun _ => False) rfl rfl ?aP (fun _ hk => hk.elim) ?aF ?aO ?aB ?aS ?aL ?_; (case aP => exact k31_mkM _ _ _ (c28 x)); (case aF => exact fun _ _ => trivial); (case aO => exact HI3.out); (case aB => exact HB3.out); (case aS => exact HB3.out.size); (case aL => have := HIL.out; omega); intro v2 w4 ho hb hg hat; have HI4 := Aside0.mk ho; have HB4 := Aside0.mk hb; have HL4 := Aside0.mk (l_over HL3.out HI3.out hg); clear ho hb hg hat))
          go_roundw
          case rel => exact ⟨k + 1, by go_num, ⟨by omega⟩, ⟨by rw [take_snoc28 l k hlt HXE.out]; exact HL4.out⟩, ⟨by rw [take_snoc31 X k (by rw [HXL.out]; exact hlt), ← HX.out, ← rd28 l k hlt, HXE.out, HX.out]; exact HI4.out⟩, HB4⟩
          case measure => simp [intOf]; omega
        · obtain rfl : k = l.length := by have := HK.out; omega
          have hXt : X.take l.length = X := List.take_of_length_le (by rw [HXL.out]; exact Nat.le_refl _)
          rw [hXt] at HI
          rw [List.take_length] at HL
          obtain ⟨n, hn⟩ : ∃ n, l.length = n := ⟨_, rfl⟩
          have hn6 : n ≤ 200 := by omega
          have HNL := Aside0.mk hn
          have HXN : Aside0 (X.length = n) := ⟨by rw [HXL.out, hn]⟩
          have hcI : n ≤ ci := by have := (Kd.R_reads' HI.out).2.1; omega
          have hm6 : sc.length ≤ 200 := by omega
          obtain ⟨N, hN⟩ : ∃ N, w.heap.size = N := ⟨_, rfl⟩
          rw [hN] at HL HI HB
          have HNE := Aside0.mk hN
          have HNS : Aside0 (N ≤ wr.heap.size) := ⟨by rw [← hN]; exact HB.out.size⟩
          clear hXt hlt HIL HLL hN
          rw [hn] at hmx hb1 HL HI ⊢
          clear hn
          go_wp2_with (go_at_call 8; refine (plays_new (N := N) HXN.out HI.out hcI (by omega) HNS.out HL.out).mono ?_; rintro e w3 ⟨b, v3, rfl, hq, hb, hl⟩; have HQ3 := Aside0.mk hq; have HB3 := Aside0.mk (HB.out.trans hb); have HL3 := Aside0.mk hl; have HS3 := Aside0.mk (Nat.le_trans HNS.out hb.size); clear hq hb hl)
          go_loopw [5, 9] (fun s5 s9 wx => ∃ (i : Nat) (v : Value) (h : List S31) (ls : List S28), s9 = .int .i64 i ∧ Aside0 (i ≤ sc.length) ∧ Aside0 (Kd.R k28 28 wx N (fun _ => True) s5 ls) ∧ Aside0 (IsQ wx N b v h) ∧ Aside0 (Heap z31 lt31 h) ∧ Aside0 (h.Perm (ls.map c28)) ∧ Aside0 (ls.length ≤ 200 + 60 * i) ∧ Aside0 (Below N w wx)) (fun s5 s9 wx => sc.length - (intOf s9).toNat)
          case atStart => exact ⟨0, v3, _, l, rfl, ⟨by omega⟩, HL3, HQ3, ⟨fold_heap T31 z31 X [] (heap_nil z31)⟩, ⟨by rw [HX.out]; simpa using fold_perm (lt := lt31) z31 X []⟩, ⟨by have := HNL.out; omega⟩, HB3⟩
          case round =>
            obtain ⟨i, v, h, ls, rfl, HK, HL, HQ, HH, HP, HLN, HB⟩ := hrel
            obtain ⟨Al, cl, rfl⟩ := Kd.R_slice HL.out
            obtain ⟨m, hm⟩ : ∃ m, ls.length = m := ⟨_, rfl⟩
            have HME := Aside0.mk hm
            rw [hm] at HL HLN ⊢
            clear hm
            by_cases hi : i < sc.length
            · obtain ⟨ad, Ae, ce, rfl, hs0, hs1, hce, hCe⟩ := at_T36 (Kd.C_below HR2.out (by rw [HNE.out]; exact HB.out)) (i : Int) (by omega) (by omega)
              obtain ⟨act, hact⟩ : ∃ a, rd_T36 sc (i : Int) = a := ⟨_, rfl⟩
              rw [hact] at hs0 hs1 hce hCe
              simp only [Int.toNat_natCast] at hs0 hs1
              have HCE := Aside0.mk hCe
              have HSC : Aside0 (∀ W, Below N w W → W.cell? (ad.add (i * 2)) = some (.int .i64 act.f0) ∧ W.cell? ⟨(ad.add (i * 2)).block, (ad.add (i * 2)).off + 1, none⟩ = some (.slice Ae act.f1.length ce) ∧ Kd.C k28 W Ae act.f1.length act.f1) := by
                refine ⟨fun W hW => ?_⟩
                obtain ⟨_, A', c', e1, h0, h1, _, h2⟩ := at_T36 (Kd.C_below HR2.out (by rw [HNE.out]; exact hW)) (i : Int) (by omega) (by omega)
                obtain rfl := Option.some.inj e1
                rw [hact] at h0 h1 h2
                simp only [Int.toNat_natCast] at h0 h1
                have hb1 := (hB_cell hW hs1 (by
                  obtain ⟨_, _, _, e2, g0, g1, _, _⟩ := at_T36 HR2.out (i : Int) (by omega) (by omega)
                  obtain rfl := Option.some.inj e2
                  simp only [Int.toNat_natCast] at g1
                  exact World.block_lt_of_cell? w _ g1) HB.out HNE.out)
                rw [hb1] at h1
                injection h1 with h1
                injection h1 with h1 _ h1'
                subst h1; subst h1'
                exact ⟨h0, hb1, h2⟩
              have hemx : act.f1.length ≤ 9223372036854775807 := Kd.C_max hCe
              obtain ⟨en, hen⟩ : ∃ en, act.f1.length = en := ⟨_, rfl⟩
              rw [hen] at HSC hemx
              have HEN := Aside0.mk hen
              obtain ⟨kd, hkd⟩ : ∃ kd, act.f0 = kd := ⟨_, rfl⟩
              rw [hkd] at HSC
              clear hs0 hs1 hce hCe HCE hact hen hkd
              go_wp2
              have hii : i < sc.length := hi
              go_loopw [5, 10] (fun s5 s10 wx => ∃ (k : Nat) (v : Value) (h : List S31) (ls : List S28), s10 = .int .i64 k ∧ Aside0 (k ≤ en + 1) ∧ Aside0 (k ≤ 50) ∧ Aside0 (Kd.R k28 28 wx N (fun _ => True) s5 ls) ∧ Aside0 (IsQ wx N b v h) ∧ Aside0 (Heap z31 lt31 h) ∧ Aside0 (h.Perm (ls.map c28)) ∧ Aside0 (ls.length ≤ 200 + 60 * i + k) ∧ Aside0 (Below N w wx)) (fun s5 s10 wx => 50 - (intOf s10).toNat)
              case atStart => exact ⟨0, v, h, ls, rfl, ⟨by omega⟩, ⟨by omega⟩, HL, HQ, HH, HP, ⟨by have := HLN.out; have := HME.out; omega⟩, HB⟩
              case round =>
                clear HL HQ HH HP HLN HB HME
                obtain ⟨k, v, h, ls, rfl, HK, HK5, HL, HQ, HH, HP, HLN, HB⟩ := hrel
                obtain ⟨Al, cl, rfl⟩ := Kd.R_slice HL.out
                obtain ⟨m, hm⟩ : ∃ m, ls.length = m := ⟨_, rfl⟩
                have HME := Aside0.mk hm
                rw [hm] at HL HLN ⊢
                clear hm
                obtain ⟨hs0, hs1, hCe⟩ := HSC.out wr HB.out
                have HCE := Aside0.mk hCe
                clear hCe
                have hmb : m < 100000 := by have := HLN.out; have := HK5.out; omega
                by_cases hgo : k ≤ en ∧ k < 50
                · obtain ⟨hg1, hg2⟩ := hgo
                  have hg1b : decide ((k : Int) ≤ (en : Int)) = true := decide_eq_true (by omega)
                  have hg2b : decide ((k : Int) < 50) = true := decide_eq_true (by omega)
                  by_cases hkd : kd = 0
                  · subst hkd
                    by_cases hlt : k < en
                    · have hltb : decide ((k : Int) < (en : Int)) = true := decide_eq_true (by omega)
                      have HXC : Aside0 (∃ (ae : Addr) (x : S28), Ae = some ae ∧ (∀ W, Below N w W → W.cell? (ae.add (k * 2)) = some (.int .i64 x.f0) ∧ W.cell? ⟨(ae.add (k * 2)).block, (ae.add (k * 2)).off + 1, none⟩ = some (.int .u64 x.f1))) := by
                        obtain ⟨ae, e1, _, _⟩ := at_T28 HCE.out (k : Int) (by omega) (by omega)
                        refine ⟨ae, rd_T28 act.f1 (k : Int), e1, fun W hW => ?_⟩
                        obtain ⟨_, e2, h0, h1⟩ := at_T28 (HSC.out W hW).2.2 (k : Int) (by omega) (by omega)
                        rw [e1] at e2
                        obtain rfl := Option.some.inj e2
                        exact ⟨by simpa using h0, by simpa using h1⟩
                      obtain ⟨ae, x, rfl, hXC⟩ := HXC.out
                      have HXC2 := Aside0.mk hXC
                      obtain ⟨hx0, hx1⟩ := hXC wr HB.out
                      clear HXC hXC HCE
                      have hken : (k : Int) < (en : Int) := by omega
                      have tok1 : True := trivial
                      have HNb : Aside0 (N ≤ wr.heap.size) := ⟨by have := HB.out.size; rw [HNE.out] at this; exact this⟩
                      go_wp2_with (first
                        | (go_at_call 7; have _t := tok1; clear _t; refine (forebearlaw02_item.calls x.f0 x.f1 x.f0 x.f1 _ rfl).mono ?_; rintro e w2 ⟨rfl, hb⟩; have HB2 := Aside0.mk (below_then HB.out HNb.out hb); have HL2 := Aside0.mk (Kd.R_below HL.out hb); have HQ2 := Aside0.mk (HQ.out.below hb); have HS2 := Aside0.mk (Nat.le_trans HNb.out hb.size); clear hb hx0 hx1 tok1 hs0 hs1)
                        | (go_at_call 9; refine (push1k (c28 x) HQ2.out HS2.out (by rw [HP.out.length_eq, List.length_map, HME.out]; omega)).mono ?_; rintro e w3 ⟨v3, rfl, hq, hk, hb⟩; have HL3 := Aside0.mk (l_kept HL2.out HQ2.out hk); have HQ3 := Aside0.mk hq; have HB3 := Aside0.mk (HB2.out.trans hb); have HS3 := Aside0.mk (Nat.le_trans HS2.out hb.size); obtain ⟨hs0, hs1, _⟩ := HSC.out w3 (HB2.out.trans hb); obtain ⟨hx0, hx1⟩ := HXC2.out w3 (HB2.out.trans hb); clear hq hk hb)
                        | (at_builtin; refine Kd.R_append k28 (w0 := w) (W := w3) N rfl (.tmp 96) (.tmp 105) 22 28 (.agg #[(.int .i64 0), (.int .u64 0)]) 16 rfl Try.underlying22 info28 rfl (by decide) (by omega) (.slice Al m cl) ls x [.int .i64 x.f0, .int .u64 x.f1] (fun _ => True) (fun _ => False) rfl rfl ?aP (fun _ hk => hk.elim) ?aF ?aO ?aB ?aS ?aL ?_; (case aP => exact k28_mkM _ _ _ x); (case aF => exact fun _ _ => trivial); (case aO => exact HL3.out); (case aB => exact HB3.out); (case aS => exact HS3.out); (case aL => rw [HME.out]; omega); intro v4 w4 ho hb hg hat; have HL4 := Aside0.mk ho; have HB4 := Aside0.mk hb; have HQ4 := Aside0.mk (q_grown HL3.out HQ3.out hg); clear ho hb hg hat))
                      go_roundw
                      case rel => exact ⟨k + 1, v3, push z31 lt31 h (c28 x), ls ++ [x], by go_num, ⟨by omega⟩, ⟨by omega⟩, HL4, HQ4, ⟨push_heap T31 z31 HH.out _⟩, ⟨by rw [List.map_append]; exact (push_perm z31 h (c28 x)).trans (HP.out.append_right _)⟩, ⟨by rw [List.length_append, HME.out]; have := HLN.out; simp; omega⟩, HB4⟩
                      case measure => simp [intOf]; omega
                    · have hltb : decide ((k : Int) < (en : Int)) = false := decide_eq_false (by omega)
                      go_wp2
                      go_roundw
                      case rel => exact ⟨k + 1, v, h, ls, by go_num, ⟨by omega⟩, ⟨by omega⟩, HL, HQ, HH, HP, ⟨by rw [HME.out]; have := HLN.out; omega⟩, HB⟩
                      case measure => simp [intOf]; omega
                  · have hkdb : (kd == 0) = false := by simpa using hkd
                    have HNb : Aside0 (N ≤ wr.heap.size) := ⟨by have := HB.out.size; rw [HNE.out] at this; exact this⟩
                    obtain ⟨kf, r, hf, hbst⟩ := first_f ls (by rw [HME.out]; omega)
                    have HF := Aside0.mk hf
                    have hhl : h.length = m := by rw [HP.out.length_eq, List.length_map, HME.out]
                    have HHL := Aside0.mk hhl
                    rw [HME.out] at hbst
                    obtain ⟨x, hx⟩ : ∃ x, h.getD 0 z31 = x := ⟨_, rfl⟩
                    have HXE := Aside0.mk hx
                    clear hf hhl hx HCE
                    rcases hbst with ⟨hm0, rfl⟩ | ⟨j, rfl, hjm, hmin⟩
                    · subst hm0
                      have hh0 : h = [] := List.eq_nil_of_length_eq_zero HHL.out
                      subst hh0
                      have hx0 : x = ⟨0, 0⟩ := HXE.out.symm
                      subst hx0
                      have HOK : Aside0 (decide (0 < ([] : List S31).length) = false) := ⟨rfl⟩
                      go_upto_region 25 with (first
                        | (go_at_call 10; refine (plays_first HL.out HME.out HF.out).mono ?_; rintro e w4 ⟨rfl, hb⟩; have HB4 := Aside0.mk (below_then HB.out HNb.out hb); have HL4 := Aside0.mk (Kd.R_below HL.out hb); have HQ4 := Aside0.mk (HQ.out.below hb); have HS4 := Aside0.mk (Nat.le_trans HNb.out hb.size); clear hb hs0 hs1)
                        | (go_at_call 11; refine (plays_pop HL4.out HQ4.out HS4.out HXE.out HOK.out).mono ?_; rintro e w5 ⟨v5, rfl, hq, hl, hb⟩; have HB5 := Aside0.mk (HB4.out.trans hb); have HL5 := Aside0.mk hl; have HQ5 := Aside0.mk hq; have HS5 := Aside0.mk (Nat.le_trans HS4.out hb.size); clear hb hq hl))
                      go_quiet (fail)
                      go_wp2
                      go_roundw
                      case rel => exact ⟨k + 1, v5, [], ls, by go_num, ⟨by omega⟩, ⟨by omega⟩, ⟨Kd.R_drewN (Kd.R_alloc HL5.out _) _⟩, ⟨(HQ5.out.alloc _).drewN _⟩, HH, HP, ⟨by rw [HME.out]; omega⟩, ⟨pw_below_drewN (HB5.out.alloc HS5.out _) _⟩⟩
                      case measure => simp [intOf]; omega
                    · have hok : decide (0 < h.length) = true := by rw [HHL.out]; exact decide_eq_true (by omega)
                      have HOK := Aside0.mk hok
                      have HMIN := Aside0.mk hmin
                      clear hok hmin
                      go_upto_region 25 with (first
                        | (go_at_call 10; refine (plays_first HL.out HME.out HF.out).mono ?_; rintro e w4 ⟨rfl, hb⟩; have HB4 := Aside0.mk (below_then HB.out HNb.out hb); have HL4 := Aside0.mk (Kd.R_below HL.out hb); have HQ4 := Aside0.mk (HQ.out.below hb); have HS4 := Aside0.mk (Nat.le_trans HNb.out hb.size); clear hb hs0 hs1)
                        | (go_at_call 11; refine (plays_pop HL4.out HQ4.out HS4.out HXE.out HOK.out).mono ?_; rintro e w5 ⟨v5, rfl, hq, hl, hb⟩; have HB5 := Aside0.mk (HB4.out.trans hb); have HL5 := Aside0.mk hl; have HQ5 := Aside0.mk hq; have HS5 := Aside0.mk (Nat.le_trans HS4.out hb.size); clear hb hq hl))
                      obtain ⟨wa, hwa⟩ : ∃ wa, w5.alloc (.cells #[.int .i64 x.f0, .int .u64 x.f1] 31) = wa := ⟨_, rfl⟩
                      rw [hwa]
                      have hz0 : wa.cell? ⟨w5.heap.size, 0, none⟩ = some (.int .i64 x.f0) := by rw [← hwa]; exact (blk_cell (heap_alloc_new w5 _) 0).trans rfl
                      have hz1 : wa.cell? ⟨w5.heap.size, 1, none⟩ = some (.int .u64 x.f1) := by rw [← hwa]; exact (blk_cell (heap_alloc_new w5 _) 1).trans rfl
                      have HLa : Aside0 (Kd.R k28 28 wa N (fun _ => True) (.slice Al m cl) ls) := ⟨by rw [← hwa]; exact Kd.R_alloc HL5.out _⟩
                      have HQa : Aside0 (IsQ wa N b v5 (popL z31 lt31 h)) := ⟨by rw [← hwa]; exact HQ5.out.alloc _⟩
                      have HBa : Aside0 (Below N w wa) := ⟨by rw [← hwa]; exact HB5.out.alloc HS5.out _⟩
                      have HSa : Aside0 (N ≤ wa.heap.size) := ⟨by rw [← hwa]; exact Nat.le_trans HS5.out (by simp)⟩
                      obtain ⟨zs, hzs⟩ : ∃ zs, w5.heap.size = zs := ⟨_, rfl⟩
                      rw [hzs] at hz0 hz1 ⊢
                      clear hwa hzs
                      go_cut [139] (fun s139 wx => s139 = .bool false ∧ Aside0 (Below wa.heap.size wa wx))
                      case first =>
                        have hjm' : (j : Int) < (m : Int) := by omega
                        have hj00 : 0 ≤ (j : Int) := by omega
                        have hj01 : decide ((j : Int) < 0) = false := decide_eq_false (by omega)
                        have hCl := (Kd.R_reads' HLa.out).2.2
                        rw [HME.out] at hCl
                        obtain ⟨al, rfl, hy0, hy1⟩ := at_T28 hCl (j : Int) (by omega) (by omega)
                        have hxy : x = c28 (rd_T28 ls (j : Int)) := by
                          rw [← HXE.out, best_first HH.out HP.out (j := j) (by rw [HME.out]; exact hjm) (by rw [HME.out]; exact HMIN.out)]
                          simp [rd_T28]
                        obtain ⟨y, hy⟩ : ∃ y, rd_T28 ls (j : Int) = y := ⟨_, rfl⟩
                        rw [hy] at hy0 hy1 hxy
                        simp only [Int.toNat_natCast] at hy0 hy1
                        have hz0' : wa.cell? ⟨zs, 0, none⟩ = some (.int .i64 y.f0) := by rw [hz0, hxy]; rfl
                        have hz1' : wa.cell? ⟨zs, 1, none⟩ = some (.int .u64 y.f1) := by rw [hz1, hxy]; rfl
                        clear hxy hy hCl hz0 hz1
                        refine start_ (n := 26) (S := fun w' => Below wa.heap.size wa w' ∧ w'.cell? ⟨zs, 0, none⟩ = some (.int .i64 y.f0) ∧ w'.cell? ⟨zs, 1, none⟩ = some (.int .u64 y.f1) ∧ w'.cell? (al.add (j * 2)) = some (.int .i64 y.f0) ∧ w'.cell? ⟨(al.add (j * 2)).block, (al.add (j * 2)).off + 1, none⟩ = some (.int .u64 y.f1)) (ds := []) #[false, false, false, false, false, false, false, false, false, false, false, false, false, false, false, false, false, false, false, false, false, false, false, false, false, false] (by kernel_rfl) rfl rfl ⟨below_drew (Below.refl _ _), hz0', hz1', hy0, hy1⟩ (fun hHeld => ?_)
                        refine pure_ (i := 0) (N := (some 114)) (v := ?_) (a' := ?_) #[true, false, false, false, false, false, false, false, false, false, false, false, false, false, false, false, false, false, false, false, false, false, false, false, false, false] rfl rfl (by kernel_rfl) (fun _ _ _ h => h) (Or.inl ⟨by rfl, ?_⟩) ?_ ?_
                        rotate_left
                        · intro w'
                          go_simp
                          first | done | (with_reducible rfl)
                        rotate_left
                        · simp only [Act.put, List.setIfInBounds_toArray, List.set_cons_zero, List.set_cons_succ, i64_w, i32_w]
                          rfl
                        refine pure_ (i := 1) (N := (some 115)) (v := ?_) (a' := ?_) #[true, true, false, false, false, false, false, false, false, false, false, false, false, false, false, false, false, false, false, false, false, false, false, false, false, false] rfl rfl (by kernel_rfl) (fun _ _ _ h => h) (Or.inl ⟨by rfl, ?_⟩) ?_ ?_
                        rotate_left
                        · intro w'
                          go_simp
                          first | done | (with_reducible rfl)
                        rotate_left
                        · simp only [Act.put, List.setIfInBounds_toArray, List.set_cons_zero, List.set_cons_succ, i64_w, i32_w]
                          rfl
                        refine pure_ (i := 2) (N := (some 116)) (v := ?_) (a' := ?_) #[true, true, true, false, false, false, false, false, false, false, false, false, false, false, false, false, false, false, false, false, false, false, false, false, false, false] rfl rfl (by kernel_rfl) (fun _ _ _ h => h) (Or.inl ⟨by rfl, ?_⟩) ?_ ?_
                        rotate_left
                        · intro w'
                          go_simp
                          first | done | (with_reducible rfl)
                        rotate_left
                        · simp only [Act.put, List.setIfInBounds_toArray, List.set_cons_zero, List.set_cons_succ, i64_w, i32_w]
                          rfl
                        refine pure_ (i := 3) (N := (some 117)) (v := ?_) (a' := ?_) #[true, true, true, true, false, false, false, false, false, false, false, false, false, false, false, false, false, false, false, false, false, false, false, false, false, false] rfl rfl (by kernel_rfl) (fun _ _ _ h => h) (Or.inl ⟨by rfl, ?_⟩) ?_ ?_
                        rotate_left
                        · intro w'
                          go_simp
                          first | done | (with_reducible rfl)
                        rotate_left
                        · simp only [Act.put, List.setIfInBounds_toArray, List.set_cons_zero, List.set_cons_succ, i64_w, i32_w]
                          rfl
                        refine pure_ (i := 4) (N := (some 118)) (v := ?_) (a' := ?_) #[true, true, true, true, true, false, false, false, false, false, false, false, false, false, false, false, false, false, false, false, false, false, false, false, false, false] rfl rfl (by kernel_rfl) (fun _ _ _ h => h) (Or.inl ⟨by rfl, ?_⟩) ?_ ?_
                        rotate_left
                        · intro w'
                          go_simp
                          first | done | (with_reducible rfl)
                        rotate_left
                        · simp only [Act.put, List.setIfInBounds_toArray, List.set_cons_zero, List.set_cons_succ, i64_w, i32_w]
                          rfl
                        refine pure_ (i := 5) (N := (some 119)) (v := ?_) (a' := ?_) #[true, true, true, true, true, true, false, false, false, false, false, false, false, false, false, false, false, false, false, false, false, false, false, false, false, false] rfl rfl (by kernel_rfl) (fun _ _ _ h => h) (Or.inl ⟨by rfl, ?_⟩) ?_ ?_
                        rotate_left
                        · intro w'
                          go_simp
                          first | done | (with_reducible rfl)
                        rotate_left
                        · simp only [Act.put, List.setIfInBounds_toArray, List.set_cons_zero, List.set_cons_succ, i64_w, i32_w]
                          rfl
                        refine pure_ (i := 6) (N := (some 120)) (v := ?_) (a' := ?_) #[true, true, true, true, true, true, true, false, false, false, false, false, false, false, false, false, false, false, false, false, false, false, false, false, false, false] rfl rfl (by kernel_rfl) (fun _ _ _ h => h) (Or.inl ⟨by rfl, ?_⟩) ?_ ?_
                        rotate_left
                        · intro w'
                          go_simp
                          first | done | (with_reducible rfl)
                        rotate_left
                        · simp only [Act.put, List.setIfInBounds_toArray, List.set_cons_zero, List.set_cons_succ, i64_w, i32_w]
                          rfl
                        refine pure_ (i := 7) (N := (some 121)) (v := ?_) (a' := ?_) #[true, true, true, true, true, true, true, true, false, false, false, false, false, false, false, false, false, false, false, false, false, false, false, false, false, false] rfl rfl (by kernel_rfl) (fun _ _ _ h => h) (Or.inl ⟨by rfl, ?_⟩) ?_ ?_
                        rotate_left
                        · intro w'
                          go_simp
                          first | done | (with_reducible rfl)
                        rotate_left
                        · simp only [Act.put, List.setIfInBounds_toArray, List.set_cons_zero, List.set_cons_succ, i64_w, i32_w]
                          rfl
                        refine pure_ (i := 8) (N := (some 122)) (v := undef) (a' := ?_) #[true, true, true, true, true, true, true, true, true, false, false, false, false, false, false, false, false, false, false, false, false, false, false, false, false, false] rfl rfl (by kernel_rfl) (fun _ _ _ h => h) (Or.inr ⟨by rfl, rfl⟩) ?_ ?_
                        rotate_left
                        · simp only [Act.put, List.setIfInBounds_toArray, List.set_cons_zero, List.set_cons_succ, i64_w, i32_w]
                          rfl
                        refine pure_ (i := 9) (N := (some 123)) (v := undef) (a' := ?_) #[true, true, true, true, true, true, true, true, true, true, false, false, false, false, false, false, false, false, false, false, false, false, false, false, false, false] rfl rfl (by kernel_rfl) (fun _ _ _ h => h) (Or.inr ⟨by rfl, rfl⟩) ?_ ?_
                        rotate_left
                        · simp only [Act.put, List.setIfInBounds_toArray, List.set_cons_zero, List.set_cons_succ, i64_w, i32_w]
                          rfl
                        refine pure_ (i := 10) (N := (some 124)) (v := undef) (a' := ?_) #[true, true, true, true, true, true, true, true, true, true, true, false, false, false, false, false, false, false, false, false, false, false, false, false, false, false] rfl rfl (by kernel_rfl) (fun _ _ _ h => h) (Or.inr ⟨by rfl, rfl⟩) ?_ ?_
                        rotate_left
                        · simp only [Act.put, List.setIfInBounds_toArray, List.set_cons_zero, List.set_cons_succ, i64_w, i32_w]
                          rfl
                        refine pure_ (i := 11) (N := (some 125)) (v := ?_) (a' := ?_) #[true, true, true, true, true, true, true, true, true, true, true, true, false, false, false, false, false, false, false, false, false, false, false, false, false, false] rfl rfl (by kernel_rfl) (fun _ _ _ h => h) (Or.inl ⟨by rfl, ?_⟩) ?_ ?_
                        rotate_left
                        · intro w'
                          go_simp
                          first | done | (with_reducible rfl)
                        rotate_left
                        · simp only [Act.put, List.setIfInBounds_toArray, List.set_cons_zero, List.set_cons_succ, i64_w, i32_w]
                          rfl
                        refine pure_ (i := 12) (N := (some 126)) (v := ?_) (a' := ?_) #[true, true, true, true, true, true, true, true, true, true, true, true, true, false, false, false, false, false, false, false, false, false, false, false, false, false] rfl rfl (by kernel_rfl) (fun _ _ _ h => h) (Or.inl ⟨by rfl, ?_⟩) ?_ ?_
                        rotate_left
                        · intro w'
                          go_simp
                          first | done | (with_reducible rfl)
                        rotate_left
                        · simp only [Act.put, List.setIfInBounds_toArray, List.set_cons_zero, List.set_cons_succ, i64_w, i32_w]
                          rfl
                        refine pure_ (i := 13) (N := (some 127)) (v := ?_) (a' := ?_) #[true, true, true, true, true, true, true, true, true, true, true, true, true, true, false, false, false, false, false, false, false, false, false, false, false, false] rfl rfl (by kernel_rfl) (fun _ _ _ h => h) (Or.inl ⟨by rfl, ?_⟩) ?_ ?_
                        rotate_left
                        · intro w'
                          go_simp
                          first | done | (with_reducible rfl)
                        rotate_left
                        · simp only [Act.put, List.setIfInBounds_toArray, List.set_cons_zero, List.set_cons_succ, i64_w, i32_w]
                          rfl
                        refine pure_ (i := 14) (N := (some 128)) (v := ?_) (a' := ?_) #[true, true, true, true, true, true, true, true, true, true, true, true, true, true, true, false, false, false, false, false, false, false, false, false, false, false] rfl rfl (by kernel_rfl) (fun _ _ _ h => h) (Or.inl ⟨by rfl, ?_⟩) ?_ ?_
                        rotate_left
                        · intro w'
                          go_simp
                          first | done | (with_reducible rfl)
                        rotate_left
                        · simp only [Act.put, List.setIfInBounds_toArray, List.set_cons_zero, List.set_cons_succ, i64_w, i32_w]
                          rfl
                        refine pure_ (i := 15) (N := (some 129)) (v := ?_) (a' := ?_) #[true, true, true, true, true, true, true, true, true, true, true, true, true, true, true, true, false, false, false, false, false, false, false, false, false, false] rfl rfl (by kernel_rfl) (fun _ _ _ h => h) (Or.inl ⟨by rfl, ?_⟩) ?_ ?_
                        rotate_left
                        · intro w'
                          go_simp
                          first | done | (with_reducible rfl)
                        rotate_left
                        · simp only [Act.put, List.setIfInBounds_toArray, List.set_cons_zero, List.set_cons_succ, i64_w, i32_w]
                          rfl
                        refine pure_ (i := 16) (N := (some 130)) (v := ?_) (a' := ?_) #[true, true, true, true, true, true, true, true, true, true, true, true, true, true, true, true, true, false, false, false, false, false, false, false, false, false] rfl rfl (by kernel_rfl) (fun _ _ _ h => h) (Or.inl ⟨by rfl, ?_⟩) ?_ ?_
                        rotate_left
                        · intro w'
                          go_simp
                          first | done | (with_reducible rfl)
                        rotate_left
                        · simp only [Act.put, List.setIfInBounds_toArray, List.set_cons_zero, List.set_cons_succ, i64_w, i32_w]
                          rfl
                        refine take_ (i := 17) (N := (some 131)) (v := ?_) (a' := ?_) #[true, true, true, true, true, true, true, true, true, true, true, true, true, true, true, true, true, true, false, false, false, false, false, false, false, false] rfl rfl (by kernel_rfl) (fun _ _ _ h => h) (Or.inl ⟨by rfl, ?_⟩) hHeld ?_ ?_
                        rotate_left
                        · intro w' s0
                          (try dsimp only at s0)
                          (try obtain ⟨_, s1, s2, s3, s4, s5, s6⟩ := s0)
                          (try obtain ⟨_, s1, s2, s3, s4, s5⟩ := s0)
                          (try obtain ⟨_, s1, s2, s3, s4⟩ := s0)
                          go_simp
                          first | done | (with_reducible rfl)
                        rotate_left
                        · simp only [Act.put, List.setIfInBounds_toArray, List.set_cons_zero, List.set_cons_succ, i64_w, i32_w]
                          rfl
                        refine pure_ (i := 18) (N := (some 132)) (v := ?_) (a' := ?_) #[true, true, true, true, true, true, true, true, true, true, true, true, true, true, true, true, true, true, true, false, false, false, false, false, false, false] rfl rfl (by kernel_rfl) (fun _ _ _ h => h) (Or.inl ⟨by rfl, ?_⟩) ?_ ?_
                        rotate_left
                        · intro w'
                          go_simp
                          first | done | (with_reducible rfl)
                        rotate_left
                        · simp only [Act.put, List.setIfInBounds_toArray, List.set_cons_zero, List.set_cons_succ, i64_w, i32_w]
                          rfl
                        refine pure_ (i := 19) (N := (some 133)) (v := ?_) (a' := ?_) #[true, true, true, true, true, true, true, true, true, true, true, true, true, true, true, true, true, true, true, true, false, false, false, false, false, false] rfl rfl (by kernel_rfl) (fun _ _ _ h => h) (Or.inl ⟨by rfl, ?_⟩) ?_ ?_
                        rotate_left
                        · intro w'
                          go_simp
                          first | done | (with_reducible rfl)
                        rotate_left
                        · simp only [Act.put, List.setIfInBounds_toArray, List.set_cons_zero, List.set_cons_succ, i64_w, i32_w]
                          rfl
                        refine pure_ (i := 20) (N := (some 134)) (v := ?_) (a' := ?_) #[true, true, true, true, true, true, true, true, true, true, true, true, true, true, true, true, true, true, true, true, true, false, false, false, false, false] rfl rfl (by kernel_rfl) (fun _ _ _ h => h) (Or.inl ⟨by rfl, ?_⟩) ?_ ?_
                        rotate_left
                        · intro w'
                          go_simp
                          first | done | (with_reducible rfl)
                        rotate_left
                        · simp only [Act.put, List.setIfInBounds_toArray, List.set_cons_zero, List.set_cons_succ, i64_w, i32_w]
                          rfl
                        refine take_ (i := 21) (N := (some 135)) (v := ?_) (a' := ?_) #[true, true, true, true, true, true, true, true, true, true, true, true, true, true, true, true, true, true, true, true, true, true, false, false, false, false] rfl rfl (by kernel_rfl) (fun _ _ _ h => h) (Or.inl ⟨by rfl, ?_⟩) hHeld ?_ ?_
                        rotate_left
                        · intro w' s0
                          (try dsimp only at s0)
                          (try obtain ⟨_, s1, s2, s3, s4, s5, s6⟩ := s0)
                          (try obtain ⟨_, s1, s2, s3, s4, s5⟩ := s0)
                          (try obtain ⟨_, s1, s2, s3, s4⟩ := s0)
                          go_simp
                          first | done | (with_reducible rfl)
                        rotate_left
                        · simp only [Act.put, List.setIfInBounds_toArray, List.set_cons_zero, List.set_cons_succ, i64_w, i32_w]
                          rfl
                        refine one_ (i := 22) (N := (some 136)) #[true, true, true, true, true, true, true, true, true, true, true, true, true, true, true, true, true, true, true, true, true, true, true, false, false, false] rfl rfl (by kernel_rfl) (by decide) (fun K hK => ?_)
                        refine goes_ Try.func7 (by kernel_rfl) rfl #[.agg #[.int .i64 y.f0, .int .u64 y.f1]] (by rfl) rfl rfl (by (try simp only [List.map_toArray, List.map_cons, List.map_nil]); first | done | rfl) ?_
                        refine (forebearlaw02_item.calls y.f0 y.f1 y.f0 y.f1 _ rfl).mono ?_
                        rintro e w7 ⟨rfl, hb⟩
                        refine ⟨_, rfl, ?_⟩
                        refine hK.out _ _ ⟨⟨hb.os, hb.tape, hb.output, hb.size, hb.block⟩, pw_cell_below hb hz0', pw_cell_below hb hz1', pw_cell_below hb hy0, pw_cell_below hb hy1⟩ (fun hHeld => ?_)
                        clear hK K
                        refine norm_ (a' := ?_) ?_ ?_
                        rotate_left
                        · show Act.put _ (some 136) _ = _
                          simp only [Act.put, List.setIfInBounds_toArray, List.set_cons_zero, List.set_cons_succ, i64_w, i32_w]
                          rfl
                        refine pure_ (i := 23) (N := (some 137)) (v := ?_) (a' := ?_) #[true, true, true, true, true, true, true, true, true, true, true, true, true, true, true, true, true, true, true, true, true, true, true, true, false, false] rfl rfl (by kernel_rfl) (fun _ _ _ h => h) (Or.inl ⟨by rfl, ?_⟩) ?_ ?_
                        rotate_left
                        · intro w'
                          go_simp
                          first | done | (with_reducible rfl)
                        rotate_left
                        · simp only [Act.put, List.setIfInBounds_toArray, List.set_cons_zero, List.set_cons_succ, i64_w, i32_w]
                          rfl
                        refine pure_ (i := 24) (N := (some 138)) (v := ?_) (a' := ?_) #[true, true, true, true, true, true, true, true, true, true, true, true, true, true, true, true, true, true, true, true, true, true, true, true, true, false] rfl rfl (by kernel_rfl) (fun _ _ _ h => h) (Or.inl ⟨by rfl, ?_⟩) ?_ ?_
                        rotate_left
                        · intro w'
                          go_simp
                          first | done | (with_reducible rfl)
                        rotate_left
                        · simp only [Act.put, List.setIfInBounds_toArray, List.set_cons_zero, List.set_cons_succ, i64_w, i32_w]
                          rfl
                        refine pure_ (i := 25) (N := (some 139)) (v := ?_) (a' := ?_) #[true, true, true, true, true, true, true, true, true, true, true, true, true, true, true, true, true, true, true, true, true, true, true, true, true, true] rfl rfl (by kernel_rfl) (fun _ _ _ h => h) (Or.inl ⟨by rfl, ?_⟩) ?_ ?_
                        rotate_left
                        · intro w'
                          go_simp
                          first | done | (with_reducible rfl)
                        rotate_left
                        · simp only [Act.put, List.setIfInBounds_toArray, List.set_cons_zero, List.set_cons_succ, i64_w, i32_w]
                          rfl
                        refine done_ (by kernel_rfl) ?_
                        have HBB := Aside0.mk hHeld.1
                        go_wp2
                        go_meet
                        case rel => exact ⟨rfl, HBB⟩
                      case rest =>
                        obtain ⟨rfl, HBB⟩ := hcut
                        clear hz0 hz1
                        have HLb : Aside0 (Kd.R k28 28 wc N (fun _ => True) (.slice Al m cl) ls) := ⟨Kd.R_below HLa.out HBB.out⟩
                        have HBb : Aside0 (Below N w wc) := ⟨below_then HBa.out HSa.out HBB.out⟩
                        have HQb : Aside0 (IsQ wc N b v5 (popL z31 lt31 h)) := ⟨HQa.out.below HBB.out⟩
                        have HSb : Aside0 (N ≤ wc.heap.size) := ⟨Nat.le_trans HSa.out HBB.out.size⟩
                        have hj00 : decide (0 ≤ (j : Int)) = true := decide_eq_true (by omega)
                        go_wp2_with (go_at_call 12; refine (plays_without HLb.out HME.out (by omega) hjm).mono ?_; rintro e w8 ⟨v8, rfl, hl, hb⟩; have HL8 := Aside0.mk (Kd.R_lower hl HSb.out); have HB8 := Aside0.mk (below_then HBb.out HSb.out hb); have HQ8 := Aside0.mk (HQb.out.below hb); clear hl hb)
                        go_roundw
                        case rel => exact ⟨k + 1, v5, popL z31 lt31 h, ls.take j ++ ls.drop (j + 1), by go_num, ⟨by omega⟩, ⟨by omega⟩, HL8, HQ8, ⟨pop_heap2 T31 z31 HH.out⟩, ⟨without_perm HH.out HP.out (by rw [HME.out]; exact hjm) (best_first HH.out HP.out (by rw [HME.out]; exact hjm) (by rw [HME.out]; exact HMIN.out))⟩, ⟨by rw [List.length_append, List.length_take, List.length_drop, HME.out]; have := HLN.out; omega⟩, HB8⟩
                        case measure => simp [intOf]; omega
                · have HNb : Aside0 (N ≤ wr.heap.size) := ⟨by have := HB.out.size; rw [HNE.out] at this; exact this⟩
                  obtain ⟨kf, r, hf, hbst⟩ := first_f ls (by rw [HME.out]; omega)
                  have HF := Aside0.mk hf
                  have hhl : h.length = m := by rw [HP.out.length_eq, List.length_map, HME.out]
                  have HHL := Aside0.mk hhl
                  rw [HME.out] at hbst
                  obtain ⟨x, hx⟩ : ∃ x, h.getD 0 z31 = x := ⟨_, rfl⟩
                  have HXE := Aside0.mk hx
                  have hcond : (en < k) ∨ (k ≤ en ∧ 50 ≤ k) := by
                    by_cases h1 : k ≤ en
                    · exact .inr ⟨h1, by have : ¬ k < 50 := fun h2 => hgo ⟨h1, h2⟩; omega⟩
                    · exact .inl (by omega)
                  clear hf hhl hx HCE hgo
                  rcases hbst with ⟨hm0, rfl⟩ | ⟨j, rfl, hjm, hmin⟩
                  · subst hm0
                    have hh0 : h = [] := List.eq_nil_of_length_eq_zero HHL.out
                    subst hh0
                    have hx0 : x = ⟨0, 0⟩ := HXE.out.symm
                    subst hx0
                    have HOK : Aside0 (decide (0 < ([] : List S31).length) = false) := ⟨rfl⟩
                    rcases hcond with hc1 | ⟨hc1, hc2⟩
                    all_goals
                      go_upto_region 31 with (first
                        | (go_at_call 10; refine (plays_first HL.out HME.out HF.out).mono ?_; rintro e w4 ⟨rfl, hb⟩; have HB4 := Aside0.mk (below_then HB.out HNb.out hb); have HL4 := Aside0.mk (Kd.R_below HL.out hb); have HQ4 := Aside0.mk (HQ.out.below hb); have HS4 := Aside0.mk (Nat.le_trans HNb.out hb.size); clear hb hs0 hs1)
                        | (go_at_call 13; refine (plays_peek HQ4.out HXE.out HOK.out).mono ?_; rintro e w5 ⟨rfl, hb⟩; have HB5 := Aside0.mk (below_then HB4.out HS4.out hb); have HL5 := Aside0.mk (Kd.R_below HL4.out hb); have HQ5 := Aside0.mk (HQ4.out.below hb); have HS5 := Aside0.mk (Nat.le_trans HS4.out hb.size); clear hb))
                      obtain ⟨wa, hwa⟩ : ∃ wa, w5.alloc (.cells #[.int .i64 0, .int .u64 0] 31) = wa := ⟨_, rfl⟩
                      rw [hwa]
                      have hz0 : wa.cell? ⟨w5.heap.size, 0, none⟩ = some (.int .i64 0) := by rw [← hwa]; exact (blk_cell (heap_alloc_new w5 _) 0).trans rfl
                      have hz1 : wa.cell? ⟨w5.heap.size, 1, none⟩ = some (.int .u64 0) := by rw [← hwa]; exact (blk_cell (heap_alloc_new w5 _) 1).trans rfl
                      have HLa : Aside0 (Kd.R k28 28 wa N (fun _ => True) (.slice Al 0 cl) ls) := ⟨by rw [← hwa]; exact Kd.R_alloc HL5.out _⟩
                      have HQa : Aside0 (IsQ wa N b v []) := ⟨by rw [← hwa]; exact HQ5.out.alloc _⟩
                      have HBa : Aside0 (Below N w wa) := ⟨by rw [← hwa]; exact HB5.out.alloc HS5.out _⟩
                      have HSa : Aside0 (N ≤ wa.heap.size) := ⟨by rw [← hwa]; exact Nat.le_trans HS5.out (by simp)⟩
                      obtain ⟨zs, hzs⟩ : ∃ zs, w5.heap.size = zs := ⟨_, rfl⟩
                      rw [hzs] at hz0 hz1 ⊢
                      clear hwa hzs
                      refine start_ (n := 33) (S := fun w' => Below wa.heap.size wa w' ∧ w'.cell? ⟨zs, 0, none⟩ = some (.int .i64 0) ∧ w'.cell? ⟨zs, 1, none⟩ = some (.int .u64 0)) (ds := []) #[false, false, false, false, false, false, false, false, false, false, false, false, false, false, false, false, false, false, false, false, false, false, false, false, false, false, false, false, false, false, false, false, false] (by kernel_rfl) rfl rfl ⟨below_drew (Below.refl _ _), hz0, hz1⟩ (fun hHeld => ?_)
                      refine pure_ (i := 0) (N := (some 152)) (v := ?_) (a' := ?_) #[true, false, false, false, false, false, false, false, false, false, false, false, false, false, false, false, false, false, false, false, false, false, false, false, false, false, false, false, false, false, false, false, false] rfl rfl (by kernel_rfl) (fun _ _ _ h => h) (Or.inl ⟨by rfl, ?_⟩) ?_ ?_
                      rotate_left
                      · intro w'
                        go_simp
                        first | done | (with_reducible rfl)
                      rotate_left
                      · simp only [Act.put, List.setIfInBounds_toArray, List.set_cons_zero, List.set_cons_succ, i64_w, i32_w]
                        rfl
                      refine pure_ (i := 2) (N := (some 154)) (v := ?_) (a' := ?_) #[true, false, true, false, false, false, false, false, false, false, false, false, false, false, false, false, false, false, false, false, false, false, false, false, false, false, false, false, false, false, false, false, false] rfl rfl (by kernel_rfl) (fun _ _ _ h => h) (Or.inl ⟨by rfl, ?_⟩) ?_ ?_
                      rotate_left
                      · intro w'
                        go_simp
                        first | done | (with_reducible rfl)
                      rotate_left
                      · simp only [Act.put, List.setIfInBounds_toArray, List.set_cons_zero, List.set_cons_succ, i64_w, i32_w]
                        rfl
                      refine pure_ (i := 3) (N := (some 155)) (v := ?_) (a' := ?_) #[true, false, true, true, false, false, false, false, false, false, false, false, false, false, false, false, false, false, false, false, false, false, false, false, false, false, false, false, false, false, false, false, false] rfl rfl (by kernel_rfl) (fun _ _ _ h => h) (Or.inl ⟨by rfl, ?_⟩) ?_ ?_
                      rotate_left
                      · intro w'
                        go_simp
                        first | done | (with_reducible rfl)
                      rotate_left
                      · simp only [Act.put, List.setIfInBounds_toArray, List.set_cons_zero, List.set_cons_succ, i64_w, i32_w]
                        rfl
                      refine one_ (i := 1) (N := (some 153)) #[true, true, true, true, false, false, false, false, false, false, false, false, false, false, false, false, false, false, false, false, false, false, false, false, false, false, false, false, false, false, false, false, false] rfl rfl (by kernel_rfl) (by decide) (fun K hK => ?_)
                      refine goes_ Try.func14 (by kernel_rfl) rfl #[.pointer (some ⟨b, 0, none⟩)] (by rfl) rfl rfl (by (try simp only [List.map_toArray, List.map_cons, List.map_nil]); first | done | rfl) ?_
                      refine (plays_len HQa.out.drew rfl).mono ?_
                      rintro e w7 ⟨rfl, rfl⟩
                      refine ⟨_, rfl, ?_⟩
                      refine hK.out _ _ hHeld (fun hHeld => ?_)
                      clear hK K
                      refine norm_ (a' := ?_) ?_ ?_
                      rotate_left
                      · show Act.put _ (some 153) _ = _
                        simp only [Act.put, List.setIfInBounds_toArray, List.set_cons_zero, List.set_cons_succ, i64_w, i32_w]
                        rfl
                      refine pure_ (i := 4) (N := (some 156)) (v := ?_) (a' := ?_) #[true, true, true, true, true, false, false, false, false, false, false, false, false, false, false, false, false, false, false, false, false, false, false, false, false, false, false, false, false, false, false, false, false] rfl rfl (by kernel_rfl) (fun _ _ _ h => h) (Or.inl ⟨by rfl, ?_⟩) ?_ ?_
                      rotate_left
                      · intro w'
                        go_simp
                        first | done | (with_reducible rfl)
                      rotate_left
                      · simp only [Act.put, List.setIfInBounds_toArray, List.set_cons_zero, List.set_cons_succ, i64_w, i32_w]
                        rfl
                      refine pure_ (i := 5) (N := (some 157)) (v := ?_) (a' := ?_) #[true, true, true, true, true, true, false, false, false, false, false, false, false, false, false, false, false, false, false, false, false, false, false, false, false, false, false, false, false, false, false, false, false] rfl rfl (by kernel_rfl) (fun _ _ _ h => h) (Or.inl ⟨by rfl, ?_⟩) ?_ ?_
                      rotate_left
                      · intro w'
                        go_simp
                        first | done | (with_reducible rfl)
                      rotate_left
                      · simp only [Act.put, List.setIfInBounds_toArray, List.set_cons_zero, List.set_cons_succ, i64_w, i32_w]
                        rfl
                      refine pure_ (i := 6) (N := (some 158)) (v := ?_) (a' := ?_) #[true, true, true, true, true, true, true, false, false, false, false, false, false, false, false, false, false, false, false, false, false, false, false, false, false, false, false, false, false, false, false, false, false] rfl rfl (by kernel_rfl) (fun _ _ _ h => h) (Or.inl ⟨by rfl, ?_⟩) ?_ ?_
                      rotate_left
                      · intro w'
                        go_simp
                        first | done | (with_reducible rfl)
                      rotate_left
                      · simp only [Act.put, List.setIfInBounds_toArray, List.set_cons_zero, List.set_cons_succ, i64_w, i32_w]
                        rfl
                      refine pure_ (i := 7) (N := (some 159)) (v := ?_) (a' := ?_) #[true, true, true, true, true, true, true, true, false, false, false, false, false, false, false, false, false, false, false, false, false, false, false, false, false, false, false, false, false, false, false, false, false] rfl rfl (by kernel_rfl) (fun _ _ _ h => h) (Or.inl ⟨by rfl, ?_⟩) ?_ ?_
                      rotate_left
                      · intro w'
                        go_simp
                        first | done | (with_reducible rfl)
                      rotate_left
                      · simp only [Act.put, List.setIfInBounds_toArray, List.set_cons_zero, List.set_cons_succ, i64_w, i32_w]
                        rfl
                      refine pure_ (i := 8) (N := (some 160)) (v := ?_) (a' := ?_) #[true, true, true, true, true, true, true, true, true, false, false, false, false, false, false, false, false, false, false, false, false, false, false, false, false, false, false, false, false, false, false, false, false] rfl rfl (by kernel_rfl) (fun _ _ _ h => h) (Or.inl ⟨by rfl, ?_⟩) ?_ ?_
                      rotate_left
                      · intro w'
                        go_simp
                        first | done | (with_reducible rfl)
                      rotate_left
                      · simp only [Act.put, List.setIfInBounds_toArray, List.set_cons_zero, List.set_cons_succ, i64_w, i32_w]
                        rfl
                      refine pure_ (i := 9) (N := (some 161)) (v := ?_) (a' := ?_) #[true, true, true, true, true, true, true, true, true, true, false, false, false, false, false, false, false, false, false, false, false, false, false, false, false, false, false, false, false, false, false, false, false] rfl rfl (by kernel_rfl) (fun _ _ _ h => h) (Or.inl ⟨by rfl, ?_⟩) ?_ ?_
                      rotate_left
                      · intro w'
                        go_simp
                        first | done | (with_reducible rfl)
                      rotate_left
                      · simp only [Act.put, List.setIfInBounds_toArray, List.set_cons_zero, List.set_cons_succ, i64_w, i32_w]
                        rfl
                      refine pure_ (i := 10) (N := (some 162)) (v := ?_) (a' := ?_) #[true, true, true, true, true, true, true, true, true, true, true, false, false, false, false, false, false, false, false, false, false, false, false, false, false, false, false, false, false, false, false, false, false] rfl rfl (by kernel_rfl) (fun _ _ _ h => h) (Or.inl ⟨by rfl, ?_⟩) ?_ ?_
                      rotate_left
                      · intro w'
                        go_simp
                        first | done | (with_reducible rfl)
                      rotate_left
                      · simp only [Act.put, List.setIfInBounds_toArray, List.set_cons_zero, List.set_cons_succ, i64_w, i32_w]
                        rfl
                      refine pure_ (i := 11) (N := (some 163)) (v := ?_) (a' := ?_) #[true, true, true, true, true, true, true, true, true, true, true, true, false, false, false, false, false, false, false, false, false, false, false, false, false, false, false, false, false, false, false, false, false] rfl rfl (by kernel_rfl) (fun _ _ _ h => h) (Or.inl ⟨by rfl, ?_⟩) ?_ ?_
                      rotate_left
                      · intro w'
                        go_simp
                        first | done | (with_reducible rfl)
                      rotate_left
                      · simp only [Act.put, List.setIfInBounds_toArray, List.set_cons_zero, List.set_cons_succ, i64_w, i32_w]
                        rfl
                      refine pure_ (i := 12) (N := (some 164)) (v := ?_) (a' := ?_) #[true, true, true, true, true, true, true, true, true, true, true, true, true, false, false, false, false, false, false, false, false, false, false, false, false, false, false, false, false, false, false, false, false] rfl rfl (by kernel_rfl) (fun _ _ _ h => h) (Or.inl ⟨by rfl, ?_⟩) ?_ ?_
                      rotate_left
                      · intro w'
                        go_simp
                        first | done | (with_reducible rfl)
                      rotate_left
                      · simp only [Act.put, List.setIfInBounds_toArray, List.set_cons_zero, List.set_cons_succ, i64_w, i32_w]
                        rfl
                      refine pure_ (i := 13) (N := (some 165)) (v := ?_) (a' := ?_) #[true, true, true, true, true, true, true, true, true, true, true, true, true, true, false, false, false, false, false, false, false, false, false, false, false, false, false, false, false, false, false, false, false] rfl rfl (by kernel_rfl) (fun _ _ _ h => h) (Or.inl ⟨by rfl, ?_⟩) ?_ ?_
                      rotate_left
                      · intro w'
                        go_simp
                        first | done | (with_reducible rfl)
                      rotate_left
                      · simp only [Act.put, List.setIfInBounds_toArray, List.set_cons_zero, List.set_cons_succ, i64_w, i32_w]
                        rfl
                      refine pure_ (i := 14) (N := (some 166)) (v := ?_) (a' := ?_) #[true, true, true, true, true, true, true, true, true, true, true, true, true, true, true, false, false, false, false, false, false, false, false, false, false, false, false, false, false, false, false, false, false] rfl rfl (by kernel_rfl) (fun _ _ _ h => h) (Or.inl ⟨by rfl, ?_⟩) ?_ ?_
                      rotate_left
                      · intro w'
                        go_simp
                        first | done | (with_reducible rfl)
                      rotate_left
                      · simp only [Act.put, List.setIfInBounds_toArray, List.set_cons_zero, List.set_cons_succ, i64_w, i32_w]
                        rfl
                      refine pure_ (i := 15) (N := (some 167)) (v := undef) (a' := ?_) #[true, true, true, true, true, true, true, true, true, true, true, true, true, true, true, true, false, false, false, false, false, false, false, false, false, false, false, false, false, false, false, false, false] rfl rfl (by kernel_rfl) (fun _ _ _ h => h) (Or.inr ⟨by rfl, rfl⟩) ?_ ?_
                      rotate_left
                      · simp only [Act.put, List.setIfInBounds_toArray, List.set_cons_zero, List.set_cons_succ, i64_w, i32_w]
                        rfl
                      refine pure_ (i := 16) (N := (some 168)) (v := undef) (a' := ?_) #[true, true, true, true, true, true, true, true, true, true, true, true, true, true, true, true, true, false, false, false, false, false, false, false, false, false, false, false, false, false, false, false, false] rfl rfl (by kernel_rfl) (fun _ _ _ h => h) (Or.inr ⟨by rfl, rfl⟩) ?_ ?_
                      rotate_left
                      · simp only [Act.put, List.setIfInBounds_toArray, List.set_cons_zero, List.set_cons_succ, i64_w, i32_w]
                        rfl
                      refine pure_ (i := 17) (N := (some 169)) (v := undef) (a' := ?_) #[true, true, true, true, true, true, true, true, true, true, true, true, true, true, true, true, true, true, false, false, false, false, false, false, false, false, false, false, false, false, false, false, false] rfl rfl (by kernel_rfl) (fun _ _ _ h => h) (Or.inr ⟨by rfl, rfl⟩) ?_ ?_
                      rotate_left
                      · simp only [Act.put, List.setIfInBounds_toArray, List.set_cons_zero, List.set_cons_succ, i64_w, i32_w]
                        rfl
                      refine pure_ (i := 18) (N := (some 170)) (v := undef) (a' := ?_) #[true, true, true, true, true, true, true, true, true, true, true, true, true, true, true, true, true, true, true, false, false, false, false, false, false, false, false, false, false, false, false, false, false] rfl rfl (by kernel_rfl) (fun _ _ _ h => h) (Or.inr ⟨by rfl, rfl⟩) ?_ ?_
                      rotate_left
                      · simp only [Act.put, List.setIfInBounds_toArray, List.set_cons_zero, List.set_cons_succ, i64_w, i32_w]
                        rfl
                      refine pure_ (i := 19) (N := (some 171)) (v := undef) (a' := ?_) #[true, true, true, true, true, true, true, true, true, true, true, true, true, true, true, true, true, true, true, true, false, false, false, false, false, false, false, false, false, false, false, false, false] rfl rfl (by kernel_rfl) (fun _ _ _ h => h) (Or.inr ⟨by rfl, rfl⟩) ?_ ?_
                      rotate_left
                      · simp only [Act.put, List.setIfInBounds_toArray, List.set_cons_zero, List.set_cons_succ, i64_w, i32_w]
                        rfl
                      refine pure_ (i := 20) (N := (some 172)) (v := undef) (a' := ?_) #[true, true, true, true, true, true, true, true, true, true, true, true, true, true, true, true, true, true, true, true, true, false, false, false, false, false, false, false, false, false, false, false, false] rfl rfl (by kernel_rfl) (fun _ _ _ h => h) (Or.inr ⟨by rfl, rfl⟩) ?_ ?_
                      rotate_left
                      · simp only [Act.put, List.setIfInBounds_toArray, List.set_cons_zero, List.set_cons_succ, i64_w, i32_w]
                        rfl
                      refine pure_ (i := 21) (N := (some 173)) (v := undef) (a' := ?_) #[true, true, true, true, true, true, true, true, true, true, true, true, true, true, true, true, true, true, true, true, true, true, false, false, false, false, false, false, false, false, false, false, false] rfl rfl (by kernel_rfl) (fun _ _ _ h => h) (Or.inr ⟨by rfl, rfl⟩) ?_ ?_
                      rotate_left
                      · simp only [Act.put, List.setIfInBounds_toArray, List.set_cons_zero, List.set_cons_succ, i64_w, i32_w]
                        rfl
                      refine pure_ (i := 22) (N := (some 174)) (v := ?_) (a' := ?_) #[true, true, true, true, true, true, true, true, true, true, true, true, true, true, true, true, true, true, true, true, true, true, true, false, false, false, false, false, false, false, false, false, false] rfl rfl (by kernel_rfl) (fun _ _ _ h => h) (Or.inl ⟨by rfl, ?_⟩) ?_ ?_
                      rotate_left
                      · intro w'
                        go_simp
                        first | done | (with_reducible rfl)
                      rotate_left
                      · simp only [Act.put, List.setIfInBounds_toArray, List.set_cons_zero, List.set_cons_succ, i64_w, i32_w]
                        rfl
                      refine pure_ (i := 23) (N := (some 175)) (v := ?_) (a' := ?_) #[true, true, true, true, true, true, true, true, true, true, true, true, true, true, true, true, true, true, true, true, true, true, true, true, false, false, false, false, false, false, false, false, false] rfl rfl (by kernel_rfl) (fun _ _ _ h => h) (Or.inl ⟨by rfl, ?_⟩) ?_ ?_
                      rotate_left
                      · intro w'
                        go_simp
                        first | done | (with_reducible rfl)
                      rotate_left
                      · simp only [Act.put, List.setIfInBounds_toArray, List.set_cons_zero, List.set_cons_succ, i64_w, i32_w]
                        rfl
                      refine pure_ (i := 24) (N := (some 176)) (v := ?_) (a' := ?_) #[true, true, true, true, true, true, true, true, true, true, true, true, true, true, true, true, true, true, true, true, true, true, true, true, true, false, false, false, false, false, false, false, false] rfl rfl (by kernel_rfl) (fun _ _ _ h => h) (Or.inl ⟨by rfl, ?_⟩) ?_ ?_
                      rotate_left
                      · intro w'
                        go_simp
                        first | done | (with_reducible rfl)
                      rotate_left
                      · simp only [Act.put, List.setIfInBounds_toArray, List.set_cons_zero, List.set_cons_succ, i64_w, i32_w]
                        rfl
                      refine pure_ (i := 25) (N := (some 177)) (v := ?_) (a' := ?_) #[true, true, true, true, true, true, true, true, true, true, true, true, true, true, true, true, true, true, true, true, true, true, true, true, true, true, false, false, false, false, false, false, false] rfl rfl (by kernel_rfl) (fun _ _ _ h => h) (Or.inl ⟨by rfl, ?_⟩) ?_ ?_
                      rotate_left
                      · intro w'
                        go_simp
                        first | done | (with_reducible rfl)
                      rotate_left
                      · simp only [Act.put, List.setIfInBounds_toArray, List.set_cons_zero, List.set_cons_succ, i64_w, i32_w]
                        rfl
                      refine pure_ (i := 26) (N := (some 178)) (v := ?_) (a' := ?_) #[true, true, true, true, true, true, true, true, true, true, true, true, true, true, true, true, true, true, true, true, true, true, true, true, true, true, true, false, false, false, false, false, false] rfl rfl (by kernel_rfl) (fun _ _ _ h => h) (Or.inl ⟨by rfl, ?_⟩) ?_ ?_
                      rotate_left
                      · intro w'
                        go_simp
                        first | done | (with_reducible rfl)
                      rotate_left
                      · simp only [Act.put, List.setIfInBounds_toArray, List.set_cons_zero, List.set_cons_succ, i64_w, i32_w]
                        rfl
                      refine pure_ (i := 27) (N := (some 179)) (v := ?_) (a' := ?_) #[true, true, true, true, true, true, true, true, true, true, true, true, true, true, true, true, true, true, true, true, true, true, true, true, true, true, true, true, false, false, false, false, false] rfl rfl (by kernel_rfl) (fun _ _ _ h => h) (Or.inl ⟨by rfl, ?_⟩) ?_ ?_
                      rotate_left
                      · intro w'
                        go_simp
                        first | done | (with_reducible rfl)
                      rotate_left
                      · simp only [Act.put, List.setIfInBounds_toArray, List.set_cons_zero, List.set_cons_succ, i64_w, i32_w]
                        rfl
                      refine take_ (i := 28) (N := (some 180)) (v := ?_) (a' := ?_) #[true, true, true, true, true, true, true, true, true, true, true, true, true, true, true, true, true, true, true, true, true, true, true, true, true, true, true, true, true, false, false, false, false] rfl rfl (by kernel_rfl) (fun _ _ _ h => h) (Or.inl ⟨by rfl, ?_⟩) hHeld ?_ ?_
                      rotate_left
                      · intro w' s0
                        (try dsimp only at s0)
                        (try obtain ⟨_, s1, s2, s3, s4, s5, s6⟩ := s0)
                        (try obtain ⟨_, s1, s2, s3, s4, s5⟩ := s0)
                        (try obtain ⟨_, s1, s2, s3, s4⟩ := s0)
                        go_simp
                        first | done | (with_reducible rfl)
                      rotate_left
                      · simp only [Act.put, List.setIfInBounds_toArray, List.set_cons_zero, List.set_cons_succ, i64_w, i32_w]
                        rfl
                      refine pure_ (i := 29) (N := (some 181)) (v := ?_) (a' := ?_) #[true, true, true, true, true, true, true, true, true, true, true, true, true, true, true, true, true, true, true, true, true, true, true, true, true, true, true, true, true, true, false, false, false] rfl rfl (by kernel_rfl) (fun _ _ _ h => h) (Or.inl ⟨by rfl, ?_⟩) ?_ ?_
                      rotate_left
                      · intro w'
                        go_simp
                        first | done | (with_reducible rfl)
                      rotate_left
                      · simp only [Act.put, List.setIfInBounds_toArray, List.set_cons_zero, List.set_cons_succ, i64_w, i32_w]
                        rfl
                      refine pure_ (i := 30) (N := (some 182)) (v := ?_) (a' := ?_) #[true, true, true, true, true, true, true, true, true, true, true, true, true, true, true, true, true, true, true, true, true, true, true, true, true, true, true, true, true, true, true, false, false] rfl rfl (by kernel_rfl) (fun _ _ _ h => h) (Or.inl ⟨by rfl, ?_⟩) ?_ ?_
                      rotate_left
                      · intro w'
                        go_simp
                        first | done | (with_reducible rfl)
                      rotate_left
                      · simp only [Act.put, List.setIfInBounds_toArray, List.set_cons_zero, List.set_cons_succ, i64_w, i32_w]
                        rfl
                      refine pure_ (i := 31) (N := (some 183)) (v := ?_) (a' := ?_) #[true, true, true, true, true, true, true, true, true, true, true, true, true, true, true, true, true, true, true, true, true, true, true, true, true, true, true, true, true, true, true, true, false] rfl rfl (by kernel_rfl) (fun _ _ _ h => h) (Or.inl ⟨by rfl, ?_⟩) ?_ ?_
                      rotate_left
                      · intro w'
                        go_simp
                        first | done | (with_reducible rfl)
                      rotate_left
                      · simp only [Act.put, List.setIfInBounds_toArray, List.set_cons_zero, List.set_cons_succ, i64_w, i32_w]
                        rfl
                      refine pure_ (i := 32) (N := (some 184)) (v := ?_) (a' := ?_) #[true, true, true, true, true, true, true, true, true, true, true, true, true, true, true, true, true, true, true, true, true, true, true, true, true, true, true, true, true, true, true, true, true] rfl rfl (by kernel_rfl) (fun _ _ _ h => h) (Or.inl ⟨by rfl, ?_⟩) ?_ ?_
                      rotate_left
                      · intro w'
                        go_simp
                        first | done | (with_reducible rfl)
                      rotate_left
                      · simp only [Act.put, List.setIfInBounds_toArray, List.set_cons_zero, List.set_cons_succ, i64_w, i32_w]
                        rfl
                      refine done_ (by kernel_rfl) ?_
                      have HBB := Aside0.mk hHeld.1
                      go_wp2
                      go_roundw
                      case rel => exact ⟨i + 1, v, [], ls, by go_num, ⟨by omega⟩, ⟨Kd.R_below HLa.out HBB.out⟩, ⟨HQa.out.below HBB.out⟩, HH, HP, ⟨by rw [HME.out]; have := HLN.out; have := HK5.out; omega⟩, ⟨below_then HBa.out HSa.out HBB.out⟩⟩
                      case measure => simp [intOf]; omega
                  · have hok : decide (0 < h.length) = true := by rw [HHL.out]; exact decide_eq_true (by omega)
                    have HOK := Aside0.mk hok
                    have HMIN := Aside0.mk hmin
                    clear hok hmin
                    rcases hcond with hc1 | ⟨hc1, hc2⟩
                    all_goals
                      go_upto_region 31 with (first
                        | (go_at_call 10; refine (plays_first HL.out HME.out HF.out).mono ?_; rintro e w4 ⟨rfl, hb⟩; have HB4 := Aside0.mk (below_then HB.out HNb.out hb); have HL4 := Aside0.mk (Kd.R_below HL.out hb); have HQ4 := Aside0.mk (HQ.out.below hb); have HS4 := Aside0.mk (Nat.le_trans HNb.out hb.size); clear hb hs0 hs1)
                        | (go_at_call 13; refine (plays_peek HQ4.out HXE.out HOK.out).mono ?_; rintro e w5 ⟨rfl, hb⟩; have HB5 := Aside0.mk (below_then HB4.out HS4.out hb); have HL5 := Aside0.mk (Kd.R_below HL4.out hb); have HQ5 := Aside0.mk (HQ4.out.below hb); have HS5 := Aside0.mk (Nat.le_trans HS4.out hb.size); clear hb))
                      obtain ⟨wa, hwa⟩ : ∃ wa, w5.alloc (.cells #[.int .i64 x.f0, .int .u64 x.f1] 31) = wa := ⟨_, rfl⟩
                      rw [hwa]
                      have hz0 : wa.cell? ⟨w5.heap.size, 0, none⟩ = some (.int .i64 x.f0) := by rw [← hwa]; exact (blk_cell (heap_alloc_new w5 _) 0).trans rfl
                      have hz1 : wa.cell? ⟨w5.heap.size, 1, none⟩ = some (.int .u64 x.f1) := by rw [← hwa]; exact (blk_cell (heap_alloc_new w5 _) 1).trans rfl
                      have HLa : Aside0 (Kd.R k28 28 wa N (fun _ => True) (.slice Al m cl) ls) := ⟨by rw [← hwa]; exact Kd.R_alloc HL5.out _⟩
                      have HQa : Aside0 (IsQ wa N b v h) := ⟨by rw [← hwa]; exact HQ5.out.alloc _⟩
                      have HBa : Aside0 (Below N w wa) := ⟨by rw [← hwa]; exact HB5.out.alloc HS5.out _⟩
                      have HSa : Aside0 (N ≤ wa.heap.size) := ⟨by rw [← hwa]; exact Nat.le_trans HS5.out (by simp)⟩
                      obtain ⟨zs, hzs⟩ : ∃ zs, w5.heap.size = zs := ⟨_, rfl⟩
                      rw [hzs] at hz0 hz1 ⊢
                      clear hwa hzs
                      have hjm' : (j : Int) < (m : Int) := by omega
                      have hj00 : 0 ≤ (j : Int) := by omega
                      have hj01 : decide ((j : Int) < 0) = false := decide_eq_false (by omega)
                      have hCl := (Kd.R_reads' HLa.out).2.2
                      rw [HME.out] at hCl
                      obtain ⟨al, rfl, hy0, hy1⟩ := at_T28 hCl (j : Int) (by omega) (by omega)
                      have hxy : x = c28 (rd_T28 ls (j : Int)) := by
                        rw [← HXE.out, best_first HH.out HP.out (j := j) (by rw [HME.out]; exact hjm) (by rw [HME.out]; exact HMIN.out)]
                        simp [rd_T28]
                      obtain ⟨y, hy⟩ : ∃ y, rd_T28 ls (j : Int) = y := ⟨_, rfl⟩
                      rw [hy] at hy0 hy1 hxy
                      simp only [Int.toNat_natCast] at hy0 hy1
                      have hz0' : wa.cell? ⟨zs, 0, none⟩ = some (.int .i64 y.f0) := by rw [hz0, hxy]; rfl
                      have hz1' : wa.cell? ⟨zs, 1, none⟩ = some (.int .u64 y.f1) := by rw [hz1, hxy]; rfl
                      clear hxy hy hCl hz0 hz1
                      refine start_ (n := 33) (S := fun w' => Below wa.heap.size wa w' ∧ w'.cell? ⟨zs, 0, none⟩ = some (.int .i64 y.f0) ∧ w'.cell? ⟨zs, 1, none⟩ = some (.int .u64 y.f1) ∧ w'.cell? (al.add (j * 2)) = some (.int .i64 y.f0) ∧ w'.cell? ⟨(al.add (j * 2)).block, (al.add (j * 2)).off + 1, none⟩ = some (.int .u64 y.f1)) (ds := []) #[false, false, false, false, false, false, false, false, false, false, false, false, false, false, false, false, false, false, false, false, false, false, false, false, false, false, false, false, false, false, false, false, false] (by kernel_rfl) rfl rfl ⟨below_drew (Below.refl _ _), hz0', hz1', hy0, hy1⟩ (fun hHeld => ?_)
                      refine pure_ (i := 0) (N := (some 152)) (v := ?_) (a' := ?_) #[true, false, false, false, false, false, false, false, false, false, false, false, false, false, false, false, false, false, false, false, false, false, false, false, false, false, false, false, false, false, false, false, false] rfl rfl (by kernel_rfl) (fun _ _ _ h => h) (Or.inl ⟨by rfl, ?_⟩) ?_ ?_
                      rotate_left
                      · intro w'
                        go_simp
                        first | done | (with_reducible rfl)
                      rotate_left
                      · simp only [Act.put, List.setIfInBounds_toArray, List.set_cons_zero, List.set_cons_succ, i64_w, i32_w]
                        rfl
                      refine pure_ (i := 2) (N := (some 154)) (v := ?_) (a' := ?_) #[true, false, true, false, false, false, false, false, false, false, false, false, false, false, false, false, false, false, false, false, false, false, false, false, false, false, false, false, false, false, false, false, false] rfl rfl (by kernel_rfl) (fun _ _ _ h => h) (Or.inl ⟨by rfl, ?_⟩) ?_ ?_
                      rotate_left
                      · intro w'
                        go_simp
                        first | done | (with_reducible rfl)
                      rotate_left
                      · simp only [Act.put, List.setIfInBounds_toArray, List.set_cons_zero, List.set_cons_succ, i64_w, i32_w]
                        rfl
                      refine pure_ (i := 3) (N := (some 155)) (v := ?_) (a' := ?_) #[true, false, true, true, false, false, false, false, false, false, false, false, false, false, false, false, false, false, false, false, false, false, false, false, false, false, false, false, false, false, false, false, false] rfl rfl (by kernel_rfl) (fun _ _ _ h => h) (Or.inl ⟨by rfl, ?_⟩) ?_ ?_
                      rotate_left
                      · intro w'
                        go_simp
                        first | done | (with_reducible rfl)
                      rotate_left
                      · simp only [Act.put, List.setIfInBounds_toArray, List.set_cons_zero, List.set_cons_succ, i64_w, i32_w]
                        rfl
                      refine one_ (i := 1) (N := (some 153)) #[true, true, true, true, false, false, false, false, false, false, false, false, false, false, false, false, false, false, false, false, false, false, false, false, false, false, false, false, false, false, false, false, false] rfl rfl (by kernel_rfl) (by decide) (fun K hK => ?_)
                      refine goes_ Try.func14 (by kernel_rfl) rfl #[.pointer (some ⟨b, 0, none⟩)] (by rfl) rfl rfl (by (try simp only [List.map_toArray, List.map_cons, List.map_nil]); first | done | rfl) ?_
                      refine (plays_len HQa.out.drew HHL.out).mono ?_
                      rintro e w7 ⟨rfl, rfl⟩
                      refine ⟨_, rfl, ?_⟩
                      refine hK.out _ _ hHeld (fun hHeld => ?_)
                      clear hK K
                      refine norm_ (a' := ?_) ?_ ?_
                      rotate_left
                      · show Act.put _ (some 153) _ = _
                        simp only [Act.put, List.setIfInBounds_toArray, List.set_cons_zero, List.set_cons_succ, i64_w, i32_w]
                        rfl
                      refine pure_ (i := 4) (N := (some 156)) (v := ?_) (a' := ?_) #[true, true, true, true, true, false, false, false, false, false, false, false, false, false, false, false, false, false, false, false, false, false, false, false, false, false, false, false, false, false, false, false, false] rfl rfl (by kernel_rfl) (fun _ _ _ h => h) (Or.inl ⟨by rfl, ?_⟩) ?_ ?_
                      rotate_left
                      · intro w'
                        go_simp
                        first | done | (with_reducible rfl)
                      rotate_left
                      · simp only [Act.put, List.setIfInBounds_toArray, List.set_cons_zero, List.set_cons_succ, i64_w, i32_w]
                        rfl
                      refine pure_ (i := 5) (N := (some 157)) (v := ?_) (a' := ?_) #[true, true, true, true, true, true, false, false, false, false, false, false, false, false, false, false, false, false, false, false, false, false, false, false, false, false, false, false, false, false, false, false, false] rfl rfl (by kernel_rfl) (fun _ _ _ h => h) (Or.inl ⟨by rfl, ?_⟩) ?_ ?_
                      rotate_left
                      · intro w'
                        go_simp
                        first | done | (with_reducible rfl)
                      rotate_left
                      · simp only [Act.put, List.setIfInBounds_toArray, List.set_cons_zero, List.set_cons_succ, i64_w, i32_w]
                        rfl
                      refine pure_ (i := 6) (N := (some 158)) (v := ?_) (a' := ?_) #[true, true, true, true, true, true, true, false, false, false, false, false, false, false, false, false, false, false, false, false, false, false, false, false, false, false, false, false, false, false, false, false, false] rfl rfl (by kernel_rfl) (fun _ _ _ h => h) (Or.inl ⟨by rfl, ?_⟩) ?_ ?_
                      rotate_left
                      · intro w'
                        go_simp
                        first | done | (with_reducible rfl)
                      rotate_left
                      · simp only [Act.put, List.setIfInBounds_toArray, List.set_cons_zero, List.set_cons_succ, i64_w, i32_w]
                        rfl
                      refine pure_ (i := 7) (N := (some 159)) (v := ?_) (a' := ?_) #[true, true, true, true, true, true, true, true, false, false, false, false, false, false, false, false, false, false, false, false, false, false, false, false, false, false, false, false, false, false, false, false, false] rfl rfl (by kernel_rfl) (fun _ _ _ h => h) (Or.inl ⟨by rfl, ?_⟩) ?_ ?_
                      rotate_left
                      · intro w'
                        go_simp
                        first | done | (with_reducible rfl)
                      rotate_left
                      · simp only [Act.put, List.setIfInBounds_toArray, List.set_cons_zero, List.set_cons_succ, i64_w, i32_w]
                        rfl
                      refine pure_ (i := 8) (N := (some 160)) (v := ?_) (a' := ?_) #[true, true, true, true, true, true, true, true, true, false, false, false, false, false, false, false, false, false, false, false, false, false, false, false, false, false, false, false, false, false, false, false, false] rfl rfl (by kernel_rfl) (fun _ _ _ h => h) (Or.inl ⟨by rfl, ?_⟩) ?_ ?_
                      rotate_left
                      · intro w'
                        go_simp
                        first | done | (with_reducible rfl)
                      rotate_left
                      · simp only [Act.put, List.setIfInBounds_toArray, List.set_cons_zero, List.set_cons_succ, i64_w, i32_w]
                        rfl
                      refine pure_ (i := 9) (N := (some 161)) (v := ?_) (a' := ?_) #[true, true, true, true, true, true, true, true, true, true, false, false, false, false, false, false, false, false, false, false, false, false, false, false, false, false, false, false, false, false, false, false, false] rfl rfl (by kernel_rfl) (fun _ _ _ h => h) (Or.inl ⟨by rfl, ?_⟩) ?_ ?_
                      rotate_left
                      · intro w'
                        go_simp
                        first | done | (with_reducible rfl)
                      rotate_left
                      · simp only [Act.put, List.setIfInBounds_toArray, List.set_cons_zero, List.set_cons_succ, i64_w, i32_w]
                        rfl
                      refine pure_ (i := 10) (N := (some 162)) (v := ?_) (a' := ?_) #[true, true, true, true, true, true, true, true, true, true, true, false, false, false, false, false, false, false, false, false, false, false, false, false, false, false, false, false, false, false, false, false, false] rfl rfl (by kernel_rfl) (fun _ _ _ h => h) (Or.inl ⟨by rfl, ?_⟩) ?_ ?_
                      rotate_left
                      · intro w'
                        go_simp
                        first | done | (with_reducible rfl)
                      rotate_left
                      · simp only [Act.put, List.setIfInBounds_toArray, List.set_cons_zero, List.set_cons_succ, i64_w, i32_w]
                        rfl
                      refine pure_ (i := 11) (N := (some 163)) (v := ?_) (a' := ?_) #[true, true, true, true, true, true, true, true, true, true, true, true, false, false, false, false, false, false, false, false, false, false, false, false, false, false, false, false, false, false, false, false, false] rfl rfl (by kernel_rfl) (fun _ _ _ h => h) (Or.inl ⟨by rfl, ?_⟩) ?_ ?_
                      rotate_left
                      · intro w'
                        go_simp
                        first | done | (with_reducible rfl)
                      rotate_left
                      · simp only [Act.put, List.setIfInBounds_toArray, List.set_cons_zero, List.set_cons_succ, i64_w, i32_w]
                        rfl
                      refine pure_ (i := 12) (N := (some 164)) (v := ?_) (a' := ?_) #[true, true, true, true, true, true, true, true, true, true, true, true, true, false, false, false, false, false, false, false, false, false, false, false, false, false, false, false, false, false, false, false, false] rfl rfl (by kernel_rfl) (fun _ _ _ h => h) (Or.inl ⟨by rfl, ?_⟩) ?_ ?_
                      rotate_left
                      · intro w'
                        go_simp
                        first | done | (with_reducible rfl)
                      rotate_left
                      · simp only [Act.put, List.setIfInBounds_toArray, List.set_cons_zero, List.set_cons_succ, i64_w, i32_w]
                        rfl
                      refine pure_ (i := 13) (N := (some 165)) (v := ?_) (a' := ?_) #[true, true, true, true, true, true, true, true, true, true, true, true, true, true, false, false, false, false, false, false, false, false, false, false, false, false, false, false, false, false, false, false, false] rfl rfl (by kernel_rfl) (fun _ _ _ h => h) (Or.inl ⟨by rfl, ?_⟩) ?_ ?_
                      rotate_left
                      · intro w'
                        go_simp
                        first | done | (with_reducible rfl)
                      rotate_left
                      · simp only [Act.put, List.setIfInBounds_toArray, List.set_cons_zero, List.set_cons_succ, i64_w, i32_w]
                        rfl
                      refine pure_ (i := 14) (N := (some 166)) (v := ?_) (a' := ?_) #[true, true, true, true, true, true, true, true, true, true, true, true, true, true, true, false, false, false, false, false, false, false, false, false, false, false, false, false, false, false, false, false, false] rfl rfl (by kernel_rfl) (fun _ _ _ h => h) (Or.inl ⟨by rfl, ?_⟩) ?_ ?_
                      rotate_left
                      · intro w'
                        go_simp
                        first | done | (with_reducible rfl)
                      rotate_left
                      · simp only [Act.put, List.setIfInBounds_toArray, List.set_cons_zero, List.set_cons_succ, i64_w, i32_w]
                        rfl
                      refine take_ (i := 15) (N := (some 167)) (v := ?_) (a' := ?_) #[true, true, true, true, true, true, true, true, true, true, true, true, true, true, true, true, false, false, false, false, false, false, false, false, false, false, false, false, false, false, false, false, false] rfl rfl (by kernel_rfl) (fun _ _ _ h => h) (Or.inl ⟨by rfl, ?_⟩) hHeld ?_ ?_
                      rotate_left
                      · intro w' s0
                        (try dsimp only at s0)
                        (try obtain ⟨_, s1, s2, s3, s4, s5, s6⟩ := s0)
                        (try obtain ⟨_, s1, s2, s3, s4, s5⟩ := s0)
                        (try obtain ⟨_, s1, s2, s3, s4⟩ := s0)
                        go_simp
                        first | done | (with_reducible rfl)
                      rotate_left
                      · simp only [Act.put, List.setIfInBounds_toArray, List.set_cons_zero, List.set_cons_succ, i64_w, i32_w]
                        rfl
                      refine pure_ (i := 16) (N := (some 168)) (v := ?_) (a' := ?_) #[true, true, true, true, true, true, true, true, true, true, true, true, true, true, true, true, true, false, false, false, false, false, false, false, false, false, false, false, false, false, false, false, false] rfl rfl (by kernel_rfl) (fun _ _ _ h => h) (Or.inl ⟨by rfl, ?_⟩) ?_ ?_
                      rotate_left
                      · intro w'
                        go_simp
                        first | done | (with_reducible rfl)
                      rotate_left
                      · simp only [Act.put, List.setIfInBounds_toArray, List.set_cons_zero, List.set_cons_succ, i64_w, i32_w]
                        rfl
                      refine pure_ (i := 17) (N := (some 169)) (v := ?_) (a' := ?_) #[true, true, true, true, true, true, true, true, true, true, true, true, true, true, true, true, true, true, false, false, false, false, false, false, false, false, false, false, false, false, false, false, false] rfl rfl (by kernel_rfl) (fun _ _ _ h => h) (Or.inl ⟨by rfl, ?_⟩) ?_ ?_
                      rotate_left
                      · intro w'
                        go_simp
                        first | done | (with_reducible rfl)
                      rotate_left
                      · simp only [Act.put, List.setIfInBounds_toArray, List.set_cons_zero, List.set_cons_succ, i64_w, i32_w]
                        rfl
                      refine pure_ (i := 18) (N := (some 170)) (v := ?_) (a' := ?_) #[true, true, true, true, true, true, true, true, true, true, true, true, true, true, true, true, true, true, true, false, false, false, false, false, false, false, false, false, false, false, false, false, false] rfl rfl (by kernel_rfl) (fun _ _ _ h => h) (Or.inl ⟨by rfl, ?_⟩) ?_ ?_
                      rotate_left
                      · intro w'
                        go_simp
                        first | done | (with_reducible rfl)
                      rotate_left
                      · simp only [Act.put, List.setIfInBounds_toArray, List.set_cons_zero, List.set_cons_succ, i64_w, i32_w]
                        rfl
                      refine take_ (i := 19) (N := (some 171)) (v := ?_) (a' := ?_) #[true, true, true, true, true, true, true, true, true, true, true, true, true, true, true, true, true, true, true, true, false, false, false, false, false, false, false, false, false, false, false, false, false] rfl rfl (by kernel_rfl) (fun _ _ _ h => h) (Or.inl ⟨by rfl, ?_⟩) hHeld ?_ ?_
                      rotate_left
                      · intro w' s0
                        (try dsimp only at s0)
                        (try obtain ⟨_, s1, s2, s3, s4, s5, s6⟩ := s0)
                        (try obtain ⟨_, s1, s2, s3, s4, s5⟩ := s0)
                        (try obtain ⟨_, s1, s2, s3, s4⟩ := s0)
                        go_simp
                        first | done | (with_reducible rfl)
                      rotate_left
                      · simp only [Act.put, List.setIfInBounds_toArray, List.set_cons_zero, List.set_cons_succ, i64_w, i32_w]
                        rfl
                      refine one_ (i := 20) (N := (some 172)) #[true, true, true, true, true, true, true, true, true, true, true, true, true, true, true, true, true, true, true, true, true, false, false, false, false, false, false, false, false, false, false, false, false] rfl rfl (by kernel_rfl) (by decide) (fun K hK => ?_)
                      refine goes_ Try.func7 (by kernel_rfl) rfl #[.agg #[.int .i64 y.f0, .int .u64 y.f1]] (by rfl) rfl rfl (by (try simp only [List.map_toArray, List.map_cons, List.map_nil]); first | done | rfl) ?_
                      refine (forebearlaw02_item.calls y.f0 y.f1 y.f0 y.f1 _ rfl).mono ?_
                      rintro e w7 ⟨rfl, hb⟩
                      refine ⟨_, rfl, ?_⟩
                      refine hK.out _ _ ⟨⟨hb.os, hb.tape, hb.output, hb.size, hb.block⟩, pw_cell_below hb hz0', pw_cell_below hb hz1', pw_cell_below hb hy0, pw_cell_below hb hy1⟩ (fun hHeld => ?_)
                      clear hK K
                      refine norm_ (a' := ?_) ?_ ?_
                      rotate_left
                      · show Act.put _ (some 172) _ = _
                        simp only [Act.put, List.setIfInBounds_toArray, List.set_cons_zero, List.set_cons_succ, i64_w, i32_w]
                        rfl
                      refine pure_ (i := 21) (N := (some 173)) (v := ?_) (a' := ?_) #[true, true, true, true, true, true, true, true, true, true, true, true, true, true, true, true, true, true, true, true, true, true, false, false, false, false, false, false, false, false, false, false, false] rfl rfl (by kernel_rfl) (fun _ _ _ h => h) (Or.inl ⟨by rfl, ?_⟩) ?_ ?_
                      rotate_left
                      · intro w'
                        go_simp
                        first | done | (with_reducible rfl)
                      rotate_left
                      · simp only [Act.put, List.setIfInBounds_toArray, List.set_cons_zero, List.set_cons_succ, i64_w, i32_w]
                        rfl
                      refine pure_ (i := 22) (N := (some 174)) (v := ?_) (a' := ?_) #[true, true, true, true, true, true, true, true, true, true, true, true, true, true, true, true, true, true, true, true, true, true, true, false, false, false, false, false, false, false, false, false, false] rfl rfl (by kernel_rfl) (fun _ _ _ h => h) (Or.inl ⟨by rfl, ?_⟩) ?_ ?_
                      rotate_left
                      · intro w'
                        go_simp
                        first | done | (with_reducible rfl)
                      rotate_left
                      · simp only [Act.put, List.setIfInBounds_toArray, List.set_cons_zero, List.set_cons_succ, i64_w, i32_w]
                        rfl
                      refine pure_ (i := 23) (N := (some 175)) (v := ?_) (a' := ?_) #[true, true, true, true, true, true, true, true, true, true, true, true, true, true, true, true, true, true, true, true, true, true, true, true, false, false, false, false, false, false, false, false, false] rfl rfl (by kernel_rfl) (fun _ _ _ h => h) (Or.inl ⟨by rfl, ?_⟩) ?_ ?_
                      rotate_left
                      · intro w'
                        go_simp
                        first | done | (with_reducible rfl)
                      rotate_left
                      · simp only [Act.put, List.setIfInBounds_toArray, List.set_cons_zero, List.set_cons_succ, i64_w, i32_w]
                        rfl
                      refine pure_ (i := 24) (N := (some 176)) (v := ?_) (a' := ?_) #[true, true, true, true, true, true, true, true, true, true, true, true, true, true, true, true, true, true, true, true, true, true, true, true, true, false, false, false, false, false, false, false, false] rfl rfl (by kernel_rfl) (fun _ _ _ h => h) (Or.inl ⟨by rfl, ?_⟩) ?_ ?_
                      rotate_left
                      · intro w'
                        go_simp
                        first | done | (with_reducible rfl)
                      rotate_left
                      · simp only [Act.put, List.setIfInBounds_toArray, List.set_cons_zero, List.set_cons_succ, i64_w, i32_w]
                        rfl
                      refine pure_ (i := 25) (N := (some 177)) (v := ?_) (a' := ?_) #[true, true, true, true, true, true, true, true, true, true, true, true, true, true, true, true, true, true, true, true, true, true, true, true, true, true, false, false, false, false, false, false, false] rfl rfl (by kernel_rfl) (fun _ _ _ h => h) (Or.inl ⟨by rfl, ?_⟩) ?_ ?_
                      rotate_left
                      · intro w'
                        go_simp
                        first | done | (with_reducible rfl)
                      rotate_left
                      · simp only [Act.put, List.setIfInBounds_toArray, List.set_cons_zero, List.set_cons_succ, i64_w, i32_w]
                        rfl
                      refine pure_ (i := 26) (N := (some 178)) (v := ?_) (a' := ?_) #[true, true, true, true, true, true, true, true, true, true, true, true, true, true, true, true, true, true, true, true, true, true, true, true, true, true, true, false, false, false, false, false, false] rfl rfl (by kernel_rfl) (fun _ _ _ h => h) (Or.inl ⟨by rfl, ?_⟩) ?_ ?_
                      rotate_left
                      · intro w'
                        go_simp
                        first | done | (with_reducible rfl)
                      rotate_left
                      · simp only [Act.put, List.setIfInBounds_toArray, List.set_cons_zero, List.set_cons_succ, i64_w, i32_w]
                        rfl
                      refine pure_ (i := 27) (N := (some 179)) (v := ?_) (a' := ?_) #[true, true, true, true, true, true, true, true, true, true, true, true, true, true, true, true, true, true, true, true, true, true, true, true, true, true, true, true, false, false, false, false, false] rfl rfl (by kernel_rfl) (fun _ _ _ h => h) (Or.inl ⟨by rfl, ?_⟩) ?_ ?_
                      rotate_left
                      · intro w'
                        go_simp
                        first | done | (with_reducible rfl)
                      rotate_left
                      · simp only [Act.put, List.setIfInBounds_toArray, List.set_cons_zero, List.set_cons_succ, i64_w, i32_w]
                        rfl
                      refine pure_ (i := 28) (N := (some 180)) (v := undef) (a' := ?_) #[true, true, true, true, true, true, true, true, true, true, true, true, true, true, true, true, true, true, true, true, true, true, true, true, true, true, true, true, true, false, false, false, false] rfl rfl (by kernel_rfl) (fun _ _ _ h => h) (Or.inr ⟨by rfl, rfl⟩) ?_ ?_
                      rotate_left
                      · simp only [Act.put, List.setIfInBounds_toArray, List.set_cons_zero, List.set_cons_succ, i64_w, i32_w]
                        rfl
                      refine pure_ (i := 29) (N := (some 181)) (v := undef) (a' := ?_) #[true, true, true, true, true, true, true, true, true, true, true, true, true, true, true, true, true, true, true, true, true, true, true, true, true, true, true, true, true, true, false, false, false] rfl rfl (by kernel_rfl) (fun _ _ _ h => h) (Or.inr ⟨by rfl, rfl⟩) ?_ ?_
                      rotate_left
                      · simp only [Act.put, List.setIfInBounds_toArray, List.set_cons_zero, List.set_cons_succ, i64_w, i32_w]
                        rfl
                      refine pure_ (i := 30) (N := (some 182)) (v := undef) (a' := ?_) #[true, true, true, true, true, true, true, true, true, true, true, true, true, true, true, true, true, true, true, true, true, true, true, true, true, true, true, true, true, true, true, false, false] rfl rfl (by kernel_rfl) (fun _ _ _ h => h) (Or.inr ⟨by rfl, rfl⟩) ?_ ?_
                      rotate_left
                      · simp only [Act.put, List.setIfInBounds_toArray, List.set_cons_zero, List.set_cons_succ, i64_w, i32_w]
                        rfl
                      refine pure_ (i := 31) (N := (some 183)) (v := ?_) (a' := ?_) #[true, true, true, true, true, true, true, true, true, true, true, true, true, true, true, true, true, true, true, true, true, true, true, true, true, true, true, true, true, true, true, true, false] rfl rfl (by kernel_rfl) (fun _ _ _ h => h) (Or.inl ⟨by rfl, ?_⟩) ?_ ?_
                      rotate_left
                      · intro w'
                        go_simp
                        first | done | (with_reducible rfl)
                      rotate_left
                      · simp only [Act.put, List.setIfInBounds_toArray, List.set_cons_zero, List.set_cons_succ, i64_w, i32_w]
                        rfl
                      refine pure_ (i := 32) (N := (some 184)) (v := ?_) (a' := ?_) #[true, true, true, true, true, true, true, true, true, true, true, true, true, true, true, true, true, true, true, true, true, true, true, true, true, true, true, true, true, true, true, true, true] rfl rfl (by kernel_rfl) (fun _ _ _ h => h) (Or.inl ⟨by rfl, ?_⟩) ?_ ?_
                      rotate_left
                      · intro w'
                        go_simp
                        first | done | (with_reducible rfl)
                      rotate_left
                      · simp only [Act.put, List.setIfInBounds_toArray, List.set_cons_zero, List.set_cons_succ, i64_w, i32_w]
                        rfl
                      refine done_ (by kernel_rfl) ?_
                      have HBB := Aside0.mk hHeld.1
                      go_wp2
                      go_roundw
                      case rel => exact ⟨i + 1, v, h, ls, by go_num, ⟨by omega⟩, ⟨Kd.R_below HLa.out HBB.out⟩, ⟨HQa.out.below HBB.out⟩, HH, HP, ⟨by rw [HME.out]; have := HLN.out; have := HK5.out; omega⟩, ⟨below_then HBa.out HSa.out HBB.out⟩⟩
                      case measure => simp [intOf]; omega
            · go_wp2
              go_ret
              exact ⟨rfl, by have := HB.out; rw [← HNE.out] at this; exact this⟩
theorem plays_walk2 (W : World) (A : Option Addr) (c : Nat) (l : List S28) (A2 : Option Addr) (c2 : Nat) (sc : List S36) (_ : l.length * 16 ≤ 140737488351232 ∧ l.length ≤ 9223372036854775807 ∧ ∀ y ∈ l, gS28 y) (hr : Kd.C k28 W A l.length l) (hc : l.length ≤ c)
    (_ : sc.length * 32 ≤ 140737488351232 ∧ sc.length ≤ 9223372036854775807 ∧ ∀ y ∈ sc, gS36 y) (hr2 : Kd.C k36 W A2 sc.length sc) (hc2 : sc.length ≤ c2) :
    Calls Try.prog 3 #[.slice A l.length c, .slice A2 sc.length c2] W fun e w' => e = .returned (.bool true) ∧ Below W.heap.size W w' := plays_walk A c l A2 c2 sc W hr hc hr2 hc2
end Go.Proofs.Ytpobioiagafpgaa.PQueuePlays

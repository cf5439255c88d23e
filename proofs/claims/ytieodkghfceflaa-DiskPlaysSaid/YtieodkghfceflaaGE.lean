/- The law's script, played. No condition. -/
import Derived.Test.YtieodkghfceflaaGD
set_option linter.unusedVariables false
set_option linter.unusedSimpArgs false
namespace Go.Proofs.Ytieodkghfceflaa.MD
open Go.Proofs.Ytieodkghfceflaa.Opening Go.Proofs.Ytieodkghfceflaa.Pure
open Go.RowKit Go.Proofs.YtieodkghfceflaaW.PrintWords Go.Proofs.YtieodkghfceflaaW.PrintLast Go.Proofs.YtieodkghfceflaaW.PrintMore
set_option maxRecDepth 100000 in
set_option maxHeartbeats 16000000 in
theorem plays_walk (w : World) (A : Option Addr) (c : Nat) (l : List S43) (hg : ∀ y ∈ l, gS43 y) (hr : Kd.C k43 w A l.length l) (hc : l.length ≤ c) :
    Calls Try.prog 4 #[.slice A l.length c] w fun e w' => e = .returned (.bool true) ∧ Below w.heap.size w w' := by
  have HG := Aside0.mk hg
  have HR := Aside0.mk hr
  have HC := Aside0.mk hc
  have HMX : Aside0 (l.length ≤ 9223372036854775807) := ⟨Kd.C_max hr⟩
  obtain ⟨nn, hnn⟩ : ∃ nn, l.length = nn := ⟨_, rfl⟩
  have HN := Aside0.mk hnn
  rw [hnn] at HR HMX ⊢
  clear hg hr hc hnn
  go_enter Try.func4, Try.ntmps4
  go_upto_region 5 with (first | (go_at_call 7; refine (awake_calls w).mono ?_; rintro e w1 ⟨rfl, hb⟩; have HB1 := Aside0.mk hb; clear hb) | (go_at_call 8; refine (new_calls w1 (B := w.heap.size) HB1.out.size).mono ?_; rintro e w2 ⟨d, mb, rfl, hD, hb⟩; have HB2 := Aside0.mk (below_then HB1.out HB1.out.size hb); have HD2 := Aside0.mk hD; clear hb hD; obtain ⟨w3, hw3⟩ : ∃ w3, w2.alloc (.cells #[.slice none 0 0, .int .i64 0, .bool false, .bool false, .int .i64 0, .int .i64 0] 39) = w3 := ⟨_, rfl⟩; have hz : w3.heap[w2.heap.size]? = some (.cells #[.slice none 0 0, .int .i64 0, .bool false, .bool false, .int .i64 0, .int .i64 0] 39 (0, 0)) := (by rw [← hw3]; exact heap_alloc_new w2 _); have HZ := Aside0.mk hz; have HB23 : Aside0 (Below w2.heap.size w2 w3) := ⟨by rw [← hw3]; exact below_alloc (Below.refl _ _) _⟩; have z0 : w3.cell? ⟨w2.heap.size, 0, none⟩ = some (.slice none 0 0) := (blk_cell hz 0).trans rfl; have z1 : w3.cell? ⟨w2.heap.size, 1, none⟩ = some (.int .i64 0) := (blk_cell hz 1).trans rfl; have z2 : w3.cell? ⟨w2.heap.size, 2, none⟩ = some (.bool false) := (blk_cell hz 2).trans rfl; have z3 : w3.cell? ⟨w2.heap.size, 3, none⟩ = some (.bool false) := (blk_cell hz 3).trans rfl; have z4 : w3.cell? ⟨w2.heap.size, 4, none⟩ = some (.int .i64 0) := (blk_cell hz 4).trans rfl; have z5 : w3.cell? ⟨w2.heap.size, 5, none⟩ = some (.int .i64 0) := (blk_cell hz 5).trans rfl; have zf0 : w3.frozen? ⟨w2.heap.size, 0, none⟩ = false := blk_frozen hz 0; have zf1 : w3.frozen? ⟨w2.heap.size, 1, none⟩ = false := blk_frozen hz 1; have zf2 : w3.frozen? ⟨w2.heap.size, 2, none⟩ = false := blk_frozen hz 2; have zf3 : w3.frozen? ⟨w2.heap.size, 3, none⟩ = false := blk_frozen hz 3; have zf4 : w3.frozen? ⟨w2.heap.size, 4, none⟩ = false := blk_frozen hz 4; have zf5 : w3.frozen? ⟨w2.heap.size, 5, none⟩ = false := blk_frozen hz 5; clear hz))
  obtain ⟨bm, hbm⟩ : ∃ bm, w2.heap.size = bm := ⟨_, rfl⟩
  obtain ⟨w4, hw4⟩ : ∃ w4, ((((((w3.setCell ⟨w2.heap.size, 0, none⟩ (.slice none 0 0)).setCell ⟨w2.heap.size, 1, none⟩ (.int .i64 0)).setCell ⟨w2.heap.size, 2, none⟩ (.bool false)).setCell ⟨w2.heap.size, 3, none⟩ (.bool false)).setCell ⟨w2.heap.size, 4, none⟩ (.int .i64 0)).setCell ⟨w2.heap.size, 5, none⟩ (.int .i64 0)) = w4 := ⟨_, rfl⟩
  rw [hw4]
  have HB4 : Aside0 (Below w2.heap.size w2 w4) := ⟨by rw [← hw4]; exact below6 HB23.out (Nat.le_refl _) _ _ _ _ _ _⟩
  have HP4 : Aside0 (Pair w4 w.heap.size d mb newD (.slice none 0 0) bm) := ⟨⟨_, HD2.out.below HB4.out, Kd.R_nil _ _ _ _ _, fun h => h⟩⟩
  have HX4 : Aside0 (w4.heap[bm]? = some (.cells #[.slice none 0 0, .int .i64 newD.writes, .bool newD.armed, .bool newD.dead, .int .i64 newD.after, .int .i64 newD.keep] 39 (0, 0))) := ⟨by rw [← hw4, ← hbm]; exact blk6 HZ.out _ _ _ _ _ _⟩
  have HBM : Aside0 (w.heap.size ≤ bm) := ⟨by rw [← hbm]; exact HB2.out.size⟩
  have HBB4 := Aside0.mk (below_then HB2.out HB2.out.size HB4.out)
  rw [hbm]
  clear hw4 hw3 hbm z0 z1 z2 z3 z4 z5 zf0 zf1 zf2 zf3 zf4 zf5
  go_wp2
  go_loopw [3, 5] (fun s3 s5 wr => ∃ (i d mb : Nat) (m : DS) (u : Value), s3 = .pointer (some ⟨d, 0, none⟩) ∧ s5 = .int .i64 i ∧ Aside0 (i ≤ nn) ∧ Aside0 (i ≤ 200) ∧ Aside0 (Pair wr w.heap.size d mb m u bm) ∧ Aside0 (Inv i m) ∧ Aside0 (Below w.heap.size w wr) ∧ Aside0 (wr.heap[bm]? = some (.cells #[u, .int .i64 m.writes, .bool m.armed, .bool m.dead, .int .i64 m.after, .int .i64 m.keep] 39 (0, 0)))) (fun s3 s5 wr => nn - (intOf s5).toNat)
  case atStart => exact ⟨0, d, mb, newD, .slice none 0 0, rfl, rfl, ⟨by omega⟩, ⟨by omega⟩, HP4, ⟨Inv.new⟩, HBB4, HX4⟩
  case round =>
    obtain ⟨i, d, mb, m, u, rfl, rfl, HI1, HI2, HP, HIV, HB, HX⟩ := hrel
    obtain ⟨O, hD, hR, hno⟩ := HP.out
    obtain ⟨Au, cu, hu⟩ := Kd.R_slice hR
    obtain ⟨nu, hnu⟩ : ∃ nu, m.files.length = nu := ⟨_, rfl⟩
    rw [hnu] at hu
    subst hu
    have HNU := Aside0.mk hnu
    clear hnu hno hR hD
    by_cases hlt : i < nn
    · by_cases h200 : i < 200
      · have d200 : decide ((i : Int) < 200) = true := decide_eq_true (by omega)
        have hil : i < l.length := by rw [HN.out]; exact hlt
        obtain ⟨x, hx⟩ : ∃ x, rd_T43 l (i : Int) = x := ⟨_, rfl⟩
        have HGX : Aside0 (gS43 x) := ⟨HG.out x (by rw [← hx]; unfold rd_T43; simp [hil])⟩
        obtain ⟨w5, hw5⟩ : ∃ w5, wr.drew = w5 := ⟨_, rfl⟩
        have HB5 : Aside0 (Below wr.heap.size wr w5) := ⟨by rw [← hw5]; exact below_drew (Below.refl _ _)⟩
        have HBW5 := Aside0.mk (below_then HB.out HB.out.size HB5.out)
        obtain ⟨ad, Ax, cx, hA, e0, e1, e2, e3, e4, e5, e6, hcx, hCx⟩ := at_T43 HR.out i hlt
        rw [hx] at e0 e1 e2 e3 e4 e5 e6 hcx hCx
        subst hA
        obtain ⟨nx, hnx⟩ : ∃ nx, x.f3.length = nx := ⟨_, rfl⟩
        have HPL := play_calls w w5 HBW5.out (HP.out.below HB5.out) HIV.out (by omega) x HGX.out (fun W hb => Kd.C_below hCx hb) hcx (blk_below HX.out HB5.out)
        unfold PlaySaid at HPL
        rw [hnx] at e3 HPL
        have HPL := Aside0.mk HPL
        have E0 := Aside0.mk e0
        have E1 := Aside0.mk e1
        have E2 := Aside0.mk e2
        have E3 := Aside0.mk e3
        have E4 := Aside0.mk e4
        have E5 := Aside0.mk e5
        have E6 := Aside0.mk e6
        have c0 := pw_cell_below HBW5.out e0
        have c1 := pw_cell_below HBW5.out e1
        have c2 := pw_cell_below HBW5.out e2
        have c3 := pw_cell_below HBW5.out e3
        have c4 := pw_cell_below HBW5.out e4
        have c5 := pw_cell_below HBW5.out e5
        have c6 := pw_cell_below HBW5.out e6
        have HX5 := Aside0.mk (blk_below HX.out HB5.out)
        have x0 : w5.cell? ⟨bm, 0, none⟩ = some (.slice Au nu cu) := (blk_cell HX5.out 0).trans rfl
        have x1 : w5.cell? ⟨bm, 1, none⟩ = some (.int .i64 m.writes) := (blk_cell HX5.out 1).trans rfl
        have x2 : w5.cell? ⟨bm, 2, none⟩ = some (.bool m.armed) := (blk_cell HX5.out 2).trans rfl
        have x3 : w5.cell? ⟨bm, 3, none⟩ = some (.bool m.dead) := (blk_cell HX5.out 3).trans rfl
        have x4 : w5.cell? ⟨bm, 4, none⟩ = some (.int .i64 m.after) := (blk_cell HX5.out 4).trans rfl
        have x5 : w5.cell? ⟨bm, 5, none⟩ = some (.int .i64 m.keep) := (blk_cell HX5.out 5).trans rfl
        have h200b : i + 1 ≤ 200 := by omega
        clear e0 e1 e2 e3 e4 e5 e6 hcx hCx hnx hil hx h200
        go_upto_region 9 with (fail)
        have hw5s := hw5.symm
        subst hw5s
        refine start_ (n := 14) (S := (fun w' => w'.cell? ⟨bm, 0, none⟩ = some (.slice Au nu cu) ∧ w'.cell? ⟨bm, 1, none⟩ = some (.int .i64 m.writes) ∧ w'.cell? ⟨bm, 2, none⟩ = some (.bool m.armed) ∧ w'.cell? ⟨bm, 3, none⟩ = some (.bool m.dead) ∧ w'.cell? ⟨bm, 4, none⟩ = some (.int .i64 m.after) ∧ w'.cell? ⟨bm, 5, none⟩ = some (.int .i64 m.keep) ∧ w'.cell? (ad.add (i * 7)) = some (.int .i64 x.f0) ∧ w'.cell? ⟨(ad.add (i * 7)).block, (ad.add (i * 7)).off + 1, none⟩ = some (.string x.f1) ∧ w'.cell? ⟨(ad.add (i * 7)).block, (ad.add (i * 7)).off + 2, none⟩ = some (.string x.f2) ∧ w'.cell? ⟨(ad.add (i * 7)).block, (ad.add (i * 7)).off + 3, none⟩ = some (.slice Ax nx cx) ∧ w'.cell? ⟨(ad.add (i * 7)).block, (ad.add (i * 7)).off + 4, none⟩ = some (.int .i64 x.f4) ∧ w'.cell? ⟨(ad.add (i * 7)).block, (ad.add (i * 7)).off + 5, none⟩ = some (.int .i64 x.f5) ∧ w'.cell? ⟨(ad.add (i * 7)).block, (ad.add (i * 7)).off + 6, none⟩ = some (.int .u8 x.f6))) (ds := [12]) #[false, false, false, false, false, false, false, false, false, false, false, false, false, false] (by kernel_rfl) rfl rfl ⟨x0, x1, x2, x3, x4, x5, c0, c1, c2, c3, c4, c5, c6⟩ (fun hHeld => ?_)
        refine pure_ (i := 0) (N := (some 22)) (v := ?_) (a' := ?_) #[true, false, false, false, false, false, false, false, false, false, false, false, false, false] rfl rfl (by kernel_rfl) (fun _ _ _ h => h) (Or.inl ⟨by rfl, ?_⟩) ?_ ?_
        rotate_left
        · intro w'
          go_simp
          first | done | (with_reducible rfl)
        rotate_left
        · simp only [Act.put, List.setIfInBounds_toArray, List.set_cons_zero, List.set_cons_succ, i64_w, i32_w]
          rfl
        refine take_ (i := 1) (N := (some 23)) (v := ?_) (a' := ?_) #[true, true, false, false, false, false, false, false, false, false, false, false, false, false] rfl rfl (by kernel_rfl) (fun _ _ _ h => h) (Or.inl ⟨by rfl, ?_⟩) hHeld ?_ ?_
        rotate_left
        · intro w' s0
          obtain ⟨s1, s2, s3, s4, s5, s6, s7, s8, s9, s10, s11, s12, s13⟩ := s0
          go_simp
          first | done | (with_reducible rfl)
        rotate_left
        · simp only [Act.put, List.setIfInBounds_toArray, List.set_cons_zero, List.set_cons_succ, i64_w, i32_w]
          rfl
        refine pure_ (i := 2) (N := (some 24)) (v := ?_) (a' := ?_) #[true, true, true, false, false, false, false, false, false, false, false, false, false, false] rfl rfl (by kernel_rfl) (fun _ _ _ h => h) (Or.inl ⟨by rfl, ?_⟩) ?_ ?_
        rotate_left
        · intro w'
          go_simp
          first | done | (with_reducible rfl)
        rotate_left
        · simp only [Act.put, List.setIfInBounds_toArray, List.set_cons_zero, List.set_cons_succ, i64_w, i32_w]
          rfl
        refine pure_ (i := 3) (N := (some 25)) (v := ?_) (a' := ?_) #[true, true, true, true, false, false, false, false, false, false, false, false, false, false] rfl rfl (by kernel_rfl) (fun _ _ _ h => h) (Or.inl ⟨by rfl, ?_⟩) ?_ ?_
        rotate_left
        · intro w'
          go_simp
          first | done | (with_reducible rfl)
        rotate_left
        · simp only [Act.put, List.setIfInBounds_toArray, List.set_cons_zero, List.set_cons_succ, i64_w, i32_w]
          rfl
        refine pure_ (i := 4) (N := (some 26)) (v := ?_) (a' := ?_) #[true, true, true, true, true, false, false, false, false, false, false, false, false, false] rfl rfl (by kernel_rfl) (fun _ _ _ h => h) (Or.inl ⟨by rfl, ?_⟩) ?_ ?_
        rotate_left
        · intro w'
          go_simp
          first | done | (with_reducible rfl)
        rotate_left
        · simp only [Act.put, List.setIfInBounds_toArray, List.set_cons_zero, List.set_cons_succ, i64_w, i32_w]
          rfl
        refine take_ (i := 5) (N := (some 27)) (v := ?_) (a' := ?_) #[true, true, true, true, true, true, false, false, false, false, false, false, false, false] rfl rfl (by kernel_rfl) (fun _ _ _ h => h) (Or.inl ⟨by rfl, ?_⟩) hHeld ?_ ?_
        rotate_left
        · intro w' s0
          obtain ⟨s1, s2, s3, s4, s5, s6, s7, s8, s9, s10, s11, s12, s13⟩ := s0
          go_simp
          first | done | (with_reducible rfl)
        rotate_left
        · simp only [Act.put, List.setIfInBounds_toArray, List.set_cons_zero, List.set_cons_succ, i64_w, i32_w]
          rfl
        refine one_ (i := 6) (N := (some 28)) #[true, true, true, true, true, true, true, false, false, false, false, false, false, false] rfl rfl (by kernel_rfl) (by decide) (fun K hK => ?_)
        refine goes_ Try.func15 (by kernel_rfl) rfl #[.pointer (some ⟨d, 0, none⟩), .agg #[.slice Au nu cu, .int .i64 m.writes, .bool m.armed, .bool m.dead, .int .i64 m.after, .int .i64 m.keep], .agg #[.int .i64 x.f0, .string x.f1, .string x.f2, .slice Ax nx cx, .int .i64 x.f4, .int .i64 x.f5, .int .u8 x.f6]] (by rfl) rfl rfl (by (try simp only [List.map_toArray, List.map_cons, List.map_nil]); first | done | rfl) ?_
        refine (HPL.out).mono ?_
        rintro e w6 ⟨d', mb', m', u', rfl, hP6, hI6, hB6, hbm6⟩
        obtain ⟨O6, hD6, hR6, hno6⟩ := hP6
        obtain ⟨Av, cv, hv0⟩ := Kd.R_slice hR6
        obtain ⟨nv, hnv⟩ : ∃ nv, m'.files.length = nv := ⟨_, rfl⟩
        have hv : u' = .slice Av nv cv := hv0.trans (by rw [hnv])
        clear hv0
        subst hv
        have HNV := Aside0.mk hnv
        have HP6 : Aside0 (Pair w6 w.heap.size d' mb' m' (.slice Av nv cv) bm) := ⟨⟨O6, hD6, hR6, hno6⟩⟩
        have HI6 := Aside0.mk hI6
        have HB6 := Aside0.mk hB6
        have HX6 := Aside0.mk hbm6
        have x0 : w6.cell? ⟨bm, 0, none⟩ = some (.slice Au nu cu) := (blk_cell HX6.out 0).trans rfl
        have x1 : w6.cell? ⟨bm, 1, none⟩ = some (.int .i64 m.writes) := (blk_cell HX6.out 1).trans rfl
        have x2 : w6.cell? ⟨bm, 2, none⟩ = some (.bool m.armed) := (blk_cell HX6.out 2).trans rfl
        have x3 : w6.cell? ⟨bm, 3, none⟩ = some (.bool m.dead) := (blk_cell HX6.out 3).trans rfl
        have x4 : w6.cell? ⟨bm, 4, none⟩ = some (.int .i64 m.after) := (blk_cell HX6.out 4).trans rfl
        have x5 : w6.cell? ⟨bm, 5, none⟩ = some (.int .i64 m.keep) := (blk_cell HX6.out 5).trans rfl
        have xf0 : w6.frozen? ⟨bm, 0, none⟩ = false := blk_frozen HX6.out 0
        have xf1 : w6.frozen? ⟨bm, 1, none⟩ = false := blk_frozen HX6.out 1
        have xf2 : w6.frozen? ⟨bm, 2, none⟩ = false := blk_frozen HX6.out 2
        have xf3 : w6.frozen? ⟨bm, 3, none⟩ = false := blk_frozen HX6.out 3
        have xf4 : w6.frozen? ⟨bm, 4, none⟩ = false := blk_frozen HX6.out 4
        have xf5 : w6.frozen? ⟨bm, 5, none⟩ = false := blk_frozen HX6.out 5
        have c0 := pw_cell_below hB6 E0.out
        have c1 := pw_cell_below hB6 E1.out
        have c2 := pw_cell_below hB6 E2.out
        have c3 := pw_cell_below hB6 E3.out
        have c4 := pw_cell_below hB6 E4.out
        have c5 := pw_cell_below hB6 E5.out
        have c6 := pw_cell_below hB6 E6.out
        clear hI6 hB6 hbm6 hnv hD6 hR6 hno6
        refine ⟨_, rfl, ?_⟩
        refine hK.out _ _ ⟨x0, x1, x2, x3, x4, x5, c0, c1, c2, c3, c4, c5, c6⟩ (fun hHeld => ?_)
        clear hK K
        refine norm_ (a' := ?_) ?_ ?_
        rotate_left
        · show Act.put _ (some 28) _ = _
          simp only [Act.put, List.setIfInBounds_toArray, List.set_cons_zero, List.set_cons_succ, i64_w, i32_w]
          rfl
        refine pure_ (i := 7) (N := (some 21)) (v := ?_) (a' := ?_) #[true, true, true, true, true, true, true, true, false, false, false, false, false, false] rfl rfl (by kernel_rfl) (fun _ _ _ h => h) (Or.inl ⟨by rfl, ?_⟩) ?_ ?_
        rotate_left
        · intro w'
          go_simp
          first | done | (with_reducible rfl)
        rotate_left
        · simp only [Act.put, List.setIfInBounds_toArray, List.set_cons_zero, List.set_cons_succ, i64_w, i32_w]
          rfl
        refine pure_ (i := 8) (N := (some 29)) (v := ?_) (a' := ?_) #[true, true, true, true, true, true, true, true, true, false, false, false, false, false] rfl rfl (by kernel_rfl) (fun _ _ _ h => h) (Or.inl ⟨by rfl, ?_⟩) ?_ ?_
        rotate_left
        · intro w'
          go_simp
          first | done | (with_reducible rfl)
        rotate_left
        · simp only [Act.put, List.setIfInBounds_toArray, List.set_cons_zero, List.set_cons_succ, i64_w, i32_w]
          rfl
        refine pure_ (i := 9) (N := (some 30)) (v := ?_) (a' := ?_) #[true, true, true, true, true, true, true, true, true, true, false, false, false, false] rfl rfl (by kernel_rfl) (fun _ _ _ h => h) (Or.inl ⟨by rfl, ?_⟩) ?_ ?_
        rotate_left
        · intro w'
          go_simp
          first | done | (with_reducible rfl)
        rotate_left
        · simp only [Act.put, List.setIfInBounds_toArray, List.set_cons_zero, List.set_cons_succ, i64_w, i32_w]
          rfl
        refine pure_ (i := 10) (N := (some 31)) (v := ?_) (a' := ?_) #[true, true, true, true, true, true, true, true, true, true, true, false, false, false] rfl rfl (by kernel_rfl) (fun _ _ _ h => h) (Or.inl ⟨by rfl, ?_⟩) ?_ ?_
        rotate_left
        · intro w'
          go_simp
          first | done | (with_reducible rfl)
        rotate_left
        · simp only [Act.put, List.setIfInBounds_toArray, List.set_cons_zero, List.set_cons_succ, i64_w, i32_w]
          rfl
        refine pure_ (i := 11) (N := (some 3)) (v := ?_) (a' := ?_) #[true, true, true, true, true, true, true, true, true, true, true, true, false, false] rfl rfl (by kernel_rfl) (fun _ _ _ h => h) (Or.inl ⟨by rfl, ?_⟩) ?_ ?_
        rotate_left
        · intro w'
          go_simp
          first | done | (with_reducible rfl)
        rotate_left
        · simp only [Act.put, List.setIfInBounds_toArray, List.set_cons_zero, List.set_cons_succ, i64_w, i32_w]
          rfl
        refine last_ (i := 12) (N := none) #[true, true, true, true, true, true, true, true, true, true, true, true, true, false] rfl rfl (by kernel_rfl) (by decide) (fun K hK => ?_)
        refine skip_ (w1 := ((((((w6.setCell ⟨bm, 0, none⟩ (.slice Av nv cv)).setCell ⟨bm, 1, none⟩ (.int .i64 m'.writes)).setCell ⟨bm, 2, none⟩ (.bool m'.armed)).setCell ⟨bm, 3, none⟩ (.bool m'.dead)).setCell ⟨bm, 4, none⟩ (.int .i64 m'.after)).setCell ⟨bm, 5, none⟩ (.int .i64 m'.keep))) (by rfl) rfl ?_ ?_
        · go_simp
        refine hK.out _ _ ?_
        clear hK K
        refine pure_ (i := 13) (N := (some 6)) (v := ?_) (a' := ?_) #[true, true, true, true, true, true, true, true, true, true, true, true, true, true] rfl rfl (by kernel_rfl) (fun _ _ _ h => h) (Or.inl ⟨by rfl, ?_⟩) ?_ ?_
        rotate_left
        · intro w'
          go_simp
          first | done | (with_reducible rfl)
        rotate_left
        · simp only [Act.put, List.setIfInBounds_toArray, List.set_cons_zero, List.set_cons_succ, i64_w, i32_w]
          rfl
        refine done_ (by kernel_rfl) ?_
        all_goals
          obtain ⟨w7, hw7⟩ : ∃ w7, ((((((w6.setCell ⟨bm, 0, none⟩ (.slice Av nv cv)).setCell ⟨bm, 1, none⟩ (.int .i64 m'.writes)).setCell ⟨bm, 2, none⟩ (.bool m'.armed)).setCell ⟨bm, 3, none⟩ (.bool m'.dead)).setCell ⟨bm, 4, none⟩ (.int .i64 m'.after)).setCell ⟨bm, 5, none⟩ (.int .i64 m'.keep)) = w7 := ⟨_, rfl⟩
          rw [hw7]
          have HP7 := HP6.out.box HX6.out (.slice Av nv cv) (.int .i64 m'.writes) (.bool m'.armed) (.bool m'.dead) (.int .i64 m'.after) (.int .i64 m'.keep)
          have HX7 := blk6 HX6.out (.slice Av nv cv) (.int .i64 m'.writes) (.bool m'.armed) (.bool m'.dead) (.int .i64 m'.after) (.int .i64 m'.keep)
          have HB7 := below6 HB6.out HBM.out (.slice Av nv cv) (.int .i64 m'.writes) (.bool m'.armed) (.bool m'.dead) (.int .i64 m'.after) (.int .i64 m'.keep)
          rw [hw7] at HP7 HX7 HB7
          have HP7 := Aside0.mk HP7
          have HX7 := Aside0.mk HX7
          have HB7 := Aside0.mk HB7
          clear hw7 x0 x1 x2 x3 x4 x5 xf0 xf1 xf2 xf3 xf4 xf5 c0 c1 c2 c3 c4 c5 c6
          have x0 : w7.cell? ⟨bm, 0, none⟩ = some (.slice Av nv cv) := (blk_cell HX7.out 0).trans rfl
          have x1 : w7.cell? ⟨bm, 1, none⟩ = some (.int .i64 m'.writes) := (blk_cell HX7.out 1).trans rfl
          have x2 : w7.cell? ⟨bm, 2, none⟩ = some (.bool m'.armed) := (blk_cell HX7.out 2).trans rfl
          have x3 : w7.cell? ⟨bm, 3, none⟩ = some (.bool m'.dead) := (blk_cell HX7.out 3).trans rfl
          have x4 : w7.cell? ⟨bm, 4, none⟩ = some (.int .i64 m'.after) := (blk_cell HX7.out 4).trans rfl
          have x5 : w7.cell? ⟨bm, 5, none⟩ = some (.int .i64 m'.keep) := (blk_cell HX7.out 5).trans rfl
          obtain ⟨O7, hD7, hR7, hno7⟩ := HP7.out
          have HTE := tells_calls w7 hD7 HI6.out (by omega) (cf := cv) (Kd.R_reads' hR7).2.2 (by rw [HNV.out]; exact (Kd.R_reads' hR7).2.1)
          rw [HNV.out] at HTE
          have HTE := Aside0.mk HTE
          clear hD7 hR7 hno7
          go_wp2_with (first | (go_at_call 16; refine (HTE.out).mono ?_; rintro e w8 ⟨rfl, hb8⟩; have HB8 := Aside0.mk hb8; clear hb8))
          go_roundw
          case rel => exact ⟨i + 1, d', mb', m', .slice Av nv cv, rfl, by go_num, ⟨by omega⟩, ⟨by omega⟩, ⟨HP7.out.below HB8.out⟩, HI6, ⟨below_then HB7.out HB7.out.size HB8.out⟩, ⟨blk_below HX7.out HB8.out⟩⟩
          case measure => simp [intOf]; omega
      · have d200 : decide ((i : Int) < 200) = false := decide_eq_false (by omega)
        go_wp2
        go_ret
        exact ⟨rfl, HB.out⟩
    · go_wp2
      go_ret
      exact ⟨rfl, HB.out⟩
theorem plays_walk2 (W : World) (A : Option Addr) (c : Nat) (l : List S43) (g : l.length * 88 ≤ 140737488351232 ∧ l.length ≤ 9223372036854775807 ∧ ∀ y ∈ l, gS43 y) (hr : Kd.C k43 W A l.length l) (hc : l.length ≤ c) :
    Calls Try.prog 4 #[.slice A l.length c] W fun e W' => e = .returned (.bool true) ∧ Below W.heap.size W W' := plays_walk W A c l g.2.2 hr hc
end Go.Proofs.Ytieodkghfceflaa.MD

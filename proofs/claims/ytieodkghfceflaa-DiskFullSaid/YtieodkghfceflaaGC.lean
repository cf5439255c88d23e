/- The law's play, by kinds. No condition. -/
import Derived.Test.YtieodkghfceflaaGB
set_option linter.unusedVariables false
set_option linter.unusedSimpArgs false
namespace Go.Proofs.Ytieodkghfceflaa.MD
open Go.Proofs.Ytieodkghfceflaa.Opening Go.Proofs.Ytieodkghfceflaa.Pure
open Go.RowKit Go.Proofs.YtieodkghfceflaaW.PrintWords Go.Proofs.YtieodkghfceflaaW.PrintLast Go.Proofs.YtieodkghfceflaaW.PrintMore
/-- What a call of the law's script answers: no more than that both go on alike. -/
def PlaySaid (w0 w : World) (d c : Nat) (m : DS) (u : Value) (kd : Int) (nm_ to_ : ByteArray) (A : Option Addr) (n cap : Nat) (N keep mask : Int) (bm : Nat) (XB : Array Value) : Prop :=
  Calls Try.prog 15 #[.pointer (some ⟨d, 0, none⟩), .agg #[u, .int .i64 m.writes, .bool m.armed, .bool m.dead, .int .i64 m.after, .int .i64 m.keep], .agg #[.int .i64 kd, .string nm_, .string to_, .slice A n cap, .int .i64 N, .int .i64 keep, .int .u8 mask]] w fun e w' => ∃ d' mb' m' u', e = .returned (.tuple #[.pointer (some ⟨d', 0, none⟩), .agg #[u', .int .i64 m'.writes, .bool m'.armed, .bool m'.dead, .int .i64 m'.after, .int .i64 m'.keep], .bool true]) ∧ Pair w' w0.heap.size d' mb' m' u' bm ∧ Inv (c + 1) m' ∧ Below w0.heap.size w0 w' ∧ w'.heap[bm]? = some (.cells XB 39 (0, 0))

set_option maxRecDepth 100000 in
set_option maxHeartbeats 16000000 in
theorem play2_calls (w0 w : World) {d mb c : Nat} {m : DS} {u : Value} {bm : Nat} {XB : Array Value} (hb : Below w0.heap.size w0 w) (hp : Pair w w0.heap.size d mb m u bm) (hI : Inv c m) (hc : c + 1 ≤ 1000) {nm_ to_ : ByteArray} (h1 : nm_.size ≤ 140737488351232) (h2 : to_.size ≤ 140737488351232) {A : Option Addr} {cap : Nat} {data : List Int} (hC : ∀ W, Below w0.heap.size w0 W → Kd.C (Kd.int .u8) W A data.length data) (hcap : data.length ≤ cap) (hby : Bytes data) (hdl : data.length ≤ 140737488351232) (N keep mask : Int) (hN : N ≤ 9223372036854775807) (hmask : 0 ≤ mask ∧ mask < 256) (hbm : w.heap[bm]? = some (.cells XB 39 (0, 0))) : PlaySaid w0 w d c m u 2 nm_ to_ A data.length cap N keep mask bm XB := by
  unfold PlaySaid
  obtain ⟨O, hD, hR, hno⟩ := hp
  have HI := Aside0.mk hI
  have HOK := Aside0.mk (hI.ok (by omega))
  have HN1 := Aside0.mk h1
  have HN2 := Aside0.mk h2
  have HCAP := Aside0.mk hcap
  have HBY := Aside0.mk hby
  have HDL := Aside0.mk hdl
  have HNN := Aside0.mk hN
  have HMK := Aside0.mk hmask
  have HCC := Aside0.mk hc
  obtain ⟨nd, hnd⟩ : ∃ nd, data.length = nd := ⟨_, rfl⟩
  have HND := Aside0.mk hnd
  have HC := Aside0.mk hC
  rw [hnd] at HC HCAP ⊢
  obtain ⟨Au, cu, hu⟩ := Kd.R_slice hR
  obtain ⟨nu, hnu⟩ : ∃ nu, m.files.length = nu := ⟨_, rfl⟩
  have HNU := Aside0.mk hnu
  rw [hnu] at hu
  subst hu
  obtain ⟨wa, hwa⟩ : ∃ wa, w.alloc (.cells #[.slice Au nu cu, .int .i64 m.writes, .bool m.armed, .bool m.dead, .int .i64 m.after, .int .i64 m.keep] 39) = wa := ⟨_, rfl⟩
  obtain ⟨wb, hwb⟩ : ∃ wb, wa.alloc (.cells #[.int .i64 2, .string nm_, .string to_, .slice A nd cap, .int .i64 N, .int .i64 keep, .int .u8 mask] 43) = wb := ⟨_, rfl⟩
  obtain ⟨wc, hwc⟩ : ∃ wc, wb.alloc (.cells #[.slice none 0 0, .int .i64 0, .bool false, .bool false, .int .i64 0, .int .i64 0] 39) = wc := ⟨_, rfl⟩
  have HS : Aside0 (St w0 wc O (fun k => w.heap.size ≤ k ∧ k < wc.heap.size) d mb w.heap.size wa.heap.size wb.heap.size m m (.slice Au nu cu) #[.int .i64 2, .string nm_, .string to_, .slice A nd cap, .int .i64 N, .int .i64 keep, .int .u8 mask] bm XB) := ⟨by
    have hl := hD.base_lt
    have b1 : Below w.heap.size w wa := by rw [← hwa]; exact below_alloc (Below.refl _ _) _
    have b2 : Below wa.heap.size wa wb := by rw [← hwb]; exact below_alloc (Below.refl _ _) _
    have b3 : Below wb.heap.size wb wc := by rw [← hwc]; exact below_alloc (Below.refl _ _) _
    have s1 : wa.heap.size = w.heap.size + 1 := by rw [← hwa]; simp
    have s2 : wb.heap.size = wa.heap.size + 1 := by rw [← hwb]; simp
    have s3 : wc.heap.size = wb.heap.size + 1 := by rw [← hwc]; simp
    have b := below_then (below_then b1 b1.size b2) (by omega : w.heap.size ≤ wb.heap.size) b3
    have x1 : wa.heap[w.heap.size]? = some (.cells #[.slice Au nu cu, .int .i64 m.writes, .bool m.armed, .bool m.dead, .int .i64 m.after, .int .i64 m.keep] 39 (0, 0)) := by rw [← hwa]; exact heap_alloc_new w _
    have x2 : wb.heap[wa.heap.size]? = some (.cells #[.int .i64 2, .string nm_, .string to_, .slice A nd cap, .int .i64 N, .int .i64 keep, .int .u8 mask] 43 (0, 0)) := by rw [← hwb]; exact heap_alloc_new wa _
    have x3 : wc.heap[wb.heap.size]? = some (.cells #[.slice none 0 0, .int .i64 0, .bool false, .bool false, .int .i64 0, .int .i64 0] 39 (0, 0)) := by rw [← hwc]; exact heap_alloc_new wb _
    exact ⟨hD.below b, Kd.R_below hR b, blk_below (blk_below x1 b2) b3, blk_below x2 b3, x3, below_then hb hl b, fun k hk => ⟨fun ho => by have := (hD.rows k ho).2; omega, hk.2, by omega⟩, by omega, by omega, by omega, by omega, blk_below hbm b, by have := blk_lt hbm; omega, by have := blk_lt hbm; omega, hno⟩⟩
  have y0 : wc.cell? ⟨wa.heap.size, 0, none⟩ = some (.int .i64 2) := (blk_cell HS.out.hy 0).trans rfl
  have y1 : wc.cell? ⟨wa.heap.size, 1, none⟩ = some (.string nm_) := (blk_cell HS.out.hy 1).trans rfl
  have y2 : wc.cell? ⟨wa.heap.size, 2, none⟩ = some (.string to_) := (blk_cell HS.out.hy 2).trans rfl
  have y3 : wc.cell? ⟨wa.heap.size, 3, none⟩ = some (.slice A nd cap) := (blk_cell HS.out.hy 3).trans rfl
  have y4 : wc.cell? ⟨wa.heap.size, 4, none⟩ = some (.int .i64 N) := (blk_cell HS.out.hy 4).trans rfl
  have y5 : wc.cell? ⟨wa.heap.size, 5, none⟩ = some (.int .i64 keep) := (blk_cell HS.out.hy 5).trans rfl
  have y6 : wc.cell? ⟨wa.heap.size, 6, none⟩ = some (.int .u8 mask) := (blk_cell HS.out.hy 6).trans rfl
  clear hno hbm hb hD hR hI hc h1 h2 hC hcap hby hdl hN hmask hnd hnu
  obtain ⟨M2, hM2⟩ : ∃ M2, trimD (nm nm_) m nm_ N = M2 := ⟨_, rfl⟩
  have hname : path_Name.f (nm_.size + to_.size + 3000000) nm_ = some (nm nm_) := name_f HN1.out (nm_.size + to_.size + 3000000) (by omega)
  have hname2 : path_Name.f (nm_.size + to_.size + 3000000) to_ = some (nm to_) := name_f HN2.out (nm_.size + to_.size + 3000000) (by omega)
  have HT1 := trim_calls (nm_.size + to_.size + 3000000) wc HS.out.isD (p := nm_) (by have := HN1.out; omega) HOK.out (nm nm_) hname N
  rw [hM2] at HT1
  have HT1 := Aside0.mk HT1
  have hf : forebearref06_Trim.f (nm_.size + to_.size + 3000000) m.files m.writes m.armed m.dead m.after m.keep nm_ N = some (ret M2) := by rw [← hM2]; exact trim_f HOK.out HI.out.rise HN1.out N (nm_.size + to_.size + 3000000) (by omega) (by omega)
  have HT2 := Aside0.mk (fun (W : World) (hb : Below w0.heap.size w0 W) (hr : Kd.R k76 76 W w0.heap.size (fun k => some k = (Value.slice Au nu cu).ownBlock) (.slice Au nu cu) m.files) => forebearref06_Trim.calls (nm_.size + to_.size + 3000000) (fun k => some k = (Value.slice Au nu cu).ownBlock) (.slice Au nu cu) m.files m.writes m.armed m.dead m.after m.keep nm_ N _ _ _ _ _ _ _ w0 W hb hr hf)
  clear hf
  have HIV : Aside0 (Inv (c + 1) M2.1) := ⟨by rw [← hM2]; exact HI.out.trimD (by have := HCC.out; omega) nm_ N⟩
  clear hM2 hname hname2
  go_enter Try.func15, Try.ntmps15
  go_upto_region 49 with (first | (go_at_call 12; refine (HT1.out).mono ?_; rintro e w1 ⟨rfl, hA⟩; obtain ⟨O1, hS1, hr5⟩ := HS.out.disk hA; have HS1 := Aside0.mk hS1; have HR5 := Aside0.mk hr5; have x0 : w1.cell? ⟨w.heap.size, 0, none⟩ = some (.slice Au nu cu) := (blk_cell hS1.hx 0).trans rfl; have x1 : w1.cell? ⟨w.heap.size, 1, none⟩ = some (.int .i64 m.writes) := (blk_cell hS1.hx 1).trans rfl; have x2 : w1.cell? ⟨w.heap.size, 2, none⟩ = some (.bool m.armed) := (blk_cell hS1.hx 2).trans rfl; have x3 : w1.cell? ⟨w.heap.size, 3, none⟩ = some (.bool m.dead) := (blk_cell hS1.hx 3).trans rfl; have x4 : w1.cell? ⟨w.heap.size, 4, none⟩ = some (.int .i64 m.after) := (blk_cell hS1.hx 4).trans rfl; have x5 : w1.cell? ⟨w.heap.size, 5, none⟩ = some (.int .i64 m.keep) := (blk_cell hS1.hx 5).trans rfl; have y0 : w1.cell? ⟨wa.heap.size, 0, none⟩ = some (.int .i64 2) := (blk_cell hS1.hy 0).trans rfl; have y1 : w1.cell? ⟨wa.heap.size, 1, none⟩ = some (.string nm_) := (blk_cell hS1.hy 1).trans rfl; have y2 : w1.cell? ⟨wa.heap.size, 2, none⟩ = some (.string to_) := (blk_cell hS1.hy 2).trans rfl; have y3 : w1.cell? ⟨wa.heap.size, 3, none⟩ = some (.slice A nd cap) := (blk_cell hS1.hy 3).trans rfl; have y4 : w1.cell? ⟨wa.heap.size, 4, none⟩ = some (.int .i64 N) := (blk_cell hS1.hy 4).trans rfl; have y5 : w1.cell? ⟨wa.heap.size, 5, none⟩ = some (.int .i64 keep) := (blk_cell hS1.hy 5).trans rfl; have y6 : w1.cell? ⟨wa.heap.size, 6, none⟩ = some (.int .u8 mask) := (blk_cell hS1.hy 6).trans rfl; clear hA hS1 hr5) | (go_at_call 36; refine (HT2.out w1 HS1.out.bel (R76_own HS1.out.row)).mono ?_; rintro e w2 ⟨v2, rfl, hR2, hB2, hK2⟩; obtain ⟨A2, c2, hv20⟩ := Kd.R_slice hR2; obtain ⟨n2, hn2⟩ : ∃ n2, (M2.1).files.length = n2 := ⟨_, rfl⟩; have hv2 : v2 = .slice A2 n2 c2 := hv20.trans (by rw [← hn2]); clear hn2 hv20; subst hv2; have HREF := Aside0.mk (HS1.out.ref (mx' := M2.1) hK2 hR2 hB2); have hbx := HREF.out.2.2; have x0 : w2.cell? ⟨w.heap.size, 0, none⟩ = some (.slice Au nu cu) := (blk_cell hbx 0).trans rfl; have x1 : w2.cell? ⟨w.heap.size, 1, none⟩ = some (.int .i64 m.writes) := (blk_cell hbx 1).trans rfl; have x2 : w2.cell? ⟨w.heap.size, 2, none⟩ = some (.bool m.armed) := (blk_cell hbx 2).trans rfl; have x3 : w2.cell? ⟨w.heap.size, 3, none⟩ = some (.bool m.dead) := (blk_cell hbx 3).trans rfl; have x4 : w2.cell? ⟨w.heap.size, 4, none⟩ = some (.int .i64 m.after) := (blk_cell hbx 4).trans rfl; have x5 : w2.cell? ⟨w.heap.size, 5, none⟩ = some (.int .i64 m.keep) := (blk_cell hbx 5).trans rfl; have xf0 : w2.frozen? ⟨w.heap.size, 0, none⟩ = false := blk_frozen hbx 0; have xf1 : w2.frozen? ⟨w.heap.size, 1, none⟩ = false := blk_frozen hbx 1; have xf2 : w2.frozen? ⟨w.heap.size, 2, none⟩ = false := blk_frozen hbx 2; have xf3 : w2.frozen? ⟨w.heap.size, 3, none⟩ = false := blk_frozen hbx 3; have xf4 : w2.frozen? ⟨w.heap.size, 4, none⟩ = false := blk_frozen hbx 4; have xf5 : w2.frozen? ⟨w.heap.size, 5, none⟩ = false := blk_frozen hbx 5; clear hR2 hB2 hK2 hbx))
  obtain ⟨w3, hw3⟩ : ∃ w3, ((((((w2.setCell ⟨w.heap.size, 0, none⟩ (.slice A2 n2 c2)).setCell ⟨w.heap.size, 1, none⟩ (.int .i64 M2.1.writes)).setCell ⟨w.heap.size, 2, none⟩ (.bool M2.1.armed)).setCell ⟨w.heap.size, 3, none⟩ (.bool M2.1.dead)).setCell ⟨w.heap.size, 4, none⟩ (.int .i64 M2.1.after)).setCell ⟨w.heap.size, 5, none⟩ (.int .i64 M2.1.keep)) = w3 := ⟨_, rfl⟩
  have HS3 := HREF.out.1
  rw [hw3] at HS3 ⊢
  have HS3 := Aside0.mk HS3
  have HS4 := Aside0.mk (HS3.out.below (below_drew (Below.refl _ _)))
  obtain ⟨w4, hw4⟩ : ∃ w4, w3.drew = w4 := ⟨_, rfl⟩
  rw [hw4] at HS4
  have NE1 := HS4.out.ne
  have NE2 := HS4.out.ne.symm
  clear hw3 x0 x1 x2 x3 x4 x5
  have x0 : w4.cell? ⟨w.heap.size, 0, none⟩ = some (.slice A2 n2 c2) := (blk_cell HS4.out.hx 0).trans rfl
  have x1 : w4.cell? ⟨w.heap.size, 1, none⟩ = some (.int .i64 M2.1.writes) := (blk_cell HS4.out.hx 1).trans rfl
  have x2 : w4.cell? ⟨w.heap.size, 2, none⟩ = some (.bool M2.1.armed) := (blk_cell HS4.out.hx 2).trans rfl
  have x3 : w4.cell? ⟨w.heap.size, 3, none⟩ = some (.bool M2.1.dead) := (blk_cell HS4.out.hx 3).trans rfl
  have x4 : w4.cell? ⟨w.heap.size, 4, none⟩ = some (.int .i64 M2.1.after) := (blk_cell HS4.out.hx 4).trans rfl
  have x5 : w4.cell? ⟨w.heap.size, 5, none⟩ = some (.int .i64 M2.1.keep) := (blk_cell HS4.out.hx 5).trans rfl
  have z0 : w4.cell? ⟨wb.heap.size, 0, none⟩ = some (.slice none 0 0) := (blk_cell HS4.out.hz 0).trans rfl
  have z1 : w4.cell? ⟨wb.heap.size, 1, none⟩ = some (.int .i64 0) := (blk_cell HS4.out.hz 1).trans rfl
  have z2 : w4.cell? ⟨wb.heap.size, 2, none⟩ = some (.bool false) := (blk_cell HS4.out.hz 2).trans rfl
  have z3 : w4.cell? ⟨wb.heap.size, 3, none⟩ = some (.bool false) := (blk_cell HS4.out.hz 3).trans rfl
  have z4 : w4.cell? ⟨wb.heap.size, 4, none⟩ = some (.int .i64 0) := (blk_cell HS4.out.hz 4).trans rfl
  have z5 : w4.cell? ⟨wb.heap.size, 5, none⟩ = some (.int .i64 0) := (blk_cell HS4.out.hz 5).trans rfl
  have zf0 : w4.frozen? ⟨wb.heap.size, 0, none⟩ = false := blk_frozen HS4.out.hz 0
  have zf1 : w4.frozen? ⟨wb.heap.size, 1, none⟩ = false := blk_frozen HS4.out.hz 1
  have zf2 : w4.frozen? ⟨wb.heap.size, 2, none⟩ = false := blk_frozen HS4.out.hz 2
  have zf3 : w4.frozen? ⟨wb.heap.size, 3, none⟩ = false := blk_frozen HS4.out.hz 3
  have zf4 : w4.frozen? ⟨wb.heap.size, 4, none⟩ = false := blk_frozen HS4.out.hz 4
  have zf5 : w4.frozen? ⟨wb.heap.size, 5, none⟩ = false := blk_frozen HS4.out.hz 5
  have hee : (M2.2 == M2.2) = true := beq_self_eq_true _
  go_region
  go_wp2
  have HF := HS4.out.fin
  refine bodyPost_ret (results_list (rs := [.tmp 6, .cell 7 39, .tmp 8]) rfl (by simp) (.tmp (.cell wb.heap.size 39 #[.slice A2 n2 c2, .int .i64 M2.1.writes, .bool M2.1.armed, .bool M2.1.dead, .int .i64 M2.1.after, .int .i64 M2.1.keep] (0, 0) _ rfl HF.2.2.1 Try.underlying39 rfl (by kernel_rfl) (.tmp .nil)))) rfl ?_
  exact ⟨d, mb, M2.1, .slice A2 n2 c2, rfl, HF.1, HIV.out, HF.2.1, HF.2.2.2⟩

set_option maxRecDepth 100000 in
set_option maxHeartbeats 16000000 in
theorem play3_calls (w0 w : World) {d mb c : Nat} {m : DS} {u : Value} {bm : Nat} {XB : Array Value} (hb : Below w0.heap.size w0 w) (hp : Pair w w0.heap.size d mb m u bm) (hI : Inv c m) (hc : c + 1 ≤ 1000) {nm_ to_ : ByteArray} (h1 : nm_.size ≤ 140737488351232) (h2 : to_.size ≤ 140737488351232) {A : Option Addr} {cap : Nat} {data : List Int} (hC : ∀ W, Below w0.heap.size w0 W → Kd.C (Kd.int .u8) W A data.length data) (hcap : data.length ≤ cap) (hby : Bytes data) (hdl : data.length ≤ 140737488351232) (N keep mask : Int) (hN : N ≤ 9223372036854775807) (hmask : 0 ≤ mask ∧ mask < 256) (hbm : w.heap[bm]? = some (.cells XB 39 (0, 0))) : PlaySaid w0 w d c m u 3 nm_ to_ A data.length cap N keep mask bm XB := by
  unfold PlaySaid
  obtain ⟨O, hD, hR, hno⟩ := hp
  have HI := Aside0.mk hI
  have HOK := Aside0.mk (hI.ok (by omega))
  have HN1 := Aside0.mk h1
  have HN2 := Aside0.mk h2
  have HCAP := Aside0.mk hcap
  have HBY := Aside0.mk hby
  have HDL := Aside0.mk hdl
  have HNN := Aside0.mk hN
  have HMK := Aside0.mk hmask
  have HCC := Aside0.mk hc
  obtain ⟨nd, hnd⟩ : ∃ nd, data.length = nd := ⟨_, rfl⟩
  have HND := Aside0.mk hnd
  have HC := Aside0.mk hC
  rw [hnd] at HC HCAP ⊢
  obtain ⟨Au, cu, hu⟩ := Kd.R_slice hR
  obtain ⟨nu, hnu⟩ : ∃ nu, m.files.length = nu := ⟨_, rfl⟩
  have HNU := Aside0.mk hnu
  rw [hnu] at hu
  subst hu
  obtain ⟨wa, hwa⟩ : ∃ wa, w.alloc (.cells #[.slice Au nu cu, .int .i64 m.writes, .bool m.armed, .bool m.dead, .int .i64 m.after, .int .i64 m.keep] 39) = wa := ⟨_, rfl⟩
  obtain ⟨wb, hwb⟩ : ∃ wb, wa.alloc (.cells #[.int .i64 3, .string nm_, .string to_, .slice A nd cap, .int .i64 N, .int .i64 keep, .int .u8 mask] 43) = wb := ⟨_, rfl⟩
  obtain ⟨wc, hwc⟩ : ∃ wc, wb.alloc (.cells #[.slice none 0 0, .int .i64 0, .bool false, .bool false, .int .i64 0, .int .i64 0] 39) = wc := ⟨_, rfl⟩
  have HS : Aside0 (St w0 wc O (fun k => w.heap.size ≤ k ∧ k < wc.heap.size) d mb w.heap.size wa.heap.size wb.heap.size m m (.slice Au nu cu) #[.int .i64 3, .string nm_, .string to_, .slice A nd cap, .int .i64 N, .int .i64 keep, .int .u8 mask] bm XB) := ⟨by
    have hl := hD.base_lt
    have b1 : Below w.heap.size w wa := by rw [← hwa]; exact below_alloc (Below.refl _ _) _
    have b2 : Below wa.heap.size wa wb := by rw [← hwb]; exact below_alloc (Below.refl _ _) _
    have b3 : Below wb.heap.size wb wc := by rw [← hwc]; exact below_alloc (Below.refl _ _) _
    have s1 : wa.heap.size = w.heap.size + 1 := by rw [← hwa]; simp
    have s2 : wb.heap.size = wa.heap.size + 1 := by rw [← hwb]; simp
    have s3 : wc.heap.size = wb.heap.size + 1 := by rw [← hwc]; simp
    have b := below_then (below_then b1 b1.size b2) (by omega : w.heap.size ≤ wb.heap.size) b3
    have x1 : wa.heap[w.heap.size]? = some (.cells #[.slice Au nu cu, .int .i64 m.writes, .bool m.armed, .bool m.dead, .int .i64 m.after, .int .i64 m.keep] 39 (0, 0)) := by rw [← hwa]; exact heap_alloc_new w _
    have x2 : wb.heap[wa.heap.size]? = some (.cells #[.int .i64 3, .string nm_, .string to_, .slice A nd cap, .int .i64 N, .int .i64 keep, .int .u8 mask] 43 (0, 0)) := by rw [← hwb]; exact heap_alloc_new wa _
    have x3 : wc.heap[wb.heap.size]? = some (.cells #[.slice none 0 0, .int .i64 0, .bool false, .bool false, .int .i64 0, .int .i64 0] 39 (0, 0)) := by rw [← hwc]; exact heap_alloc_new wb _
    exact ⟨hD.below b, Kd.R_below hR b, blk_below (blk_below x1 b2) b3, blk_below x2 b3, x3, below_then hb hl b, fun k hk => ⟨fun ho => by have := (hD.rows k ho).2; omega, hk.2, by omega⟩, by omega, by omega, by omega, by omega, blk_below hbm b, by have := blk_lt hbm; omega, by have := blk_lt hbm; omega, hno⟩⟩
  have y0 : wc.cell? ⟨wa.heap.size, 0, none⟩ = some (.int .i64 3) := (blk_cell HS.out.hy 0).trans rfl
  have y1 : wc.cell? ⟨wa.heap.size, 1, none⟩ = some (.string nm_) := (blk_cell HS.out.hy 1).trans rfl
  have y2 : wc.cell? ⟨wa.heap.size, 2, none⟩ = some (.string to_) := (blk_cell HS.out.hy 2).trans rfl
  have y3 : wc.cell? ⟨wa.heap.size, 3, none⟩ = some (.slice A nd cap) := (blk_cell HS.out.hy 3).trans rfl
  have y4 : wc.cell? ⟨wa.heap.size, 4, none⟩ = some (.int .i64 N) := (blk_cell HS.out.hy 4).trans rfl
  have y5 : wc.cell? ⟨wa.heap.size, 5, none⟩ = some (.int .i64 keep) := (blk_cell HS.out.hy 5).trans rfl
  have y6 : wc.cell? ⟨wa.heap.size, 6, none⟩ = some (.int .u8 mask) := (blk_cell HS.out.hy 6).trans rfl
  clear hno hbm hb hD hR hI hc h1 h2 hC hcap hby hdl hN hmask hnd hnu
  obtain ⟨M2, hM2⟩ : ∃ M2, renameD (nm nm_) (nm to_) m nm_ to_ = M2 := ⟨_, rfl⟩
  have hname : path_Name.f (nm_.size + to_.size + 3000000) nm_ = some (nm nm_) := name_f HN1.out (nm_.size + to_.size + 3000000) (by omega)
  have hname2 : path_Name.f (nm_.size + to_.size + 3000000) to_ = some (nm to_) := name_f HN2.out (nm_.size + to_.size + 3000000) (by omega)
  have HT1 := rename_calls (nm_.size + to_.size + 3000000) wc HS.out.isD (p := nm_) (q := to_) (by have := HN1.out; omega) (by have := HN2.out; omega) HOK.out (nm nm_) (nm to_) hname hname2
  rw [hM2] at HT1
  have HT1 := Aside0.mk HT1
  have hf : forebearref06_Rename.f (nm_.size + to_.size + 3000000) m.files m.writes m.armed m.dead m.after m.keep nm_ to_ = some (ret M2) := by rw [← hM2]; exact rename_f HOK.out HI.out.rise HN1.out HN2.out (nm_.size + to_.size + 3000000) (by omega) (by omega) (by omega)
  have HT2 := Aside0.mk (fun (W : World) (hb : Below w0.heap.size w0 W) (hr : Kd.R k76 76 W w0.heap.size (fun k => some k = (Value.slice Au nu cu).ownBlock) (.slice Au nu cu) m.files) => forebearref06_Rename.calls (nm_.size + to_.size + 3000000) (fun k => some k = (Value.slice Au nu cu).ownBlock) (.slice Au nu cu) m.files m.writes m.armed m.dead m.after m.keep nm_ to_ _ _ _ _ _ _ _ w0 W hb hr hf)
  clear hf
  have HIV : Aside0 (Inv (c + 1) M2.1) := ⟨by rw [← hM2]; exact HI.out.renameD (by have := HCC.out; omega) nm_ to_⟩
  clear hM2 hname hname2
  go_enter Try.func15, Try.ntmps15
  go_upto_region 49 with (first | (go_at_call 22; refine (HT1.out).mono ?_; rintro e w1 ⟨rfl, hA⟩; obtain ⟨O1, hS1, hr5⟩ := HS.out.disk hA; have HS1 := Aside0.mk hS1; have HR5 := Aside0.mk hr5; have x0 : w1.cell? ⟨w.heap.size, 0, none⟩ = some (.slice Au nu cu) := (blk_cell hS1.hx 0).trans rfl; have x1 : w1.cell? ⟨w.heap.size, 1, none⟩ = some (.int .i64 m.writes) := (blk_cell hS1.hx 1).trans rfl; have x2 : w1.cell? ⟨w.heap.size, 2, none⟩ = some (.bool m.armed) := (blk_cell hS1.hx 2).trans rfl; have x3 : w1.cell? ⟨w.heap.size, 3, none⟩ = some (.bool m.dead) := (blk_cell hS1.hx 3).trans rfl; have x4 : w1.cell? ⟨w.heap.size, 4, none⟩ = some (.int .i64 m.after) := (blk_cell hS1.hx 4).trans rfl; have x5 : w1.cell? ⟨w.heap.size, 5, none⟩ = some (.int .i64 m.keep) := (blk_cell hS1.hx 5).trans rfl; have y0 : w1.cell? ⟨wa.heap.size, 0, none⟩ = some (.int .i64 3) := (blk_cell hS1.hy 0).trans rfl; have y1 : w1.cell? ⟨wa.heap.size, 1, none⟩ = some (.string nm_) := (blk_cell hS1.hy 1).trans rfl; have y2 : w1.cell? ⟨wa.heap.size, 2, none⟩ = some (.string to_) := (blk_cell hS1.hy 2).trans rfl; have y3 : w1.cell? ⟨wa.heap.size, 3, none⟩ = some (.slice A nd cap) := (blk_cell hS1.hy 3).trans rfl; have y4 : w1.cell? ⟨wa.heap.size, 4, none⟩ = some (.int .i64 N) := (blk_cell hS1.hy 4).trans rfl; have y5 : w1.cell? ⟨wa.heap.size, 5, none⟩ = some (.int .i64 keep) := (blk_cell hS1.hy 5).trans rfl; have y6 : w1.cell? ⟨wa.heap.size, 6, none⟩ = some (.int .u8 mask) := (blk_cell hS1.hy 6).trans rfl; clear hA hS1 hr5) | (go_at_call 37; refine (HT2.out w1 HS1.out.bel (R76_own HS1.out.row)).mono ?_; rintro e w2 ⟨v2, rfl, hR2, hB2, hK2⟩; obtain ⟨A2, c2, hv20⟩ := Kd.R_slice hR2; obtain ⟨n2, hn2⟩ : ∃ n2, (M2.1).files.length = n2 := ⟨_, rfl⟩; have hv2 : v2 = .slice A2 n2 c2 := hv20.trans (by rw [← hn2]); clear hn2 hv20; subst hv2; have HREF := Aside0.mk (HS1.out.ref (mx' := M2.1) hK2 hR2 hB2); have hbx := HREF.out.2.2; have x0 : w2.cell? ⟨w.heap.size, 0, none⟩ = some (.slice Au nu cu) := (blk_cell hbx 0).trans rfl; have x1 : w2.cell? ⟨w.heap.size, 1, none⟩ = some (.int .i64 m.writes) := (blk_cell hbx 1).trans rfl; have x2 : w2.cell? ⟨w.heap.size, 2, none⟩ = some (.bool m.armed) := (blk_cell hbx 2).trans rfl; have x3 : w2.cell? ⟨w.heap.size, 3, none⟩ = some (.bool m.dead) := (blk_cell hbx 3).trans rfl; have x4 : w2.cell? ⟨w.heap.size, 4, none⟩ = some (.int .i64 m.after) := (blk_cell hbx 4).trans rfl; have x5 : w2.cell? ⟨w.heap.size, 5, none⟩ = some (.int .i64 m.keep) := (blk_cell hbx 5).trans rfl; have xf0 : w2.frozen? ⟨w.heap.size, 0, none⟩ = false := blk_frozen hbx 0; have xf1 : w2.frozen? ⟨w.heap.size, 1, none⟩ = false := blk_frozen hbx 1; have xf2 : w2.frozen? ⟨w.heap.size, 2, none⟩ = false := blk_frozen hbx 2; have xf3 : w2.frozen? ⟨w.heap.size, 3, none⟩ = false := blk_frozen hbx 3; have xf4 : w2.frozen? ⟨w.heap.size, 4, none⟩ = false := blk_frozen hbx 4; have xf5 : w2.frozen? ⟨w.heap.size, 5, none⟩ = false := blk_frozen hbx 5; clear hR2 hB2 hK2 hbx))
  obtain ⟨w3, hw3⟩ : ∃ w3, ((((((w2.setCell ⟨w.heap.size, 0, none⟩ (.slice A2 n2 c2)).setCell ⟨w.heap.size, 1, none⟩ (.int .i64 M2.1.writes)).setCell ⟨w.heap.size, 2, none⟩ (.bool M2.1.armed)).setCell ⟨w.heap.size, 3, none⟩ (.bool M2.1.dead)).setCell ⟨w.heap.size, 4, none⟩ (.int .i64 M2.1.after)).setCell ⟨w.heap.size, 5, none⟩ (.int .i64 M2.1.keep)) = w3 := ⟨_, rfl⟩
  have HS3 := HREF.out.1
  rw [hw3] at HS3 ⊢
  have HS3 := Aside0.mk HS3
  have HS4 := Aside0.mk (HS3.out.below (below_drew (Below.refl _ _)))
  obtain ⟨w4, hw4⟩ : ∃ w4, w3.drew = w4 := ⟨_, rfl⟩
  rw [hw4] at HS4
  have NE1 := HS4.out.ne
  have NE2 := HS4.out.ne.symm
  clear hw3 x0 x1 x2 x3 x4 x5
  have x0 : w4.cell? ⟨w.heap.size, 0, none⟩ = some (.slice A2 n2 c2) := (blk_cell HS4.out.hx 0).trans rfl
  have x1 : w4.cell? ⟨w.heap.size, 1, none⟩ = some (.int .i64 M2.1.writes) := (blk_cell HS4.out.hx 1).trans rfl
  have x2 : w4.cell? ⟨w.heap.size, 2, none⟩ = some (.bool M2.1.armed) := (blk_cell HS4.out.hx 2).trans rfl
  have x3 : w4.cell? ⟨w.heap.size, 3, none⟩ = some (.bool M2.1.dead) := (blk_cell HS4.out.hx 3).trans rfl
  have x4 : w4.cell? ⟨w.heap.size, 4, none⟩ = some (.int .i64 M2.1.after) := (blk_cell HS4.out.hx 4).trans rfl
  have x5 : w4.cell? ⟨w.heap.size, 5, none⟩ = some (.int .i64 M2.1.keep) := (blk_cell HS4.out.hx 5).trans rfl
  have z0 : w4.cell? ⟨wb.heap.size, 0, none⟩ = some (.slice none 0 0) := (blk_cell HS4.out.hz 0).trans rfl
  have z1 : w4.cell? ⟨wb.heap.size, 1, none⟩ = some (.int .i64 0) := (blk_cell HS4.out.hz 1).trans rfl
  have z2 : w4.cell? ⟨wb.heap.size, 2, none⟩ = some (.bool false) := (blk_cell HS4.out.hz 2).trans rfl
  have z3 : w4.cell? ⟨wb.heap.size, 3, none⟩ = some (.bool false) := (blk_cell HS4.out.hz 3).trans rfl
  have z4 : w4.cell? ⟨wb.heap.size, 4, none⟩ = some (.int .i64 0) := (blk_cell HS4.out.hz 4).trans rfl
  have z5 : w4.cell? ⟨wb.heap.size, 5, none⟩ = some (.int .i64 0) := (blk_cell HS4.out.hz 5).trans rfl
  have zf0 : w4.frozen? ⟨wb.heap.size, 0, none⟩ = false := blk_frozen HS4.out.hz 0
  have zf1 : w4.frozen? ⟨wb.heap.size, 1, none⟩ = false := blk_frozen HS4.out.hz 1
  have zf2 : w4.frozen? ⟨wb.heap.size, 2, none⟩ = false := blk_frozen HS4.out.hz 2
  have zf3 : w4.frozen? ⟨wb.heap.size, 3, none⟩ = false := blk_frozen HS4.out.hz 3
  have zf4 : w4.frozen? ⟨wb.heap.size, 4, none⟩ = false := blk_frozen HS4.out.hz 4
  have zf5 : w4.frozen? ⟨wb.heap.size, 5, none⟩ = false := blk_frozen HS4.out.hz 5
  have hee : (M2.2 == M2.2) = true := beq_self_eq_true _
  go_region
  go_wp2
  have HF := HS4.out.fin
  refine bodyPost_ret (results_list (rs := [.tmp 6, .cell 7 39, .tmp 8]) rfl (by simp) (.tmp (.cell wb.heap.size 39 #[.slice A2 n2 c2, .int .i64 M2.1.writes, .bool M2.1.armed, .bool M2.1.dead, .int .i64 M2.1.after, .int .i64 M2.1.keep] (0, 0) _ rfl HF.2.2.1 Try.underlying39 rfl (by kernel_rfl) (.tmp .nil)))) rfl ?_
  exact ⟨d, mb, M2.1, .slice A2 n2 c2, rfl, HF.1, HIV.out, HF.2.1, HF.2.2.2⟩

set_option maxRecDepth 100000 in
set_option maxHeartbeats 16000000 in
theorem play4_calls (w0 w : World) {d mb c : Nat} {m : DS} {u : Value} {bm : Nat} {XB : Array Value} (hb : Below w0.heap.size w0 w) (hp : Pair w w0.heap.size d mb m u bm) (hI : Inv c m) (hc : c + 1 ≤ 1000) {nm_ to_ : ByteArray} (h1 : nm_.size ≤ 140737488351232) (h2 : to_.size ≤ 140737488351232) {A : Option Addr} {cap : Nat} {data : List Int} (hC : ∀ W, Below w0.heap.size w0 W → Kd.C (Kd.int .u8) W A data.length data) (hcap : data.length ≤ cap) (hby : Bytes data) (hdl : data.length ≤ 140737488351232) (N keep mask : Int) (hN : N ≤ 9223372036854775807) (hmask : 0 ≤ mask ∧ mask < 256) (hbm : w.heap[bm]? = some (.cells XB 39 (0, 0))) : PlaySaid w0 w d c m u 4 nm_ to_ A data.length cap N keep mask bm XB := by
  unfold PlaySaid
  obtain ⟨O, hD, hR, hno⟩ := hp
  have HI := Aside0.mk hI
  have HOK := Aside0.mk (hI.ok (by omega))
  have HN1 := Aside0.mk h1
  have HN2 := Aside0.mk h2
  have HCAP := Aside0.mk hcap
  have HBY := Aside0.mk hby
  have HDL := Aside0.mk hdl
  have HNN := Aside0.mk hN
  have HMK := Aside0.mk hmask
  have HCC := Aside0.mk hc
  obtain ⟨nd, hnd⟩ : ∃ nd, data.length = nd := ⟨_, rfl⟩
  have HND := Aside0.mk hnd
  have HC := Aside0.mk hC
  rw [hnd] at HC HCAP ⊢
  obtain ⟨Au, cu, hu⟩ := Kd.R_slice hR
  obtain ⟨nu, hnu⟩ : ∃ nu, m.files.length = nu := ⟨_, rfl⟩
  have HNU := Aside0.mk hnu
  rw [hnu] at hu
  subst hu
  obtain ⟨wa, hwa⟩ : ∃ wa, w.alloc (.cells #[.slice Au nu cu, .int .i64 m.writes, .bool m.armed, .bool m.dead, .int .i64 m.after, .int .i64 m.keep] 39) = wa := ⟨_, rfl⟩
  obtain ⟨wb, hwb⟩ : ∃ wb, wa.alloc (.cells #[.int .i64 4, .string nm_, .string to_, .slice A nd cap, .int .i64 N, .int .i64 keep, .int .u8 mask] 43) = wb := ⟨_, rfl⟩
  obtain ⟨wc, hwc⟩ : ∃ wc, wb.alloc (.cells #[.slice none 0 0, .int .i64 0, .bool false, .bool false, .int .i64 0, .int .i64 0] 39) = wc := ⟨_, rfl⟩
  have HS : Aside0 (St w0 wc O (fun k => w.heap.size ≤ k ∧ k < wc.heap.size) d mb w.heap.size wa.heap.size wb.heap.size m m (.slice Au nu cu) #[.int .i64 4, .string nm_, .string to_, .slice A nd cap, .int .i64 N, .int .i64 keep, .int .u8 mask] bm XB) := ⟨by
    have hl := hD.base_lt
    have b1 : Below w.heap.size w wa := by rw [← hwa]; exact below_alloc (Below.refl _ _) _
    have b2 : Below wa.heap.size wa wb := by rw [← hwb]; exact below_alloc (Below.refl _ _) _
    have b3 : Below wb.heap.size wb wc := by rw [← hwc]; exact below_alloc (Below.refl _ _) _
    have s1 : wa.heap.size = w.heap.size + 1 := by rw [← hwa]; simp
    have s2 : wb.heap.size = wa.heap.size + 1 := by rw [← hwb]; simp
    have s3 : wc.heap.size = wb.heap.size + 1 := by rw [← hwc]; simp
    have b := below_then (below_then b1 b1.size b2) (by omega : w.heap.size ≤ wb.heap.size) b3
    have x1 : wa.heap[w.heap.size]? = some (.cells #[.slice Au nu cu, .int .i64 m.writes, .bool m.armed, .bool m.dead, .int .i64 m.after, .int .i64 m.keep] 39 (0, 0)) := by rw [← hwa]; exact heap_alloc_new w _
    have x2 : wb.heap[wa.heap.size]? = some (.cells #[.int .i64 4, .string nm_, .string to_, .slice A nd cap, .int .i64 N, .int .i64 keep, .int .u8 mask] 43 (0, 0)) := by rw [← hwb]; exact heap_alloc_new wa _
    have x3 : wc.heap[wb.heap.size]? = some (.cells #[.slice none 0 0, .int .i64 0, .bool false, .bool false, .int .i64 0, .int .i64 0] 39 (0, 0)) := by rw [← hwc]; exact heap_alloc_new wb _
    exact ⟨hD.below b, Kd.R_below hR b, blk_below (blk_below x1 b2) b3, blk_below x2 b3, x3, below_then hb hl b, fun k hk => ⟨fun ho => by have := (hD.rows k ho).2; omega, hk.2, by omega⟩, by omega, by omega, by omega, by omega, blk_below hbm b, by have := blk_lt hbm; omega, by have := blk_lt hbm; omega, hno⟩⟩
  have y0 : wc.cell? ⟨wa.heap.size, 0, none⟩ = some (.int .i64 4) := (blk_cell HS.out.hy 0).trans rfl
  have y1 : wc.cell? ⟨wa.heap.size, 1, none⟩ = some (.string nm_) := (blk_cell HS.out.hy 1).trans rfl
  have y2 : wc.cell? ⟨wa.heap.size, 2, none⟩ = some (.string to_) := (blk_cell HS.out.hy 2).trans rfl
  have y3 : wc.cell? ⟨wa.heap.size, 3, none⟩ = some (.slice A nd cap) := (blk_cell HS.out.hy 3).trans rfl
  have y4 : wc.cell? ⟨wa.heap.size, 4, none⟩ = some (.int .i64 N) := (blk_cell HS.out.hy 4).trans rfl
  have y5 : wc.cell? ⟨wa.heap.size, 5, none⟩ = some (.int .i64 keep) := (blk_cell HS.out.hy 5).trans rfl
  have y6 : wc.cell? ⟨wa.heap.size, 6, none⟩ = some (.int .u8 mask) := (blk_cell HS.out.hy 6).trans rfl
  clear hno hbm hb hD hR hI hc h1 h2 hC hcap hby hdl hN hmask hnd hnu
  obtain ⟨M2, hM2⟩ : ∃ M2, removeD (nm nm_) m nm_ = M2 := ⟨_, rfl⟩
  have hname : path_Name.f (nm_.size + to_.size + 3000000) nm_ = some (nm nm_) := name_f HN1.out (nm_.size + to_.size + 3000000) (by omega)
  have hname2 : path_Name.f (nm_.size + to_.size + 3000000) to_ = some (nm to_) := name_f HN2.out (nm_.size + to_.size + 3000000) (by omega)
  have HT1 := remove_calls (nm_.size + to_.size + 3000000) wc HS.out.isD (p := nm_) (by have := HN1.out; omega) HOK.out (nm nm_) hname
  rw [hM2] at HT1
  have HT1 := Aside0.mk HT1
  have hf : forebearref06_Remove.f (nm_.size + to_.size + 3000000) m.files m.writes m.armed m.dead m.after m.keep nm_ = some (ret M2) := by rw [← hM2]; exact remove_f HOK.out HI.out.rise HN1.out (nm_.size + to_.size + 3000000) (by omega) (by omega)
  have HT2 := Aside0.mk (fun (W : World) (hb : Below w0.heap.size w0 W) (hr : Kd.R k76 76 W w0.heap.size (fun k => some k = (Value.slice Au nu cu).ownBlock) (.slice Au nu cu) m.files) => forebearref06_Remove.calls (nm_.size + to_.size + 3000000) (fun k => some k = (Value.slice Au nu cu).ownBlock) (.slice Au nu cu) m.files m.writes m.armed m.dead m.after m.keep nm_ _ _ _ _ _ _ _ w0 W hb hr hf)
  clear hf
  have HIV : Aside0 (Inv (c + 1) M2.1) := ⟨by rw [← hM2]; exact HI.out.removeD nm_⟩
  clear hM2 hname hname2
  go_enter Try.func15, Try.ntmps15
  go_upto_region 49 with (first | (go_at_call 14; refine (HT1.out).mono ?_; rintro e w1 ⟨rfl, hA⟩; obtain ⟨O1, hS1, hr5⟩ := HS.out.disk hA; have HS1 := Aside0.mk hS1; have HR5 := Aside0.mk hr5; have x0 : w1.cell? ⟨w.heap.size, 0, none⟩ = some (.slice Au nu cu) := (blk_cell hS1.hx 0).trans rfl; have x1 : w1.cell? ⟨w.heap.size, 1, none⟩ = some (.int .i64 m.writes) := (blk_cell hS1.hx 1).trans rfl; have x2 : w1.cell? ⟨w.heap.size, 2, none⟩ = some (.bool m.armed) := (blk_cell hS1.hx 2).trans rfl; have x3 : w1.cell? ⟨w.heap.size, 3, none⟩ = some (.bool m.dead) := (blk_cell hS1.hx 3).trans rfl; have x4 : w1.cell? ⟨w.heap.size, 4, none⟩ = some (.int .i64 m.after) := (blk_cell hS1.hx 4).trans rfl; have x5 : w1.cell? ⟨w.heap.size, 5, none⟩ = some (.int .i64 m.keep) := (blk_cell hS1.hx 5).trans rfl; have y0 : w1.cell? ⟨wa.heap.size, 0, none⟩ = some (.int .i64 4) := (blk_cell hS1.hy 0).trans rfl; have y1 : w1.cell? ⟨wa.heap.size, 1, none⟩ = some (.string nm_) := (blk_cell hS1.hy 1).trans rfl; have y2 : w1.cell? ⟨wa.heap.size, 2, none⟩ = some (.string to_) := (blk_cell hS1.hy 2).trans rfl; have y3 : w1.cell? ⟨wa.heap.size, 3, none⟩ = some (.slice A nd cap) := (blk_cell hS1.hy 3).trans rfl; have y4 : w1.cell? ⟨wa.heap.size, 4, none⟩ = some (.int .i64 N) := (blk_cell hS1.hy 4).trans rfl; have y5 : w1.cell? ⟨wa.heap.size, 5, none⟩ = some (.int .i64 keep) := (blk_cell hS1.hy 5).trans rfl; have y6 : w1.cell? ⟨wa.heap.size, 6, none⟩ = some (.int .u8 mask) := (blk_cell hS1.hy 6).trans rfl; clear hA hS1 hr5) | (go_at_call 38; refine (HT2.out w1 HS1.out.bel (R76_own HS1.out.row)).mono ?_; rintro e w2 ⟨v2, rfl, hR2, hB2, hK2⟩; obtain ⟨A2, c2, hv20⟩ := Kd.R_slice hR2; obtain ⟨n2, hn2⟩ : ∃ n2, (M2.1).files.length = n2 := ⟨_, rfl⟩; have hv2 : v2 = .slice A2 n2 c2 := hv20.trans (by rw [← hn2]); clear hn2 hv20; subst hv2; have HREF := Aside0.mk (HS1.out.ref (mx' := M2.1) hK2 hR2 hB2); have hbx := HREF.out.2.2; have x0 : w2.cell? ⟨w.heap.size, 0, none⟩ = some (.slice Au nu cu) := (blk_cell hbx 0).trans rfl; have x1 : w2.cell? ⟨w.heap.size, 1, none⟩ = some (.int .i64 m.writes) := (blk_cell hbx 1).trans rfl; have x2 : w2.cell? ⟨w.heap.size, 2, none⟩ = some (.bool m.armed) := (blk_cell hbx 2).trans rfl; have x3 : w2.cell? ⟨w.heap.size, 3, none⟩ = some (.bool m.dead) := (blk_cell hbx 3).trans rfl; have x4 : w2.cell? ⟨w.heap.size, 4, none⟩ = some (.int .i64 m.after) := (blk_cell hbx 4).trans rfl; have x5 : w2.cell? ⟨w.heap.size, 5, none⟩ = some (.int .i64 m.keep) := (blk_cell hbx 5).trans rfl; have xf0 : w2.frozen? ⟨w.heap.size, 0, none⟩ = false := blk_frozen hbx 0; have xf1 : w2.frozen? ⟨w.heap.size, 1, none⟩ = false := blk_frozen hbx 1; have xf2 : w2.frozen? ⟨w.heap.size, 2, none⟩ = false := blk_frozen hbx 2; have xf3 : w2.frozen? ⟨w.heap.size, 3, none⟩ = false := blk_frozen hbx 3; have xf4 : w2.frozen? ⟨w.heap.size, 4, none⟩ = false := blk_frozen hbx 4; have xf5 : w2.frozen? ⟨w.heap.size, 5, none⟩ = false := blk_frozen hbx 5; clear hR2 hB2 hK2 hbx))
  obtain ⟨w3, hw3⟩ : ∃ w3, ((((((w2.setCell ⟨w.heap.size, 0, none⟩ (.slice A2 n2 c2)).setCell ⟨w.heap.size, 1, none⟩ (.int .i64 M2.1.writes)).setCell ⟨w.heap.size, 2, none⟩ (.bool M2.1.armed)).setCell ⟨w.heap.size, 3, none⟩ (.bool M2.1.dead)).setCell ⟨w.heap.size, 4, none⟩ (.int .i64 M2.1.after)).setCell ⟨w.heap.size, 5, none⟩ (.int .i64 M2.1.keep)) = w3 := ⟨_, rfl⟩
  have HS3 := HREF.out.1
  rw [hw3] at HS3 ⊢
  have HS3 := Aside0.mk HS3
  have HS4 := Aside0.mk (HS3.out.below (below_drew (Below.refl _ _)))
  obtain ⟨w4, hw4⟩ : ∃ w4, w3.drew = w4 := ⟨_, rfl⟩
  rw [hw4] at HS4
  have NE1 := HS4.out.ne
  have NE2 := HS4.out.ne.symm
  clear hw3 x0 x1 x2 x3 x4 x5
  have x0 : w4.cell? ⟨w.heap.size, 0, none⟩ = some (.slice A2 n2 c2) := (blk_cell HS4.out.hx 0).trans rfl
  have x1 : w4.cell? ⟨w.heap.size, 1, none⟩ = some (.int .i64 M2.1.writes) := (blk_cell HS4.out.hx 1).trans rfl
  have x2 : w4.cell? ⟨w.heap.size, 2, none⟩ = some (.bool M2.1.armed) := (blk_cell HS4.out.hx 2).trans rfl
  have x3 : w4.cell? ⟨w.heap.size, 3, none⟩ = some (.bool M2.1.dead) := (blk_cell HS4.out.hx 3).trans rfl
  have x4 : w4.cell? ⟨w.heap.size, 4, none⟩ = some (.int .i64 M2.1.after) := (blk_cell HS4.out.hx 4).trans rfl
  have x5 : w4.cell? ⟨w.heap.size, 5, none⟩ = some (.int .i64 M2.1.keep) := (blk_cell HS4.out.hx 5).trans rfl
  have z0 : w4.cell? ⟨wb.heap.size, 0, none⟩ = some (.slice none 0 0) := (blk_cell HS4.out.hz 0).trans rfl
  have z1 : w4.cell? ⟨wb.heap.size, 1, none⟩ = some (.int .i64 0) := (blk_cell HS4.out.hz 1).trans rfl
  have z2 : w4.cell? ⟨wb.heap.size, 2, none⟩ = some (.bool false) := (blk_cell HS4.out.hz 2).trans rfl
  have z3 : w4.cell? ⟨wb.heap.size, 3, none⟩ = some (.bool false) := (blk_cell HS4.out.hz 3).trans rfl
  have z4 : w4.cell? ⟨wb.heap.size, 4, none⟩ = some (.int .i64 0) := (blk_cell HS4.out.hz 4).trans rfl
  have z5 : w4.cell? ⟨wb.heap.size, 5, none⟩ = some (.int .i64 0) := (blk_cell HS4.out.hz 5).trans rfl
  have zf0 : w4.frozen? ⟨wb.heap.size, 0, none⟩ = false := blk_frozen HS4.out.hz 0
  have zf1 : w4.frozen? ⟨wb.heap.size, 1, none⟩ = false := blk_frozen HS4.out.hz 1
  have zf2 : w4.frozen? ⟨wb.heap.size, 2, none⟩ = false := blk_frozen HS4.out.hz 2
  have zf3 : w4.frozen? ⟨wb.heap.size, 3, none⟩ = false := blk_frozen HS4.out.hz 3
  have zf4 : w4.frozen? ⟨wb.heap.size, 4, none⟩ = false := blk_frozen HS4.out.hz 4
  have zf5 : w4.frozen? ⟨wb.heap.size, 5, none⟩ = false := blk_frozen HS4.out.hz 5
  have hee : (M2.2 == M2.2) = true := beq_self_eq_true _
  go_region
  go_wp2
  have HF := HS4.out.fin
  refine bodyPost_ret (results_list (rs := [.tmp 6, .cell 7 39, .tmp 8]) rfl (by simp) (.tmp (.cell wb.heap.size 39 #[.slice A2 n2 c2, .int .i64 M2.1.writes, .bool M2.1.armed, .bool M2.1.dead, .int .i64 M2.1.after, .int .i64 M2.1.keep] (0, 0) _ rfl HF.2.2.1 Try.underlying39 rfl (by kernel_rfl) (.tmp .nil)))) rfl ?_
  exact ⟨d, mb, M2.1, .slice A2 n2 c2, rfl, HF.1, HIV.out, HF.2.1, HF.2.2.2⟩

set_option maxRecDepth 100000 in
set_option maxHeartbeats 16000000 in
theorem play5_calls (w0 w : World) {d mb c : Nat} {m : DS} {u : Value} {bm : Nat} {XB : Array Value} (hb : Below w0.heap.size w0 w) (hp : Pair w w0.heap.size d mb m u bm) (hI : Inv c m) (hc : c + 1 ≤ 1000) {nm_ to_ : ByteArray} (h1 : nm_.size ≤ 140737488351232) (h2 : to_.size ≤ 140737488351232) {A : Option Addr} {cap : Nat} {data : List Int} (hC : ∀ W, Below w0.heap.size w0 W → Kd.C (Kd.int .u8) W A data.length data) (hcap : data.length ≤ cap) (hby : Bytes data) (hdl : data.length ≤ 140737488351232) (N keep mask : Int) (hN : N ≤ 9223372036854775807) (hmask : 0 ≤ mask ∧ mask < 256) (hbm : w.heap[bm]? = some (.cells XB 39 (0, 0))) : PlaySaid w0 w d c m u 5 nm_ to_ A data.length cap N keep mask bm XB := by
  unfold PlaySaid
  obtain ⟨O, hD, hR, hno⟩ := hp
  have HI := Aside0.mk hI
  have HOK := Aside0.mk (hI.ok (by omega))
  have HN1 := Aside0.mk h1
  have HN2 := Aside0.mk h2
  have HCAP := Aside0.mk hcap
  have HBY := Aside0.mk hby
  have HDL := Aside0.mk hdl
  have HNN := Aside0.mk hN
  have HMK := Aside0.mk hmask
  have HCC := Aside0.mk hc
  obtain ⟨nd, hnd⟩ : ∃ nd, data.length = nd := ⟨_, rfl⟩
  have HND := Aside0.mk hnd
  have HC := Aside0.mk hC
  rw [hnd] at HC HCAP ⊢
  obtain ⟨Au, cu, hu⟩ := Kd.R_slice hR
  obtain ⟨nu, hnu⟩ : ∃ nu, m.files.length = nu := ⟨_, rfl⟩
  have HNU := Aside0.mk hnu
  rw [hnu] at hu
  subst hu
  obtain ⟨wa, hwa⟩ : ∃ wa, w.alloc (.cells #[.slice Au nu cu, .int .i64 m.writes, .bool m.armed, .bool m.dead, .int .i64 m.after, .int .i64 m.keep] 39) = wa := ⟨_, rfl⟩
  obtain ⟨wb, hwb⟩ : ∃ wb, wa.alloc (.cells #[.int .i64 5, .string nm_, .string to_, .slice A nd cap, .int .i64 N, .int .i64 keep, .int .u8 mask] 43) = wb := ⟨_, rfl⟩
  obtain ⟨wc, hwc⟩ : ∃ wc, wb.alloc (.cells #[.slice none 0 0, .int .i64 0, .bool false, .bool false, .int .i64 0, .int .i64 0] 39) = wc := ⟨_, rfl⟩
  have HS : Aside0 (St w0 wc O (fun k => w.heap.size ≤ k ∧ k < wc.heap.size) d mb w.heap.size wa.heap.size wb.heap.size m m (.slice Au nu cu) #[.int .i64 5, .string nm_, .string to_, .slice A nd cap, .int .i64 N, .int .i64 keep, .int .u8 mask] bm XB) := ⟨by
    have hl := hD.base_lt
    have b1 : Below w.heap.size w wa := by rw [← hwa]; exact below_alloc (Below.refl _ _) _
    have b2 : Below wa.heap.size wa wb := by rw [← hwb]; exact below_alloc (Below.refl _ _) _
    have b3 : Below wb.heap.size wb wc := by rw [← hwc]; exact below_alloc (Below.refl _ _) _
    have s1 : wa.heap.size = w.heap.size + 1 := by rw [← hwa]; simp
    have s2 : wb.heap.size = wa.heap.size + 1 := by rw [← hwb]; simp
    have s3 : wc.heap.size = wb.heap.size + 1 := by rw [← hwc]; simp
    have b := below_then (below_then b1 b1.size b2) (by omega : w.heap.size ≤ wb.heap.size) b3
    have x1 : wa.heap[w.heap.size]? = some (.cells #[.slice Au nu cu, .int .i64 m.writes, .bool m.armed, .bool m.dead, .int .i64 m.after, .int .i64 m.keep] 39 (0, 0)) := by rw [← hwa]; exact heap_alloc_new w _
    have x2 : wb.heap[wa.heap.size]? = some (.cells #[.int .i64 5, .string nm_, .string to_, .slice A nd cap, .int .i64 N, .int .i64 keep, .int .u8 mask] 43 (0, 0)) := by rw [← hwb]; exact heap_alloc_new wa _
    have x3 : wc.heap[wb.heap.size]? = some (.cells #[.slice none 0 0, .int .i64 0, .bool false, .bool false, .int .i64 0, .int .i64 0] 39 (0, 0)) := by rw [← hwc]; exact heap_alloc_new wb _
    exact ⟨hD.below b, Kd.R_below hR b, blk_below (blk_below x1 b2) b3, blk_below x2 b3, x3, below_then hb hl b, fun k hk => ⟨fun ho => by have := (hD.rows k ho).2; omega, hk.2, by omega⟩, by omega, by omega, by omega, by omega, blk_below hbm b, by have := blk_lt hbm; omega, by have := blk_lt hbm; omega, hno⟩⟩
  have y0 : wc.cell? ⟨wa.heap.size, 0, none⟩ = some (.int .i64 5) := (blk_cell HS.out.hy 0).trans rfl
  have y1 : wc.cell? ⟨wa.heap.size, 1, none⟩ = some (.string nm_) := (blk_cell HS.out.hy 1).trans rfl
  have y2 : wc.cell? ⟨wa.heap.size, 2, none⟩ = some (.string to_) := (blk_cell HS.out.hy 2).trans rfl
  have y3 : wc.cell? ⟨wa.heap.size, 3, none⟩ = some (.slice A nd cap) := (blk_cell HS.out.hy 3).trans rfl
  have y4 : wc.cell? ⟨wa.heap.size, 4, none⟩ = some (.int .i64 N) := (blk_cell HS.out.hy 4).trans rfl
  have y5 : wc.cell? ⟨wa.heap.size, 5, none⟩ = some (.int .i64 keep) := (blk_cell HS.out.hy 5).trans rfl
  have y6 : wc.cell? ⟨wa.heap.size, 6, none⟩ = some (.int .u8 mask) := (blk_cell HS.out.hy 6).trans rfl
  clear hno hbm hb hD hR hI hc h1 h2 hC hcap hby hdl hN hmask hnd hnu
  obtain ⟨M2, hM2⟩ : ∃ M2, cutD m N keep = M2 := ⟨_, rfl⟩
  have hname : path_Name.f (nm_.size + to_.size + 3000000) nm_ = some (nm nm_) := name_f HN1.out (nm_.size + to_.size + 3000000) (by omega)
  have hname2 : path_Name.f (nm_.size + to_.size + 3000000) to_ = some (nm to_) := name_f HN2.out (nm_.size + to_.size + 3000000) (by omega)
  have HT1 := cut_calls wc HS.out.isD N keep
  rw [hM2] at HT1
  have HT1 := Aside0.mk HT1
  have hf : forebearref06_Cut.f (nm_.size + to_.size + 3000000) m.files m.writes m.armed m.dead m.after m.keep N keep = some (ret M2) := by rw [← hM2]; exact cut_f N keep (nm_.size + to_.size + 3000000) (by omega)
  have HT2 := Aside0.mk (fun (W : World) (hb : Below w0.heap.size w0 W) (hr : Kd.R k76 76 W w0.heap.size (fun k => some k = (Value.slice Au nu cu).ownBlock) (.slice Au nu cu) m.files) => forebearref06_Cut.calls (nm_.size + to_.size + 3000000) (fun k => some k = (Value.slice Au nu cu).ownBlock) (.slice Au nu cu) m.files m.writes m.armed m.dead m.after m.keep N keep _ _ _ _ _ _ _ w0 W hb hr hf)
  clear hf
  have HIV : Aside0 (Inv (c + 1) M2.1) := ⟨by rw [← hM2]; exact (HI.out.cutD N keep HNN.out).le (by omega)⟩
  clear hM2 hname hname2
  go_enter Try.func15, Try.ntmps15
  go_upto_region 49 with (first | (go_at_call 19; refine (HT1.out).mono ?_; rintro e w1 ⟨rfl, hA⟩; obtain ⟨O1, hS1, hr5⟩ := HS.out.disk hA; have HS1 := Aside0.mk hS1; have HR5 := Aside0.mk hr5; have x0 : w1.cell? ⟨w.heap.size, 0, none⟩ = some (.slice Au nu cu) := (blk_cell hS1.hx 0).trans rfl; have x1 : w1.cell? ⟨w.heap.size, 1, none⟩ = some (.int .i64 m.writes) := (blk_cell hS1.hx 1).trans rfl; have x2 : w1.cell? ⟨w.heap.size, 2, none⟩ = some (.bool m.armed) := (blk_cell hS1.hx 2).trans rfl; have x3 : w1.cell? ⟨w.heap.size, 3, none⟩ = some (.bool m.dead) := (blk_cell hS1.hx 3).trans rfl; have x4 : w1.cell? ⟨w.heap.size, 4, none⟩ = some (.int .i64 m.after) := (blk_cell hS1.hx 4).trans rfl; have x5 : w1.cell? ⟨w.heap.size, 5, none⟩ = some (.int .i64 m.keep) := (blk_cell hS1.hx 5).trans rfl; have y0 : w1.cell? ⟨wa.heap.size, 0, none⟩ = some (.int .i64 5) := (blk_cell hS1.hy 0).trans rfl; have y1 : w1.cell? ⟨wa.heap.size, 1, none⟩ = some (.string nm_) := (blk_cell hS1.hy 1).trans rfl; have y2 : w1.cell? ⟨wa.heap.size, 2, none⟩ = some (.string to_) := (blk_cell hS1.hy 2).trans rfl; have y3 : w1.cell? ⟨wa.heap.size, 3, none⟩ = some (.slice A nd cap) := (blk_cell hS1.hy 3).trans rfl; have y4 : w1.cell? ⟨wa.heap.size, 4, none⟩ = some (.int .i64 N) := (blk_cell hS1.hy 4).trans rfl; have y5 : w1.cell? ⟨wa.heap.size, 5, none⟩ = some (.int .i64 keep) := (blk_cell hS1.hy 5).trans rfl; have y6 : w1.cell? ⟨wa.heap.size, 6, none⟩ = some (.int .u8 mask) := (blk_cell hS1.hy 6).trans rfl; clear hA hS1 hr5) | (go_at_call 39; refine (HT2.out w1 HS1.out.bel (R76_own HS1.out.row)).mono ?_; rintro e w2 ⟨v2, rfl, hR2, hB2, hK2⟩; obtain ⟨A2, c2, hv20⟩ := Kd.R_slice hR2; obtain ⟨n2, hn2⟩ : ∃ n2, (M2.1).files.length = n2 := ⟨_, rfl⟩; have hv2 : v2 = .slice A2 n2 c2 := hv20.trans (by rw [← hn2]); clear hn2 hv20; subst hv2; have HREF := Aside0.mk (HS1.out.ref (mx' := M2.1) hK2 hR2 hB2); have hbx := HREF.out.2.2; have x0 : w2.cell? ⟨w.heap.size, 0, none⟩ = some (.slice Au nu cu) := (blk_cell hbx 0).trans rfl; have x1 : w2.cell? ⟨w.heap.size, 1, none⟩ = some (.int .i64 m.writes) := (blk_cell hbx 1).trans rfl; have x2 : w2.cell? ⟨w.heap.size, 2, none⟩ = some (.bool m.armed) := (blk_cell hbx 2).trans rfl; have x3 : w2.cell? ⟨w.heap.size, 3, none⟩ = some (.bool m.dead) := (blk_cell hbx 3).trans rfl; have x4 : w2.cell? ⟨w.heap.size, 4, none⟩ = some (.int .i64 m.after) := (blk_cell hbx 4).trans rfl; have x5 : w2.cell? ⟨w.heap.size, 5, none⟩ = some (.int .i64 m.keep) := (blk_cell hbx 5).trans rfl; have xf0 : w2.frozen? ⟨w.heap.size, 0, none⟩ = false := blk_frozen hbx 0; have xf1 : w2.frozen? ⟨w.heap.size, 1, none⟩ = false := blk_frozen hbx 1; have xf2 : w2.frozen? ⟨w.heap.size, 2, none⟩ = false := blk_frozen hbx 2; have xf3 : w2.frozen? ⟨w.heap.size, 3, none⟩ = false := blk_frozen hbx 3; have xf4 : w2.frozen? ⟨w.heap.size, 4, none⟩ = false := blk_frozen hbx 4; have xf5 : w2.frozen? ⟨w.heap.size, 5, none⟩ = false := blk_frozen hbx 5; clear hR2 hB2 hK2 hbx))
  obtain ⟨w3, hw3⟩ : ∃ w3, ((((((w2.setCell ⟨w.heap.size, 0, none⟩ (.slice A2 n2 c2)).setCell ⟨w.heap.size, 1, none⟩ (.int .i64 M2.1.writes)).setCell ⟨w.heap.size, 2, none⟩ (.bool M2.1.armed)).setCell ⟨w.heap.size, 3, none⟩ (.bool M2.1.dead)).setCell ⟨w.heap.size, 4, none⟩ (.int .i64 M2.1.after)).setCell ⟨w.heap.size, 5, none⟩ (.int .i64 M2.1.keep)) = w3 := ⟨_, rfl⟩
  have HS3 := HREF.out.1
  rw [hw3] at HS3 ⊢
  have HS3 := Aside0.mk HS3
  have HS4 := Aside0.mk (HS3.out.below (below_drew (Below.refl _ _)))
  obtain ⟨w4, hw4⟩ : ∃ w4, w3.drew = w4 := ⟨_, rfl⟩
  rw [hw4] at HS4
  have NE1 := HS4.out.ne
  have NE2 := HS4.out.ne.symm
  clear hw3 x0 x1 x2 x3 x4 x5
  have x0 : w4.cell? ⟨w.heap.size, 0, none⟩ = some (.slice A2 n2 c2) := (blk_cell HS4.out.hx 0).trans rfl
  have x1 : w4.cell? ⟨w.heap.size, 1, none⟩ = some (.int .i64 M2.1.writes) := (blk_cell HS4.out.hx 1).trans rfl
  have x2 : w4.cell? ⟨w.heap.size, 2, none⟩ = some (.bool M2.1.armed) := (blk_cell HS4.out.hx 2).trans rfl
  have x3 : w4.cell? ⟨w.heap.size, 3, none⟩ = some (.bool M2.1.dead) := (blk_cell HS4.out.hx 3).trans rfl
  have x4 : w4.cell? ⟨w.heap.size, 4, none⟩ = some (.int .i64 M2.1.after) := (blk_cell HS4.out.hx 4).trans rfl
  have x5 : w4.cell? ⟨w.heap.size, 5, none⟩ = some (.int .i64 M2.1.keep) := (blk_cell HS4.out.hx 5).trans rfl
  have z0 : w4.cell? ⟨wb.heap.size, 0, none⟩ = some (.slice none 0 0) := (blk_cell HS4.out.hz 0).trans rfl
  have z1 : w4.cell? ⟨wb.heap.size, 1, none⟩ = some (.int .i64 0) := (blk_cell HS4.out.hz 1).trans rfl
  have z2 : w4.cell? ⟨wb.heap.size, 2, none⟩ = some (.bool false) := (blk_cell HS4.out.hz 2).trans rfl
  have z3 : w4.cell? ⟨wb.heap.size, 3, none⟩ = some (.bool false) := (blk_cell HS4.out.hz 3).trans rfl
  have z4 : w4.cell? ⟨wb.heap.size, 4, none⟩ = some (.int .i64 0) := (blk_cell HS4.out.hz 4).trans rfl
  have z5 : w4.cell? ⟨wb.heap.size, 5, none⟩ = some (.int .i64 0) := (blk_cell HS4.out.hz 5).trans rfl
  have zf0 : w4.frozen? ⟨wb.heap.size, 0, none⟩ = false := blk_frozen HS4.out.hz 0
  have zf1 : w4.frozen? ⟨wb.heap.size, 1, none⟩ = false := blk_frozen HS4.out.hz 1
  have zf2 : w4.frozen? ⟨wb.heap.size, 2, none⟩ = false := blk_frozen HS4.out.hz 2
  have zf3 : w4.frozen? ⟨wb.heap.size, 3, none⟩ = false := blk_frozen HS4.out.hz 3
  have zf4 : w4.frozen? ⟨wb.heap.size, 4, none⟩ = false := blk_frozen HS4.out.hz 4
  have zf5 : w4.frozen? ⟨wb.heap.size, 5, none⟩ = false := blk_frozen HS4.out.hz 5
  have hee : (M2.2 == M2.2) = true := beq_self_eq_true _
  go_region
  go_wp2
  have HF := HS4.out.fin
  refine bodyPost_ret (results_list (rs := [.tmp 6, .cell 7 39, .tmp 8]) rfl (by simp) (.tmp (.cell wb.heap.size 39 #[.slice A2 n2 c2, .int .i64 M2.1.writes, .bool M2.1.armed, .bool M2.1.dead, .int .i64 M2.1.after, .int .i64 M2.1.keep] (0, 0) _ rfl HF.2.2.1 Try.underlying39 rfl (by kernel_rfl) (.tmp .nil)))) rfl ?_
  exact ⟨d, mb, M2.1, .slice A2 n2 c2, rfl, HF.1, HIV.out, HF.2.1, HF.2.2.2⟩

set_option maxRecDepth 100000 in
set_option maxHeartbeats 16000000 in
theorem play6_calls (w0 w : World) {d mb c : Nat} {m : DS} {u : Value} {bm : Nat} {XB : Array Value} (hb : Below w0.heap.size w0 w) (hp : Pair w w0.heap.size d mb m u bm) (hI : Inv c m) (hc : c + 1 ≤ 1000) {nm_ to_ : ByteArray} (h1 : nm_.size ≤ 140737488351232) (h2 : to_.size ≤ 140737488351232) {A : Option Addr} {cap : Nat} {data : List Int} (hC : ∀ W, Below w0.heap.size w0 W → Kd.C (Kd.int .u8) W A data.length data) (hcap : data.length ≤ cap) (hby : Bytes data) (hdl : data.length ≤ 140737488351232) (N keep mask : Int) (hN : N ≤ 9223372036854775807) (hmask : 0 ≤ mask ∧ mask < 256) (hbm : w.heap[bm]? = some (.cells XB 39 (0, 0))) : PlaySaid w0 w d c m u 6 nm_ to_ A data.length cap N keep mask bm XB := by
  unfold PlaySaid
  obtain ⟨O, hD, hR, hno⟩ := hp
  have HI := Aside0.mk hI
  have HOK := Aside0.mk (hI.ok (by omega))
  have HN1 := Aside0.mk h1
  have HN2 := Aside0.mk h2
  have HCAP := Aside0.mk hcap
  have HBY := Aside0.mk hby
  have HDL := Aside0.mk hdl
  have HNN := Aside0.mk hN
  have HMK := Aside0.mk hmask
  have HCC := Aside0.mk hc
  obtain ⟨nd, hnd⟩ : ∃ nd, data.length = nd := ⟨_, rfl⟩
  have HND := Aside0.mk hnd
  have HC := Aside0.mk hC
  rw [hnd] at HC HCAP ⊢
  obtain ⟨Au, cu, hu⟩ := Kd.R_slice hR
  obtain ⟨nu, hnu⟩ : ∃ nu, m.files.length = nu := ⟨_, rfl⟩
  have HNU := Aside0.mk hnu
  rw [hnu] at hu
  subst hu
  obtain ⟨wa, hwa⟩ : ∃ wa, w.alloc (.cells #[.slice Au nu cu, .int .i64 m.writes, .bool m.armed, .bool m.dead, .int .i64 m.after, .int .i64 m.keep] 39) = wa := ⟨_, rfl⟩
  obtain ⟨wb, hwb⟩ : ∃ wb, wa.alloc (.cells #[.int .i64 6, .string nm_, .string to_, .slice A nd cap, .int .i64 N, .int .i64 keep, .int .u8 mask] 43) = wb := ⟨_, rfl⟩
  obtain ⟨wc, hwc⟩ : ∃ wc, wb.alloc (.cells #[.slice none 0 0, .int .i64 0, .bool false, .bool false, .int .i64 0, .int .i64 0] 39) = wc := ⟨_, rfl⟩
  have HS : Aside0 (St w0 wc O (fun k => w.heap.size ≤ k ∧ k < wc.heap.size) d mb w.heap.size wa.heap.size wb.heap.size m m (.slice Au nu cu) #[.int .i64 6, .string nm_, .string to_, .slice A nd cap, .int .i64 N, .int .i64 keep, .int .u8 mask] bm XB) := ⟨by
    have hl := hD.base_lt
    have b1 : Below w.heap.size w wa := by rw [← hwa]; exact below_alloc (Below.refl _ _) _
    have b2 : Below wa.heap.size wa wb := by rw [← hwb]; exact below_alloc (Below.refl _ _) _
    have b3 : Below wb.heap.size wb wc := by rw [← hwc]; exact below_alloc (Below.refl _ _) _
    have s1 : wa.heap.size = w.heap.size + 1 := by rw [← hwa]; simp
    have s2 : wb.heap.size = wa.heap.size + 1 := by rw [← hwb]; simp
    have s3 : wc.heap.size = wb.heap.size + 1 := by rw [← hwc]; simp
    have b := below_then (below_then b1 b1.size b2) (by omega : w.heap.size ≤ wb.heap.size) b3
    have x1 : wa.heap[w.heap.size]? = some (.cells #[.slice Au nu cu, .int .i64 m.writes, .bool m.armed, .bool m.dead, .int .i64 m.after, .int .i64 m.keep] 39 (0, 0)) := by rw [← hwa]; exact heap_alloc_new w _
    have x2 : wb.heap[wa.heap.size]? = some (.cells #[.int .i64 6, .string nm_, .string to_, .slice A nd cap, .int .i64 N, .int .i64 keep, .int .u8 mask] 43 (0, 0)) := by rw [← hwb]; exact heap_alloc_new wa _
    have x3 : wc.heap[wb.heap.size]? = some (.cells #[.slice none 0 0, .int .i64 0, .bool false, .bool false, .int .i64 0, .int .i64 0] 39 (0, 0)) := by rw [← hwc]; exact heap_alloc_new wb _
    exact ⟨hD.below b, Kd.R_below hR b, blk_below (blk_below x1 b2) b3, blk_below x2 b3, x3, below_then hb hl b, fun k hk => ⟨fun ho => by have := (hD.rows k ho).2; omega, hk.2, by omega⟩, by omega, by omega, by omega, by omega, blk_below hbm b, by have := blk_lt hbm; omega, by have := blk_lt hbm; omega, hno⟩⟩
  have y0 : wc.cell? ⟨wa.heap.size, 0, none⟩ = some (.int .i64 6) := (blk_cell HS.out.hy 0).trans rfl
  have y1 : wc.cell? ⟨wa.heap.size, 1, none⟩ = some (.string nm_) := (blk_cell HS.out.hy 1).trans rfl
  have y2 : wc.cell? ⟨wa.heap.size, 2, none⟩ = some (.string to_) := (blk_cell HS.out.hy 2).trans rfl
  have y3 : wc.cell? ⟨wa.heap.size, 3, none⟩ = some (.slice A nd cap) := (blk_cell HS.out.hy 3).trans rfl
  have y4 : wc.cell? ⟨wa.heap.size, 4, none⟩ = some (.int .i64 N) := (blk_cell HS.out.hy 4).trans rfl
  have y5 : wc.cell? ⟨wa.heap.size, 5, none⟩ = some (.int .i64 keep) := (blk_cell HS.out.hy 5).trans rfl
  have y6 : wc.cell? ⟨wa.heap.size, 6, none⟩ = some (.int .u8 mask) := (blk_cell HS.out.hy 6).trans rfl
  clear hno hbm hb hD hR hI hc h1 h2 hC hcap hby hdl hN hmask hnd hnu
  obtain ⟨M2, hM2⟩ : ∃ M2, ((({ m with dead := false, armed := false } : DS), (0 : Int)) : DS × Int) = M2 := ⟨_, rfl⟩
  have hname : path_Name.f (nm_.size + to_.size + 3000000) nm_ = some (nm nm_) := name_f HN1.out (nm_.size + to_.size + 3000000) (by omega)
  have hname2 : path_Name.f (nm_.size + to_.size + 3000000) to_ = some (nm to_) := name_f HN2.out (nm_.size + to_.size + 3000000) (by omega)
  have HT1 := restart_calls wc HS.out.isD
  have HT1 : Calls Try.prog 18 #[.pointer (some ⟨d, 0, none⟩)] wc fun e w' => e = .returned (.tuple #[]) ∧ After wc w' w0.heap.size O d mb M2.1 := by rw [← hM2]; exact HT1
  have HT1 := Aside0.mk HT1
  have HT2 := Aside0.mk (fun (W : World) (hb : Below w0.heap.size w0 W) (hr : Kd.R k76 76 W w0.heap.size (fun k => some k = (Value.slice Au nu cu).ownBlock) (.slice Au nu cu) m.files) => forebearref06_Restart.calls (fun k => some k = (Value.slice Au nu cu).ownBlock) (.slice Au nu cu) m.files m.writes m.armed m.dead m.after m.keep m.files m.writes false false m.after m.keep w0 W hb hr rfl)
  have HT2 : Aside0 (∀ (W : World), Below w0.heap.size w0 W → Kd.R k76 76 W w0.heap.size (fun k => some k = (Value.slice Au nu cu).ownBlock) (.slice Au nu cu) m.files → Calls Try.prog 40 #[.agg #[.slice Au nu cu, .int .i64 m.writes, .bool m.armed, .bool m.dead, .int .i64 m.after, .int .i64 m.keep]] W fun e w' => ∃ v, e = .returned (.agg #[v, .int .i64 M2.1.writes, .bool M2.1.armed, .bool M2.1.dead, .int .i64 M2.1.after, .int .i64 M2.1.keep]) ∧ Kd.R k76 76 w' w0.heap.size (fun k => some k = (Value.slice Au nu cu).ownBlock ∨ W.heap.size ≤ k) v M2.1.files ∧ Below w0.heap.size w0 w' ∧ Kept W w' (fun k => some k = (Value.slice Au nu cu).ownBlock)) := by rw [← hM2]; exact HT2
  have HIV : Aside0 (Inv (c + 1) M2.1) := ⟨by rw [← hM2]; exact HI.out.restart.le (by omega)⟩
  clear hM2 hname hname2
  go_enter Try.func15, Try.ntmps15
  go_upto_region 49 with (first | (go_at_call 18; refine (HT1.out).mono ?_; rintro e w1 ⟨rfl, hA⟩; obtain ⟨O1, hS1, hr5⟩ := HS.out.disk hA; have HS1 := Aside0.mk hS1; have HR5 := Aside0.mk hr5; have x0 : w1.cell? ⟨w.heap.size, 0, none⟩ = some (.slice Au nu cu) := (blk_cell hS1.hx 0).trans rfl; have x1 : w1.cell? ⟨w.heap.size, 1, none⟩ = some (.int .i64 m.writes) := (blk_cell hS1.hx 1).trans rfl; have x2 : w1.cell? ⟨w.heap.size, 2, none⟩ = some (.bool m.armed) := (blk_cell hS1.hx 2).trans rfl; have x3 : w1.cell? ⟨w.heap.size, 3, none⟩ = some (.bool m.dead) := (blk_cell hS1.hx 3).trans rfl; have x4 : w1.cell? ⟨w.heap.size, 4, none⟩ = some (.int .i64 m.after) := (blk_cell hS1.hx 4).trans rfl; have x5 : w1.cell? ⟨w.heap.size, 5, none⟩ = some (.int .i64 m.keep) := (blk_cell hS1.hx 5).trans rfl; have y0 : w1.cell? ⟨wa.heap.size, 0, none⟩ = some (.int .i64 6) := (blk_cell hS1.hy 0).trans rfl; have y1 : w1.cell? ⟨wa.heap.size, 1, none⟩ = some (.string nm_) := (blk_cell hS1.hy 1).trans rfl; have y2 : w1.cell? ⟨wa.heap.size, 2, none⟩ = some (.string to_) := (blk_cell hS1.hy 2).trans rfl; have y3 : w1.cell? ⟨wa.heap.size, 3, none⟩ = some (.slice A nd cap) := (blk_cell hS1.hy 3).trans rfl; have y4 : w1.cell? ⟨wa.heap.size, 4, none⟩ = some (.int .i64 N) := (blk_cell hS1.hy 4).trans rfl; have y5 : w1.cell? ⟨wa.heap.size, 5, none⟩ = some (.int .i64 keep) := (blk_cell hS1.hy 5).trans rfl; have y6 : w1.cell? ⟨wa.heap.size, 6, none⟩ = some (.int .u8 mask) := (blk_cell hS1.hy 6).trans rfl; clear hA hS1 hr5) | (go_at_call 40; refine (HT2.out w1 HS1.out.bel (R76_own HS1.out.row)).mono ?_; rintro e w2 ⟨v2, rfl, hR2, hB2, hK2⟩; obtain ⟨A2, c2, hv20⟩ := Kd.R_slice hR2; obtain ⟨n2, hn2⟩ : ∃ n2, (M2.1).files.length = n2 := ⟨_, rfl⟩; have hv2 : v2 = .slice A2 n2 c2 := hv20.trans (by rw [← hn2]); clear hn2 hv20; subst hv2; have HREF := Aside0.mk (HS1.out.ref (mx' := M2.1) hK2 hR2 hB2); have hbx := HREF.out.2.2; have x0 : w2.cell? ⟨w.heap.size, 0, none⟩ = some (.slice Au nu cu) := (blk_cell hbx 0).trans rfl; have x1 : w2.cell? ⟨w.heap.size, 1, none⟩ = some (.int .i64 m.writes) := (blk_cell hbx 1).trans rfl; have x2 : w2.cell? ⟨w.heap.size, 2, none⟩ = some (.bool m.armed) := (blk_cell hbx 2).trans rfl; have x3 : w2.cell? ⟨w.heap.size, 3, none⟩ = some (.bool m.dead) := (blk_cell hbx 3).trans rfl; have x4 : w2.cell? ⟨w.heap.size, 4, none⟩ = some (.int .i64 m.after) := (blk_cell hbx 4).trans rfl; have x5 : w2.cell? ⟨w.heap.size, 5, none⟩ = some (.int .i64 m.keep) := (blk_cell hbx 5).trans rfl; have xf0 : w2.frozen? ⟨w.heap.size, 0, none⟩ = false := blk_frozen hbx 0; have xf1 : w2.frozen? ⟨w.heap.size, 1, none⟩ = false := blk_frozen hbx 1; have xf2 : w2.frozen? ⟨w.heap.size, 2, none⟩ = false := blk_frozen hbx 2; have xf3 : w2.frozen? ⟨w.heap.size, 3, none⟩ = false := blk_frozen hbx 3; have xf4 : w2.frozen? ⟨w.heap.size, 4, none⟩ = false := blk_frozen hbx 4; have xf5 : w2.frozen? ⟨w.heap.size, 5, none⟩ = false := blk_frozen hbx 5; clear hR2 hB2 hK2 hbx))
  obtain ⟨w3, hw3⟩ : ∃ w3, ((((((w2.setCell ⟨w.heap.size, 0, none⟩ (.slice A2 n2 c2)).setCell ⟨w.heap.size, 1, none⟩ (.int .i64 M2.1.writes)).setCell ⟨w.heap.size, 2, none⟩ (.bool M2.1.armed)).setCell ⟨w.heap.size, 3, none⟩ (.bool M2.1.dead)).setCell ⟨w.heap.size, 4, none⟩ (.int .i64 M2.1.after)).setCell ⟨w.heap.size, 5, none⟩ (.int .i64 M2.1.keep)) = w3 := ⟨_, rfl⟩
  have HS3 := HREF.out.1
  rw [hw3] at HS3 ⊢
  have HS3 := Aside0.mk HS3
  have HS4 := Aside0.mk (HS3.out.below (below_drew (Below.refl _ _)))
  obtain ⟨w4, hw4⟩ : ∃ w4, w3.drew = w4 := ⟨_, rfl⟩
  rw [hw4] at HS4
  have NE1 := HS4.out.ne
  have NE2 := HS4.out.ne.symm
  clear hw3 x0 x1 x2 x3 x4 x5
  have x0 : w4.cell? ⟨w.heap.size, 0, none⟩ = some (.slice A2 n2 c2) := (blk_cell HS4.out.hx 0).trans rfl
  have x1 : w4.cell? ⟨w.heap.size, 1, none⟩ = some (.int .i64 M2.1.writes) := (blk_cell HS4.out.hx 1).trans rfl
  have x2 : w4.cell? ⟨w.heap.size, 2, none⟩ = some (.bool M2.1.armed) := (blk_cell HS4.out.hx 2).trans rfl
  have x3 : w4.cell? ⟨w.heap.size, 3, none⟩ = some (.bool M2.1.dead) := (blk_cell HS4.out.hx 3).trans rfl
  have x4 : w4.cell? ⟨w.heap.size, 4, none⟩ = some (.int .i64 M2.1.after) := (blk_cell HS4.out.hx 4).trans rfl
  have x5 : w4.cell? ⟨w.heap.size, 5, none⟩ = some (.int .i64 M2.1.keep) := (blk_cell HS4.out.hx 5).trans rfl
  have z0 : w4.cell? ⟨wb.heap.size, 0, none⟩ = some (.slice none 0 0) := (blk_cell HS4.out.hz 0).trans rfl
  have z1 : w4.cell? ⟨wb.heap.size, 1, none⟩ = some (.int .i64 0) := (blk_cell HS4.out.hz 1).trans rfl
  have z2 : w4.cell? ⟨wb.heap.size, 2, none⟩ = some (.bool false) := (blk_cell HS4.out.hz 2).trans rfl
  have z3 : w4.cell? ⟨wb.heap.size, 3, none⟩ = some (.bool false) := (blk_cell HS4.out.hz 3).trans rfl
  have z4 : w4.cell? ⟨wb.heap.size, 4, none⟩ = some (.int .i64 0) := (blk_cell HS4.out.hz 4).trans rfl
  have z5 : w4.cell? ⟨wb.heap.size, 5, none⟩ = some (.int .i64 0) := (blk_cell HS4.out.hz 5).trans rfl
  have zf0 : w4.frozen? ⟨wb.heap.size, 0, none⟩ = false := blk_frozen HS4.out.hz 0
  have zf1 : w4.frozen? ⟨wb.heap.size, 1, none⟩ = false := blk_frozen HS4.out.hz 1
  have zf2 : w4.frozen? ⟨wb.heap.size, 2, none⟩ = false := blk_frozen HS4.out.hz 2
  have zf3 : w4.frozen? ⟨wb.heap.size, 3, none⟩ = false := blk_frozen HS4.out.hz 3
  have zf4 : w4.frozen? ⟨wb.heap.size, 4, none⟩ = false := blk_frozen HS4.out.hz 4
  have zf5 : w4.frozen? ⟨wb.heap.size, 5, none⟩ = false := blk_frozen HS4.out.hz 5
  have hee : (M2.2 == M2.2) = true := beq_self_eq_true _
  go_region
  go_wp2
  have HF := HS4.out.fin
  refine bodyPost_ret (results_list (rs := [.tmp 6, .cell 7 39, .tmp 8]) rfl (by simp) (.tmp (.cell wb.heap.size 39 #[.slice A2 n2 c2, .int .i64 M2.1.writes, .bool M2.1.armed, .bool M2.1.dead, .int .i64 M2.1.after, .int .i64 M2.1.keep] (0, 0) _ rfl HF.2.2.1 Try.underlying39 rfl (by kernel_rfl) (.tmp .nil)))) rfl ?_
  exact ⟨d, mb, M2.1, .slice A2 n2 c2, rfl, HF.1, HIV.out, HF.2.1, HF.2.2.2⟩

set_option maxRecDepth 100000 in
set_option maxHeartbeats 16000000 in
theorem play7_calls (w0 w : World) {d mb c : Nat} {m : DS} {u : Value} {bm : Nat} {XB : Array Value} (hb : Below w0.heap.size w0 w) (hp : Pair w w0.heap.size d mb m u bm) (hI : Inv c m) (hc : c + 1 ≤ 1000) {nm_ to_ : ByteArray} (h1 : nm_.size ≤ 140737488351232) (h2 : to_.size ≤ 140737488351232) {A : Option Addr} {cap : Nat} {data : List Int} (hC : ∀ W, Below w0.heap.size w0 W → Kd.C (Kd.int .u8) W A data.length data) (hcap : data.length ≤ cap) (hby : Bytes data) (hdl : data.length ≤ 140737488351232) (N keep mask : Int) (hN : N ≤ 9223372036854775807) (hmask : 0 ≤ mask ∧ mask < 256) (hbm : w.heap[bm]? = some (.cells XB 39 (0, 0))) : PlaySaid w0 w d c m u 7 nm_ to_ A data.length cap N keep mask bm XB := by
  unfold PlaySaid
  obtain ⟨O, hD, hR, hno⟩ := hp
  have HI := Aside0.mk hI
  have HOK := Aside0.mk (hI.ok (by omega))
  have HN1 := Aside0.mk h1
  have HN2 := Aside0.mk h2
  have HCAP := Aside0.mk hcap
  have HBY := Aside0.mk hby
  have HDL := Aside0.mk hdl
  have HNN := Aside0.mk hN
  have HMK := Aside0.mk hmask
  have HCC := Aside0.mk hc
  obtain ⟨nd, hnd⟩ : ∃ nd, data.length = nd := ⟨_, rfl⟩
  have HND := Aside0.mk hnd
  have HC := Aside0.mk hC
  rw [hnd] at HC HCAP ⊢
  obtain ⟨Au, cu, hu⟩ := Kd.R_slice hR
  obtain ⟨nu, hnu⟩ : ∃ nu, m.files.length = nu := ⟨_, rfl⟩
  have HNU := Aside0.mk hnu
  rw [hnu] at hu
  subst hu
  obtain ⟨wa, hwa⟩ : ∃ wa, w.alloc (.cells #[.slice Au nu cu, .int .i64 m.writes, .bool m.armed, .bool m.dead, .int .i64 m.after, .int .i64 m.keep] 39) = wa := ⟨_, rfl⟩
  obtain ⟨wb, hwb⟩ : ∃ wb, wa.alloc (.cells #[.int .i64 7, .string nm_, .string to_, .slice A nd cap, .int .i64 N, .int .i64 keep, .int .u8 mask] 43) = wb := ⟨_, rfl⟩
  obtain ⟨wc, hwc⟩ : ∃ wc, wb.alloc (.cells #[.slice none 0 0, .int .i64 0, .bool false, .bool false, .int .i64 0, .int .i64 0] 39) = wc := ⟨_, rfl⟩
  have HS : Aside0 (St w0 wc O (fun k => w.heap.size ≤ k ∧ k < wc.heap.size) d mb w.heap.size wa.heap.size wb.heap.size m m (.slice Au nu cu) #[.int .i64 7, .string nm_, .string to_, .slice A nd cap, .int .i64 N, .int .i64 keep, .int .u8 mask] bm XB) := ⟨by
    have hl := hD.base_lt
    have b1 : Below w.heap.size w wa := by rw [← hwa]; exact below_alloc (Below.refl _ _) _
    have b2 : Below wa.heap.size wa wb := by rw [← hwb]; exact below_alloc (Below.refl _ _) _
    have b3 : Below wb.heap.size wb wc := by rw [← hwc]; exact below_alloc (Below.refl _ _) _
    have s1 : wa.heap.size = w.heap.size + 1 := by rw [← hwa]; simp
    have s2 : wb.heap.size = wa.heap.size + 1 := by rw [← hwb]; simp
    have s3 : wc.heap.size = wb.heap.size + 1 := by rw [← hwc]; simp
    have b := below_then (below_then b1 b1.size b2) (by omega : w.heap.size ≤ wb.heap.size) b3
    have x1 : wa.heap[w.heap.size]? = some (.cells #[.slice Au nu cu, .int .i64 m.writes, .bool m.armed, .bool m.dead, .int .i64 m.after, .int .i64 m.keep] 39 (0, 0)) := by rw [← hwa]; exact heap_alloc_new w _
    have x2 : wb.heap[wa.heap.size]? = some (.cells #[.int .i64 7, .string nm_, .string to_, .slice A nd cap, .int .i64 N, .int .i64 keep, .int .u8 mask] 43 (0, 0)) := by rw [← hwb]; exact heap_alloc_new wa _
    have x3 : wc.heap[wb.heap.size]? = some (.cells #[.slice none 0 0, .int .i64 0, .bool false, .bool false, .int .i64 0, .int .i64 0] 39 (0, 0)) := by rw [← hwc]; exact heap_alloc_new wb _
    exact ⟨hD.below b, Kd.R_below hR b, blk_below (blk_below x1 b2) b3, blk_below x2 b3, x3, below_then hb hl b, fun k hk => ⟨fun ho => by have := (hD.rows k ho).2; omega, hk.2, by omega⟩, by omega, by omega, by omega, by omega, blk_below hbm b, by have := blk_lt hbm; omega, by have := blk_lt hbm; omega, hno⟩⟩
  have y0 : wc.cell? ⟨wa.heap.size, 0, none⟩ = some (.int .i64 7) := (blk_cell HS.out.hy 0).trans rfl
  have y1 : wc.cell? ⟨wa.heap.size, 1, none⟩ = some (.string nm_) := (blk_cell HS.out.hy 1).trans rfl
  have y2 : wc.cell? ⟨wa.heap.size, 2, none⟩ = some (.string to_) := (blk_cell HS.out.hy 2).trans rfl
  have y3 : wc.cell? ⟨wa.heap.size, 3, none⟩ = some (.slice A nd cap) := (blk_cell HS.out.hy 3).trans rfl
  have y4 : wc.cell? ⟨wa.heap.size, 4, none⟩ = some (.int .i64 N) := (blk_cell HS.out.hy 4).trans rfl
  have y5 : wc.cell? ⟨wa.heap.size, 5, none⟩ = some (.int .i64 keep) := (blk_cell HS.out.hy 5).trans rfl
  have y6 : wc.cell? ⟨wa.heap.size, 6, none⟩ = some (.int .u8 mask) := (blk_cell HS.out.hy 6).trans rfl
  clear hno hbm hb hD hR hI hc h1 h2 hC hcap hby hdl hN hmask hnd hnu
  obtain ⟨M2, hM2⟩ : ∃ M2, spoilD m nm_ N mask = M2 := ⟨_, rfl⟩
  have hname : path_Name.f (nm_.size + to_.size + 3000000) nm_ = some (nm nm_) := name_f HN1.out (nm_.size + to_.size + 3000000) (by omega)
  have hname2 : path_Name.f (nm_.size + to_.size + 3000000) to_ = some (nm to_) := name_f HN2.out (nm_.size + to_.size + 3000000) (by omega)
  have HT1 := spoil_calls wc HS.out.isD (p := nm_) (by have := HN1.out; omega) HOK.out N mask HMK.out
  rw [hM2] at HT1
  have HT1 := Aside0.mk HT1
  have HT2 := fun (W : World) (hr : Kd.R k76 76 W w0.heap.size (fun k => some k = (Value.slice Au nu cu).ownBlock) (.slice Au nu cu) m.files) (hl : w0.heap.size ≤ W.heap.size) => refspoil_calls W hr hl HI.out (by have := HCC.out; omega) (p := nm_) N mask HMK.out
  simp only [hM2] at HT2
  have HT2 := Aside0.mk HT2
  have HIV : Aside0 (Inv (c + 1) M2.1) := ⟨by rw [← hM2]; exact (HI.out.spoilD (by have := HCC.out; omega) nm_ N mask).le (by omega)⟩
  clear hM2 hname hname2
  go_enter Try.func15, Try.ntmps15
  go_upto_region 49 with (first | (go_at_call 41; refine (HT1.out).mono ?_; rintro e w1 ⟨rfl, hA⟩; obtain ⟨O1, hS1, hr5⟩ := HS.out.disk hA; have HS1 := Aside0.mk hS1; have HR5 := Aside0.mk hr5; have x0 : w1.cell? ⟨w.heap.size, 0, none⟩ = some (.slice Au nu cu) := (blk_cell hS1.hx 0).trans rfl; have x1 : w1.cell? ⟨w.heap.size, 1, none⟩ = some (.int .i64 m.writes) := (blk_cell hS1.hx 1).trans rfl; have x2 : w1.cell? ⟨w.heap.size, 2, none⟩ = some (.bool m.armed) := (blk_cell hS1.hx 2).trans rfl; have x3 : w1.cell? ⟨w.heap.size, 3, none⟩ = some (.bool m.dead) := (blk_cell hS1.hx 3).trans rfl; have x4 : w1.cell? ⟨w.heap.size, 4, none⟩ = some (.int .i64 m.after) := (blk_cell hS1.hx 4).trans rfl; have x5 : w1.cell? ⟨w.heap.size, 5, none⟩ = some (.int .i64 m.keep) := (blk_cell hS1.hx 5).trans rfl; have y0 : w1.cell? ⟨wa.heap.size, 0, none⟩ = some (.int .i64 7) := (blk_cell hS1.hy 0).trans rfl; have y1 : w1.cell? ⟨wa.heap.size, 1, none⟩ = some (.string nm_) := (blk_cell hS1.hy 1).trans rfl; have y2 : w1.cell? ⟨wa.heap.size, 2, none⟩ = some (.string to_) := (blk_cell hS1.hy 2).trans rfl; have y3 : w1.cell? ⟨wa.heap.size, 3, none⟩ = some (.slice A nd cap) := (blk_cell hS1.hy 3).trans rfl; have y4 : w1.cell? ⟨wa.heap.size, 4, none⟩ = some (.int .i64 N) := (blk_cell hS1.hy 4).trans rfl; have y5 : w1.cell? ⟨wa.heap.size, 5, none⟩ = some (.int .i64 keep) := (blk_cell hS1.hy 5).trans rfl; have y6 : w1.cell? ⟨wa.heap.size, 6, none⟩ = some (.int .u8 mask) := (blk_cell hS1.hy 6).trans rfl; clear hA hS1 hr5) | (go_at_call 42; refine (HT2.out w1 (R76_own HS1.out.row) HS1.out.isD.base_lt).mono ?_; rintro e w2 ⟨v2, rfl, hR20, hB20⟩; have hB2 := HS1.out.bel.trans (hB20.mono HS1.out.isD.base_lt); have hK2 : Kept w1 w2 (fun k => some k = (Value.slice Au nu cu).ownBlock) := Kept.of_below hB20 _; have hR2 := hR20; clear hR20 hB20; obtain ⟨A2, c2, hv20⟩ := Kd.R_slice hR2; obtain ⟨n2, hn2⟩ : ∃ n2, (M2.1).files.length = n2 := ⟨_, rfl⟩; have hv2 : v2 = .slice A2 n2 c2 := hv20.trans (by rw [← hn2]); clear hn2 hv20; subst hv2; have HREF := Aside0.mk (HS1.out.ref (mx' := M2.1) hK2 hR2 hB2); have hbx := HREF.out.2.2; have x0 : w2.cell? ⟨w.heap.size, 0, none⟩ = some (.slice Au nu cu) := (blk_cell hbx 0).trans rfl; have x1 : w2.cell? ⟨w.heap.size, 1, none⟩ = some (.int .i64 m.writes) := (blk_cell hbx 1).trans rfl; have x2 : w2.cell? ⟨w.heap.size, 2, none⟩ = some (.bool m.armed) := (blk_cell hbx 2).trans rfl; have x3 : w2.cell? ⟨w.heap.size, 3, none⟩ = some (.bool m.dead) := (blk_cell hbx 3).trans rfl; have x4 : w2.cell? ⟨w.heap.size, 4, none⟩ = some (.int .i64 m.after) := (blk_cell hbx 4).trans rfl; have x5 : w2.cell? ⟨w.heap.size, 5, none⟩ = some (.int .i64 m.keep) := (blk_cell hbx 5).trans rfl; have xf0 : w2.frozen? ⟨w.heap.size, 0, none⟩ = false := blk_frozen hbx 0; have xf1 : w2.frozen? ⟨w.heap.size, 1, none⟩ = false := blk_frozen hbx 1; have xf2 : w2.frozen? ⟨w.heap.size, 2, none⟩ = false := blk_frozen hbx 2; have xf3 : w2.frozen? ⟨w.heap.size, 3, none⟩ = false := blk_frozen hbx 3; have xf4 : w2.frozen? ⟨w.heap.size, 4, none⟩ = false := blk_frozen hbx 4; have xf5 : w2.frozen? ⟨w.heap.size, 5, none⟩ = false := blk_frozen hbx 5; clear hR2 hB2 hK2 hbx))
  obtain ⟨w3, hw3⟩ : ∃ w3, ((((((w2.setCell ⟨w.heap.size, 0, none⟩ (.slice A2 n2 c2)).setCell ⟨w.heap.size, 1, none⟩ (.int .i64 M2.1.writes)).setCell ⟨w.heap.size, 2, none⟩ (.bool M2.1.armed)).setCell ⟨w.heap.size, 3, none⟩ (.bool M2.1.dead)).setCell ⟨w.heap.size, 4, none⟩ (.int .i64 M2.1.after)).setCell ⟨w.heap.size, 5, none⟩ (.int .i64 M2.1.keep)) = w3 := ⟨_, rfl⟩
  have HS3 := HREF.out.1
  rw [hw3] at HS3 ⊢
  have HS3 := Aside0.mk HS3
  have HS4 := Aside0.mk (HS3.out.below (below_drew (Below.refl _ _)))
  obtain ⟨w4, hw4⟩ : ∃ w4, w3.drew = w4 := ⟨_, rfl⟩
  rw [hw4] at HS4
  have NE1 := HS4.out.ne
  have NE2 := HS4.out.ne.symm
  clear hw3 x0 x1 x2 x3 x4 x5
  have x0 : w4.cell? ⟨w.heap.size, 0, none⟩ = some (.slice A2 n2 c2) := (blk_cell HS4.out.hx 0).trans rfl
  have x1 : w4.cell? ⟨w.heap.size, 1, none⟩ = some (.int .i64 M2.1.writes) := (blk_cell HS4.out.hx 1).trans rfl
  have x2 : w4.cell? ⟨w.heap.size, 2, none⟩ = some (.bool M2.1.armed) := (blk_cell HS4.out.hx 2).trans rfl
  have x3 : w4.cell? ⟨w.heap.size, 3, none⟩ = some (.bool M2.1.dead) := (blk_cell HS4.out.hx 3).trans rfl
  have x4 : w4.cell? ⟨w.heap.size, 4, none⟩ = some (.int .i64 M2.1.after) := (blk_cell HS4.out.hx 4).trans rfl
  have x5 : w4.cell? ⟨w.heap.size, 5, none⟩ = some (.int .i64 M2.1.keep) := (blk_cell HS4.out.hx 5).trans rfl
  have z0 : w4.cell? ⟨wb.heap.size, 0, none⟩ = some (.slice none 0 0) := (blk_cell HS4.out.hz 0).trans rfl
  have z1 : w4.cell? ⟨wb.heap.size, 1, none⟩ = some (.int .i64 0) := (blk_cell HS4.out.hz 1).trans rfl
  have z2 : w4.cell? ⟨wb.heap.size, 2, none⟩ = some (.bool false) := (blk_cell HS4.out.hz 2).trans rfl
  have z3 : w4.cell? ⟨wb.heap.size, 3, none⟩ = some (.bool false) := (blk_cell HS4.out.hz 3).trans rfl
  have z4 : w4.cell? ⟨wb.heap.size, 4, none⟩ = some (.int .i64 0) := (blk_cell HS4.out.hz 4).trans rfl
  have z5 : w4.cell? ⟨wb.heap.size, 5, none⟩ = some (.int .i64 0) := (blk_cell HS4.out.hz 5).trans rfl
  have zf0 : w4.frozen? ⟨wb.heap.size, 0, none⟩ = false := blk_frozen HS4.out.hz 0
  have zf1 : w4.frozen? ⟨wb.heap.size, 1, none⟩ = false := blk_frozen HS4.out.hz 1
  have zf2 : w4.frozen? ⟨wb.heap.size, 2, none⟩ = false := blk_frozen HS4.out.hz 2
  have zf3 : w4.frozen? ⟨wb.heap.size, 3, none⟩ = false := blk_frozen HS4.out.hz 3
  have zf4 : w4.frozen? ⟨wb.heap.size, 4, none⟩ = false := blk_frozen HS4.out.hz 4
  have zf5 : w4.frozen? ⟨wb.heap.size, 5, none⟩ = false := blk_frozen HS4.out.hz 5
  have hee : (M2.2 == M2.2) = true := beq_self_eq_true _
  go_region
  go_wp2
  have HF := HS4.out.fin
  refine bodyPost_ret (results_list (rs := [.tmp 6, .cell 7 39, .tmp 8]) rfl (by simp) (.tmp (.cell wb.heap.size 39 #[.slice A2 n2 c2, .int .i64 M2.1.writes, .bool M2.1.armed, .bool M2.1.dead, .int .i64 M2.1.after, .int .i64 M2.1.keep] (0, 0) _ rfl HF.2.2.1 Try.underlying39 rfl (by kernel_rfl) (.tmp .nil)))) rfl ?_
  exact ⟨d, mb, M2.1, .slice A2 n2 c2, rfl, HF.1, HIV.out, HF.2.1, HF.2.2.2⟩

end Go.Proofs.Ytieodkghfceflaa.MD

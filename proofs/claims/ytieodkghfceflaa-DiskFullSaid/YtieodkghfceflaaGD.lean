/- The law's play, by kinds. Plain facts of a call's two parts. The law's play, by kinds. A script of calls, and a call of it. The law's script, played. No condition. -/
import Derived.Test.YtieodkghfceflaaGB
import Derived.Test.YtieodkghfceflaaGC
import Derived.Test.YtieodkghfceflaaMDx2
import Derived.Test.YtieodkghfceflaaOpen
set_option linter.unusedVariables false
set_option linter.unusedSimpArgs false
namespace Go.Proofs.Ytieodkghfceflaa.MD
open Go.Proofs.Ytieodkghfceflaa.Opening Go.Proofs.Ytieodkghfceflaa.Pure
open Go.RowKit Go.Proofs.YtieodkghfceflaaW.PrintWords Go.Proofs.YtieodkghfceflaaW.PrintLast Go.Proofs.YtieodkghfceflaaW.PrintMore
def pb : ByteArray := ⟨#[98]⟩
theorem nm_pb : nm pb = 0 := by decide +kernel
theorem name_pb : path_Name.f 10 pb = some 0 := by
  rw [name_f (by decide) 10 (by decide)]
  exact congrArg some nm_pb

set_option maxRecDepth 100000 in
set_option maxHeartbeats 16000000 in
theorem play8_calls (w0 w : World) {d mb c : Nat} {m : DS} {u : Value} {bm : Nat} {XB : Array Value} (hb : Below w0.heap.size w0 w) (hp : Pair w w0.heap.size d mb m u bm) (hI : Inv c m) (hc : c + 1 ≤ 1000) {nm_ to_ : ByteArray} (h1 : nm_.size ≤ 140737488351232) (h2 : to_.size ≤ 140737488351232) {A : Option Addr} {cap : Nat} {data : List Int} (hC : ∀ W, Below w0.heap.size w0 W → Kd.C (Kd.int .u8) W A data.length data) (hcap : data.length ≤ cap) (hby : Bytes data) (hdl : data.length ≤ 140737488351232) (N keep mask : Int) (hN : N ≤ 9223372036854775807) (hmask : 0 ≤ mask ∧ mask < 256) (hbm : w.heap[bm]? = some (.cells XB 39 (0, 0))) : PlaySaid w0 w d c m u 8 nm_ to_ A data.length cap N keep mask bm XB := by
  unfold PlaySaid
  obtain ⟨O, hD, hR, hno⟩ := hp
  have HI := Aside0.mk hI
  have HOK := Aside0.mk (hI.ok (by omega))
  have HN1 := Aside0.mk h1
  have HN2 := Aside0.mk h2
  have HCAP := Aside0.mk hcap
  have HBY := Aside0.mk hby
  have HDL := Aside0.mk hdl
  have HNN := Aside0.mk hN
  have HMK := Aside0.mk hmask
  have HCC := Aside0.mk hc
  obtain ⟨nd, hnd⟩ : ∃ nd, data.length = nd := ⟨_, rfl⟩
  have HND := Aside0.mk hnd
  have HC := Aside0.mk hC
  rw [hnd] at HC HCAP ⊢
  obtain ⟨Au, cu, hu⟩ := Kd.R_slice hR
  obtain ⟨nu, hnu⟩ : ∃ nu, m.files.length = nu := ⟨_, rfl⟩
  have HNU := Aside0.mk hnu
  rw [hnu] at hu
  subst hu
  obtain ⟨wa, hwa⟩ : ∃ wa, w.alloc (.cells #[.slice Au nu cu, .int .i64 m.writes, .bool m.armed, .bool m.dead, .int .i64 m.after, .int .i64 m.keep] 39) = wa := ⟨_, rfl⟩
  obtain ⟨wb, hwb⟩ : ∃ wb, wa.alloc (.cells #[.int .i64 8, .string nm_, .string to_, .slice A nd cap, .int .i64 N, .int .i64 keep, .int .u8 mask] 43) = wb := ⟨_, rfl⟩
  obtain ⟨wc, hwc⟩ : ∃ wc, wb.alloc (.cells #[.slice none 0 0, .int .i64 0, .bool false, .bool false, .int .i64 0, .int .i64 0] 39) = wc := ⟨_, rfl⟩
  have HS : Aside0 (St w0 wc O (fun k => w.heap.size ≤ k ∧ k < wc.heap.size) d mb w.heap.size wa.heap.size wb.heap.size m m (.slice Au nu cu) #[.int .i64 8, .string nm_, .string to_, .slice A nd cap, .int .i64 N, .int .i64 keep, .int .u8 mask] bm XB) := ⟨by
    have hl := hD.base_lt
    have b1 : Below w.heap.size w wa := by rw [← hwa]; exact below_alloc (Below.refl _ _) _
    have b2 : Below wa.heap.size wa wb := by rw [← hwb]; exact below_alloc (Below.refl _ _) _
    have b3 : Below wb.heap.size wb wc := by rw [← hwc]; exact below_alloc (Below.refl _ _) _
    have s1 : wa.heap.size = w.heap.size + 1 := by rw [← hwa]; simp
    have s2 : wb.heap.size = wa.heap.size + 1 := by rw [← hwb]; simp
    have s3 : wc.heap.size = wb.heap.size + 1 := by rw [← hwc]; simp
    have b := below_then (below_then b1 b1.size b2) (by omega : w.heap.size ≤ wb.heap.size) b3
    have x1 : wa.heap[w.heap.size]? = some (.cells #[.slice Au nu cu, .int .i64 m.writes, .bool m.armed, .bool m.dead, .int .i64 m.after, .int .i64 m.keep] 39 (0, 0)) := by rw [← hwa]; exact heap_alloc_new w _
    have x2 : wb.heap[wa.heap.size]? = some (.cells #[.int .i64 8, .string nm_, .string to_, .slice A nd cap, .int .i64 N, .int .i64 keep, .int .u8 mask] 43 (0, 0)) := by rw [← hwb]; exact heap_alloc_new wa _
    have x3 : wc.heap[wb.heap.size]? = some (.cells #[.slice none 0 0, .int .i64 0, .bool false, .bool false, .int .i64 0, .int .i64 0] 39 (0, 0)) := by rw [← hwc]; exact heap_alloc_new wb _
    exact ⟨hD.below b, Kd.R_below hR b, blk_below (blk_below x1 b2) b3, blk_below x2 b3, x3, below_then hb hl b, fun k hk => ⟨fun ho => by have := (hD.rows k ho).2; omega, hk.2, by omega⟩, by omega, by omega, by omega, by omega, blk_below hbm b, by have := blk_lt hbm; omega, by have := blk_lt hbm; omega, hno⟩⟩
  have y0 : wc.cell? ⟨wa.heap.size, 0, none⟩ = some (.int .i64 8) := (blk_cell HS.out.hy 0).trans rfl
  have y1 : wc.cell? ⟨wa.heap.size, 1, none⟩ = some (.string nm_) := (blk_cell HS.out.hy 1).trans rfl
  have y2 : wc.cell? ⟨wa.heap.size, 2, none⟩ = some (.string to_) := (blk_cell HS.out.hy 2).trans rfl
  have y3 : wc.cell? ⟨wa.heap.size, 3, none⟩ = some (.slice A nd cap) := (blk_cell HS.out.hy 3).trans rfl
  have y4 : wc.cell? ⟨wa.heap.size, 4, none⟩ = some (.int .i64 N) := (blk_cell HS.out.hy 4).trans rfl
  have y5 : wc.cell? ⟨wa.heap.size, 5, none⟩ = some (.int .i64 keep) := (blk_cell HS.out.hy 5).trans rfl
  have y6 : wc.cell? ⟨wa.heap.size, 6, none⟩ = some (.int .u8 mask) := (blk_cell HS.out.hy 6).trans rfl
  clear hno hbm hb hD hR hI hc h1 h2 hC hcap hby hdl hN hmask hnd hnu
  go_enter Try.func15, Try.ntmps15
  go_upto_region 49 with (go_at_call 43; refine (clone_calls wc HS.out.isD).mono ?_; rintro e w1 ⟨d2, mb2, rfl, hD2, hl1, hl2, hb2⟩; have HS1 := Aside0.mk (HS.out.clone hD2 hb2); clear hD2 hb2 hl1 hl2)
  have HS4 := Aside0.mk (HS1.out.below (below_drew (Below.refl _ _)))
  obtain ⟨w4, hw4⟩ : ∃ w4, w1.drew = w4 := ⟨_, rfl⟩
  rw [hw4] at HS4
  have NE1 := HS4.out.ne
  have NE2 := HS4.out.ne.symm
  have x0 : w4.cell? ⟨w.heap.size, 0, none⟩ = some (.slice Au nu cu) := (blk_cell HS4.out.hx 0).trans rfl
  have x1 : w4.cell? ⟨w.heap.size, 1, none⟩ = some (.int .i64 m.writes) := (blk_cell HS4.out.hx 1).trans rfl
  have x2 : w4.cell? ⟨w.heap.size, 2, none⟩ = some (.bool m.armed) := (blk_cell HS4.out.hx 2).trans rfl
  have x3 : w4.cell? ⟨w.heap.size, 3, none⟩ = some (.bool m.dead) := (blk_cell HS4.out.hx 3).trans rfl
  have x4 : w4.cell? ⟨w.heap.size, 4, none⟩ = some (.int .i64 m.after) := (blk_cell HS4.out.hx 4).trans rfl
  have x5 : w4.cell? ⟨w.heap.size, 5, none⟩ = some (.int .i64 m.keep) := (blk_cell HS4.out.hx 5).trans rfl
  have z0 : w4.cell? ⟨wb.heap.size, 0, none⟩ = some (.slice none 0 0) := (blk_cell HS4.out.hz 0).trans rfl
  have z1 : w4.cell? ⟨wb.heap.size, 1, none⟩ = some (.int .i64 0) := (blk_cell HS4.out.hz 1).trans rfl
  have z2 : w4.cell? ⟨wb.heap.size, 2, none⟩ = some (.bool false) := (blk_cell HS4.out.hz 2).trans rfl
  have z3 : w4.cell? ⟨wb.heap.size, 3, none⟩ = some (.bool false) := (blk_cell HS4.out.hz 3).trans rfl
  have z4 : w4.cell? ⟨wb.heap.size, 4, none⟩ = some (.int .i64 0) := (blk_cell HS4.out.hz 4).trans rfl
  have z5 : w4.cell? ⟨wb.heap.size, 5, none⟩ = some (.int .i64 0) := (blk_cell HS4.out.hz 5).trans rfl
  have zf0 : w4.frozen? ⟨wb.heap.size, 0, none⟩ = false := blk_frozen HS4.out.hz 0
  have zf1 : w4.frozen? ⟨wb.heap.size, 1, none⟩ = false := blk_frozen HS4.out.hz 1
  have zf2 : w4.frozen? ⟨wb.heap.size, 2, none⟩ = false := blk_frozen HS4.out.hz 2
  have zf3 : w4.frozen? ⟨wb.heap.size, 3, none⟩ = false := blk_frozen HS4.out.hz 3
  have zf4 : w4.frozen? ⟨wb.heap.size, 4, none⟩ = false := blk_frozen HS4.out.hz 4
  have zf5 : w4.frozen? ⟨wb.heap.size, 5, none⟩ = false := blk_frozen HS4.out.hz 5
  go_region
  go_wp2
  have HF := HS4.out.fin
  refine bodyPost_ret (results_list (rs := [.tmp 6, .cell 7 39, .tmp 8]) rfl (by simp) (.tmp (.cell wb.heap.size 39 #[.slice Au nu cu, .int .i64 m.writes, .bool m.armed, .bool m.dead, .int .i64 m.after, .int .i64 m.keep] (0, 0) _ rfl HF.2.2.1 Try.underlying39 rfl (by kernel_rfl) (.tmp .nil)))) rfl ?_
  exact ⟨d2, mb2, m, .slice Au nu cu, rfl, HF.1, HI.out.le (by omega), HF.2.1, HF.2.2.2⟩

set_option maxRecDepth 100000 in
set_option maxHeartbeats 16000000 in
theorem play9_calls (w0 w : World) {d mb c : Nat} {m : DS} {u : Value} {bm : Nat} {XB : Array Value} (hb : Below w0.heap.size w0 w) (hp : Pair w w0.heap.size d mb m u bm) (hI : Inv c m) (hc : c + 1 ≤ 1000) {nm_ to_ : ByteArray} (h1 : nm_.size ≤ 140737488351232) (h2 : to_.size ≤ 140737488351232) {A : Option Addr} {cap : Nat} {data : List Int} (hC : ∀ W, Below w0.heap.size w0 W → Kd.C (Kd.int .u8) W A data.length data) (hcap : data.length ≤ cap) (hby : Bytes data) (hdl : data.length ≤ 140737488351232) (N keep mask : Int) (hN : N ≤ 9223372036854775807) (hmask : 0 ≤ mask ∧ mask < 256) (hbm : w.heap[bm]? = some (.cells XB 39 (0, 0))) : PlaySaid w0 w d c m u 9 nm_ to_ A data.length cap N keep mask bm XB := by
  unfold PlaySaid
  obtain ⟨O, hD, hR, hno⟩ := hp
  have HI := Aside0.mk hI
  have HOK := Aside0.mk (hI.ok (by omega))
  have HN1 := Aside0.mk h1
  have HN2 := Aside0.mk h2
  have HCAP := Aside0.mk hcap
  have HBY := Aside0.mk hby
  have HDL := Aside0.mk hdl
  have HNN := Aside0.mk hN
  have HMK := Aside0.mk hmask
  have HCC := Aside0.mk hc
  obtain ⟨nd, hnd⟩ : ∃ nd, data.length = nd := ⟨_, rfl⟩
  have HND := Aside0.mk hnd
  have HC := Aside0.mk hC
  rw [hnd] at HC HCAP ⊢
  obtain ⟨Au, cu, hu⟩ := Kd.R_slice hR
  obtain ⟨nu, hnu⟩ : ∃ nu, m.files.length = nu := ⟨_, rfl⟩
  have HNU := Aside0.mk hnu
  rw [hnu] at hu
  subst hu
  obtain ⟨wa, hwa⟩ : ∃ wa, w.alloc (.cells #[.slice Au nu cu, .int .i64 m.writes, .bool m.armed, .bool m.dead, .int .i64 m.after, .int .i64 m.keep] 39) = wa := ⟨_, rfl⟩
  obtain ⟨wb, hwb⟩ : ∃ wb, wa.alloc (.cells #[.int .i64 9, .string nm_, .string to_, .slice A nd cap, .int .i64 N, .int .i64 keep, .int .u8 mask] 43) = wb := ⟨_, rfl⟩
  obtain ⟨wc, hwc⟩ : ∃ wc, wb.alloc (.cells #[.slice none 0 0, .int .i64 0, .bool false, .bool false, .int .i64 0, .int .i64 0] 39) = wc := ⟨_, rfl⟩
  have HS : Aside0 (St w0 wc O (fun k => w.heap.size ≤ k ∧ k < wc.heap.size) d mb w.heap.size wa.heap.size wb.heap.size m m (.slice Au nu cu) #[.int .i64 9, .string nm_, .string to_, .slice A nd cap, .int .i64 N, .int .i64 keep, .int .u8 mask] bm XB) := ⟨by
    have hl := hD.base_lt
    have b1 : Below w.heap.size w wa := by rw [← hwa]; exact below_alloc (Below.refl _ _) _
    have b2 : Below wa.heap.size wa wb := by rw [← hwb]; exact below_alloc (Below.refl _ _) _
    have b3 : Below wb.heap.size wb wc := by rw [← hwc]; exact below_alloc (Below.refl _ _) _
    have s1 : wa.heap.size = w.heap.size + 1 := by rw [← hwa]; simp
    have s2 : wb.heap.size = wa.heap.size + 1 := by rw [← hwb]; simp
    have s3 : wc.heap.size = wb.heap.size + 1 := by rw [← hwc]; simp
    have b := below_then (below_then b1 b1.size b2) (by omega : w.heap.size ≤ wb.heap.size) b3
    have x1 : wa.heap[w.heap.size]? = some (.cells #[.slice Au nu cu, .int .i64 m.writes, .bool m.armed, .bool m.dead, .int .i64 m.after, .int .i64 m.keep] 39 (0, 0)) := by rw [← hwa]; exact heap_alloc_new w _
    have x2 : wb.heap[wa.heap.size]? = some (.cells #[.int .i64 9, .string nm_, .string to_, .slice A nd cap, .int .i64 N, .int .i64 keep, .int .u8 mask] 43 (0, 0)) := by rw [← hwb]; exact heap_alloc_new wa _
    have x3 : wc.heap[wb.heap.size]? = some (.cells #[.slice none 0 0, .int .i64 0, .bool false, .bool false, .int .i64 0, .int .i64 0] 39 (0, 0)) := by rw [← hwc]; exact heap_alloc_new wb _
    exact ⟨hD.below b, Kd.R_below hR b, blk_below (blk_below x1 b2) b3, blk_below x2 b3, x3, below_then hb hl b, fun k hk => ⟨fun ho => by have := (hD.rows k ho).2; omega, hk.2, by omega⟩, by omega, by omega, by omega, by omega, blk_below hbm b, by have := blk_lt hbm; omega, by have := blk_lt hbm; omega, hno⟩⟩
  have y0 : wc.cell? ⟨wa.heap.size, 0, none⟩ = some (.int .i64 9) := (blk_cell HS.out.hy 0).trans rfl
  have y1 : wc.cell? ⟨wa.heap.size, 1, none⟩ = some (.string nm_) := (blk_cell HS.out.hy 1).trans rfl
  have y2 : wc.cell? ⟨wa.heap.size, 2, none⟩ = some (.string to_) := (blk_cell HS.out.hy 2).trans rfl
  have y3 : wc.cell? ⟨wa.heap.size, 3, none⟩ = some (.slice A nd cap) := (blk_cell HS.out.hy 3).trans rfl
  have y4 : wc.cell? ⟨wa.heap.size, 4, none⟩ = some (.int .i64 N) := (blk_cell HS.out.hy 4).trans rfl
  have y5 : wc.cell? ⟨wa.heap.size, 5, none⟩ = some (.int .i64 keep) := (blk_cell HS.out.hy 5).trans rfl
  have y6 : wc.cell? ⟨wa.heap.size, 6, none⟩ = some (.int .u8 mask) := (blk_cell HS.out.hy 6).trans rfl
  clear hno hbm hb hD hR hI hc h1 h2 hC hcap hby hdl hN hmask hnd hnu
  have hname : path_Name.f (nm_.size + to_.size + 3000000) nm_ = some (nm nm_) := name_f HN1.out (nm_.size + to_.size + 3000000) (by omega)
  have HNM := Aside0.mk hname
  clear hname
  obtain ⟨M1, hM1⟩ : ∃ M1, ({ m with dead := false, armed := false } : DS) = M1 := ⟨_, rfl⟩
  have I1 : Inv c M1 := by rw [← hM1]; exact HI.out.restart
  obtain ⟨M2, hM2⟩ : ∃ M2, putD 0 M1 pa data = M2 := ⟨_, rfl⟩
  have I2 : Inv (c + 1) M2.1 := by rw [← hM2, ← nm_pa]; exact I1.putD pa data
  obtain ⟨M3, hM3⟩ : ∃ M3, appendD (nm nm_) M2.1 nm_ data = M3 := ⟨_, rfl⟩
  have I3 : Inv (c + 1 + 1) M3.1 := by rw [← hM3]; exact I2.appendD nm_ data
  obtain ⟨M4, hM4⟩ : ∃ M4, spoilD M3.1 nm_ 0 255 = M4 := ⟨_, rfl⟩
  have I4 : Inv (c + 1 + 1) M4.1 := by rw [← hM4]; exact I3.spoilD (by have := HCC.out; omega) nm_ 0 255
  have K1 := Aside0.mk (I1.ok (by have := HCC.out; omega))
  have K2 := Aside0.mk (I2.ok (by have := HCC.out; omega))
  have K3 := Aside0.mk (I3.ok (by have := HCC.out; omega))
  have K4 := Aside0.mk (I4.ok (by have := HCC.out; omega))
  have HM1 := Aside0.mk hM1
  have HM2 := Aside0.mk hM2
  have HM3 := Aside0.mk hM3
  have HM4 := Aside0.mk hM4
  clear hM1 hM2 hM3 hM4 I1 I2 I3 I4
  go_enter Try.func15, Try.ntmps15
  go_upto_region 49 with (first
    | (go_at_call 43; refine (clone_calls wc HS.out.isD).mono ?_; rintro e w1 ⟨d2, mb2, rfl, hD2, hl1, hl2, hb2⟩; have HT1 := Aside0.mk (Two.begin HS.out hD2 hl1 hl2 hb2); clear hD2 hb2 hl1 hl2)
    | (go_at_call 18; refine (restart_calls w1 HT1.out.isD).mono ?_; rw [HM1.out]; rintro e w2 ⟨rfl, hA⟩; obtain ⟨O2, hT2⟩ := HT1.out.disk hA; have HT2 := Aside0.mk hT2; clear hA hT2; have y1 : w2.cell? ⟨wa.heap.size, 1, none⟩ = some (.string nm_) := (blk_cell HT2.out.st.hy 1).trans rfl; have y3 : w2.cell? ⟨wa.heap.size, 3, none⟩ = some (.slice A nd cap) := (blk_cell HT2.out.st.hy 3).trans rfl; obtain ⟨p2, hqp2⟩ : ∃ p, w2.alloc (.cells #[.slice A nd cap] 27) = p := ⟨_, rfl⟩; have HP2 := Aside0.mk (HT2.out.stay (W' := p2) (by rw [← hqp2]; exact below_alloc (Below.refl _ _) _)); have HV2 : Aside0 (PartsV p2 (.slice (some ⟨w2.heap.size, 0, none⟩) 1 1) data) := ⟨.one _ A cap data (by rw [HND.out, ← hqp2]; exact heap_alloc_new _ _) (by rw [HND.out]; exact HC.out _ HP2.out.st.bel)⟩)
    | (go_at_call 11; refine (put_calls 10 p2 HP2.out.isD HV2.out HBY.out (by have := HDL.out; omega) (by decide) K1.out 0 name_pa).mono ?_; rw [HM2.out]; rintro e w3 ⟨rfl, hA⟩; obtain ⟨O3, hT3⟩ := HP2.out.disk hA; have HT3 := Aside0.mk hT3; clear hA hT3; clear hqp2; have y1 : w3.cell? ⟨wa.heap.size, 1, none⟩ = some (.string nm_) := (blk_cell HT3.out.st.hy 1).trans rfl; have y3 : w3.cell? ⟨wa.heap.size, 3, none⟩ = some (.slice A nd cap) := (blk_cell HT3.out.st.hy 3).trans rfl; obtain ⟨p3, hqp3⟩ : ∃ p, w3.alloc (.cells #[.slice A nd cap] 27) = p := ⟨_, rfl⟩; have HP3 := Aside0.mk (HT3.out.stay (W' := p3) (by rw [← hqp3]; exact below_alloc (Below.refl _ _) _)); have HV3 : Aside0 (PartsV p3 (.slice (some ⟨w3.heap.size, 0, none⟩) 1 1) data) := ⟨.one _ A cap data (by rw [HND.out, ← hqp3]; exact heap_alloc_new _ _) (by rw [HND.out]; exact HC.out _ HP3.out.st.bel)⟩)
    | (go_at_call 9; refine (append_calls (nm_.size + to_.size + 3000000) p3 HP3.out.isD HV3.out HBY.out (by have := HDL.out; omega) (by have := HN1.out; omega) K2.out (nm nm_) HNM.out).mono ?_; rw [HM3.out]; rintro e w4 ⟨rfl, hA⟩; obtain ⟨O4, hT4⟩ := HP3.out.disk hA; have HT4 := Aside0.mk hT4; clear hA hT4; clear hqp3; have y1 : w4.cell? ⟨wa.heap.size, 1, none⟩ = some (.string nm_) := (blk_cell HT4.out.st.hy 1).trans rfl; have y3 : w4.cell? ⟨wa.heap.size, 3, none⟩ = some (.slice A nd cap) := (blk_cell HT4.out.st.hy 3).trans rfl)
    | (go_at_call 41; refine (spoil_calls w4 HT4.out.isD (p := nm_) (by have := HN1.out; omega) K3.out 0 255 (by decide)).mono ?_; rw [HM4.out]; rintro e w5 ⟨rfl, hA⟩; obtain ⟨O5, hT5⟩ := HT4.out.disk hA; have HT5 := Aside0.mk hT5; clear hA hT5)
    | (go_at_call 14; refine (remove_calls 10 w5 HT5.out.isD (p := pb) (by decide) K4.out 0 name_pb).mono ?_; rintro e w6 ⟨rfl, hA⟩; obtain ⟨O6, hT6⟩ := HT5.out.disk hA; have HS1 := Aside0.mk hT6.st; clear hA hT6))
  have HS4 := Aside0.mk (HS1.out.below (below_drew (Below.refl _ _)))
  obtain ⟨w4, hw4⟩ : ∃ w4, w6.drew = w4 := ⟨_, rfl⟩
  rw [hw4] at HS4
  have NE1 := HS4.out.ne
  have NE2 := HS4.out.ne.symm
  have x0 : w4.cell? ⟨w.heap.size, 0, none⟩ = some (.slice Au nu cu) := (blk_cell HS4.out.hx 0).trans rfl
  have x1 : w4.cell? ⟨w.heap.size, 1, none⟩ = some (.int .i64 m.writes) := (blk_cell HS4.out.hx 1).trans rfl
  have x2 : w4.cell? ⟨w.heap.size, 2, none⟩ = some (.bool m.armed) := (blk_cell HS4.out.hx 2).trans rfl
  have x3 : w4.cell? ⟨w.heap.size, 3, none⟩ = some (.bool m.dead) := (blk_cell HS4.out.hx 3).trans rfl
  have x4 : w4.cell? ⟨w.heap.size, 4, none⟩ = some (.int .i64 m.after) := (blk_cell HS4.out.hx 4).trans rfl
  have x5 : w4.cell? ⟨w.heap.size, 5, none⟩ = some (.int .i64 m.keep) := (blk_cell HS4.out.hx 5).trans rfl
  have z0 : w4.cell? ⟨wb.heap.size, 0, none⟩ = some (.slice none 0 0) := (blk_cell HS4.out.hz 0).trans rfl
  have z1 : w4.cell? ⟨wb.heap.size, 1, none⟩ = some (.int .i64 0) := (blk_cell HS4.out.hz 1).trans rfl
  have z2 : w4.cell? ⟨wb.heap.size, 2, none⟩ = some (.bool false) := (blk_cell HS4.out.hz 2).trans rfl
  have z3 : w4.cell? ⟨wb.heap.size, 3, none⟩ = some (.bool false) := (blk_cell HS4.out.hz 3).trans rfl
  have z4 : w4.cell? ⟨wb.heap.size, 4, none⟩ = some (.int .i64 0) := (blk_cell HS4.out.hz 4).trans rfl
  have z5 : w4.cell? ⟨wb.heap.size, 5, none⟩ = some (.int .i64 0) := (blk_cell HS4.out.hz 5).trans rfl
  have zf0 : w4.frozen? ⟨wb.heap.size, 0, none⟩ = false := blk_frozen HS4.out.hz 0
  have zf1 : w4.frozen? ⟨wb.heap.size, 1, none⟩ = false := blk_frozen HS4.out.hz 1
  have zf2 : w4.frozen? ⟨wb.heap.size, 2, none⟩ = false := blk_frozen HS4.out.hz 2
  have zf3 : w4.frozen? ⟨wb.heap.size, 3, none⟩ = false := blk_frozen HS4.out.hz 3
  have zf4 : w4.frozen? ⟨wb.heap.size, 4, none⟩ = false := blk_frozen HS4.out.hz 4
  have zf5 : w4.frozen? ⟨wb.heap.size, 5, none⟩ = false := blk_frozen HS4.out.hz 5
  go_region
  go_wp2
  have HF := HS4.out.fin
  refine bodyPost_ret (results_list (rs := [.tmp 6, .cell 7 39, .tmp 8]) rfl (by simp) (.tmp (.cell wb.heap.size 39 #[.slice Au nu cu, .int .i64 m.writes, .bool m.armed, .bool m.dead, .int .i64 m.after, .int .i64 m.keep] (0, 0) _ rfl HF.2.2.1 Try.underlying39 rfl (by kernel_rfl) (.tmp .nil)))) rfl ?_
  exact ⟨d, mb, m, .slice Au nu cu, rfl, HF.1, HI.out.le (by omega), HF.2.1, HF.2.2.2⟩

set_option maxRecDepth 100000 in
set_option maxHeartbeats 16000000 in
theorem playO_calls (w0 w : World) {d mb c : Nat} {m : DS} {u : Value} {bm : Nat} {XB : Array Value} (hb : Below w0.heap.size w0 w) (hp : Pair w w0.heap.size d mb m u bm) (hI : Inv c m) (hc : c + 1 ≤ 1000) {nm_ to_ : ByteArray} (h1 : nm_.size ≤ 140737488351232) (h2 : to_.size ≤ 140737488351232) {A : Option Addr} {cap : Nat} {data : List Int} (hC : ∀ W, Below w0.heap.size w0 W → Kd.C (Kd.int .u8) W A data.length data) (hcap : data.length ≤ cap) (hby : Bytes data) (hdl : data.length ≤ 140737488351232) (N keep mask : Int) (hN : N ≤ 9223372036854775807) (hmask : 0 ≤ mask ∧ mask < 256) (hbm : w.heap[bm]? = some (.cells XB 39 (0, 0))) (kd : Int) (q0 : (kd == 0) = false) (q1 : (kd == 1) = false) (q2 : (kd == 2) = false) (q3 : (kd == 3) = false) (q4 : (kd == 4) = false) (q5 : (kd == 5) = false) (q6 : (kd == 6) = false) (q7 : (kd == 7) = false) (q8 : (kd == 8) = false) (q9 : (kd == 9) = false) : PlaySaid w0 w d c m u kd nm_ to_ A data.length cap N keep mask bm XB := by
  unfold PlaySaid
  obtain ⟨O, hD, hR, hno⟩ := hp
  have HI := Aside0.mk hI
  have HOK := Aside0.mk (hI.ok (by omega))
  have HN1 := Aside0.mk h1
  have HN2 := Aside0.mk h2
  have HCAP := Aside0.mk hcap
  have HBY := Aside0.mk hby
  have HDL := Aside0.mk hdl
  have HNN := Aside0.mk hN
  have HMK := Aside0.mk hmask
  have HCC := Aside0.mk hc
  obtain ⟨nd, hnd⟩ : ∃ nd, data.length = nd := ⟨_, rfl⟩
  have HND := Aside0.mk hnd
  have HC := Aside0.mk hC
  rw [hnd] at HC HCAP ⊢
  obtain ⟨Au, cu, hu⟩ := Kd.R_slice hR
  obtain ⟨nu, hnu⟩ : ∃ nu, m.files.length = nu := ⟨_, rfl⟩
  have HNU := Aside0.mk hnu
  rw [hnu] at hu
  subst hu
  obtain ⟨wa, hwa⟩ : ∃ wa, w.alloc (.cells #[.slice Au nu cu, .int .i64 m.writes, .bool m.armed, .bool m.dead, .int .i64 m.after, .int .i64 m.keep] 39) = wa := ⟨_, rfl⟩
  obtain ⟨wb, hwb⟩ : ∃ wb, wa.alloc (.cells #[.int .i64 kd, .string nm_, .string to_, .slice A nd cap, .int .i64 N, .int .i64 keep, .int .u8 mask] 43) = wb := ⟨_, rfl⟩
  obtain ⟨wc, hwc⟩ : ∃ wc, wb.alloc (.cells #[.slice none 0 0, .int .i64 0, .bool false, .bool false, .int .i64 0, .int .i64 0] 39) = wc := ⟨_, rfl⟩
  have HS : Aside0 (St w0 wc O (fun k => w.heap.size ≤ k ∧ k < wc.heap.size) d mb w.heap.size wa.heap.size wb.heap.size m m (.slice Au nu cu) #[.int .i64 kd, .string nm_, .string to_, .slice A nd cap, .int .i64 N, .int .i64 keep, .int .u8 mask] bm XB) := ⟨by
    have hl := hD.base_lt
    have b1 : Below w.heap.size w wa := by rw [← hwa]; exact below_alloc (Below.refl _ _) _
    have b2 : Below wa.heap.size wa wb := by rw [← hwb]; exact below_alloc (Below.refl _ _) _
    have b3 : Below wb.heap.size wb wc := by rw [← hwc]; exact below_alloc (Below.refl _ _) _
    have s1 : wa.heap.size = w.heap.size + 1 := by rw [← hwa]; simp
    have s2 : wb.heap.size = wa.heap.size + 1 := by rw [← hwb]; simp
    have s3 : wc.heap.size = wb.heap.size + 1 := by rw [← hwc]; simp
    have b := below_then (below_then b1 b1.size b2) (by omega : w.heap.size ≤ wb.heap.size) b3
    have x1 : wa.heap[w.heap.size]? = some (.cells #[.slice Au nu cu, .int .i64 m.writes, .bool m.armed, .bool m.dead, .int .i64 m.after, .int .i64 m.keep] 39 (0, 0)) := by rw [← hwa]; exact heap_alloc_new w _
    have x2 : wb.heap[wa.heap.size]? = some (.cells #[.int .i64 kd, .string nm_, .string to_, .slice A nd cap, .int .i64 N, .int .i64 keep, .int .u8 mask] 43 (0, 0)) := by rw [← hwb]; exact heap_alloc_new wa _
    have x3 : wc.heap[wb.heap.size]? = some (.cells #[.slice none 0 0, .int .i64 0, .bool false, .bool false, .int .i64 0, .int .i64 0] 39 (0, 0)) := by rw [← hwc]; exact heap_alloc_new wb _
    exact ⟨hD.below b, Kd.R_below hR b, blk_below (blk_below x1 b2) b3, blk_below x2 b3, x3, below_then hb hl b, fun k hk => ⟨fun ho => by have := (hD.rows k ho).2; omega, hk.2, by omega⟩, by omega, by omega, by omega, by omega, blk_below hbm b, by have := blk_lt hbm; omega, by have := blk_lt hbm; omega, hno⟩⟩
  have y0 : wc.cell? ⟨wa.heap.size, 0, none⟩ = some (.int .i64 kd) := (blk_cell HS.out.hy 0).trans rfl
  have y1 : wc.cell? ⟨wa.heap.size, 1, none⟩ = some (.string nm_) := (blk_cell HS.out.hy 1).trans rfl
  have y2 : wc.cell? ⟨wa.heap.size, 2, none⟩ = some (.string to_) := (blk_cell HS.out.hy 2).trans rfl
  have y3 : wc.cell? ⟨wa.heap.size, 3, none⟩ = some (.slice A nd cap) := (blk_cell HS.out.hy 3).trans rfl
  have y4 : wc.cell? ⟨wa.heap.size, 4, none⟩ = some (.int .i64 N) := (blk_cell HS.out.hy 4).trans rfl
  have y5 : wc.cell? ⟨wa.heap.size, 5, none⟩ = some (.int .i64 keep) := (blk_cell HS.out.hy 5).trans rfl
  have y6 : wc.cell? ⟨wa.heap.size, 6, none⟩ = some (.int .u8 mask) := (blk_cell HS.out.hy 6).trans rfl
  clear hno hbm hb hD hR hI hc h1 h2 hC hcap hby hdl hN hmask hnd hnu
  go_enter Try.func15, Try.ntmps15
  go_upto_region 49 with (fail)
  have HS4 := Aside0.mk (HS.out.below (below_drew (Below.refl _ _)))
  obtain ⟨w4, hw4⟩ : ∃ w4, wc.drew = w4 := ⟨_, rfl⟩
  rw [hw4] at HS4
  have NE1 := HS4.out.ne
  have NE2 := HS4.out.ne.symm
  have x0 : w4.cell? ⟨w.heap.size, 0, none⟩ = some (.slice Au nu cu) := (blk_cell HS4.out.hx 0).trans rfl
  have x1 : w4.cell? ⟨w.heap.size, 1, none⟩ = some (.int .i64 m.writes) := (blk_cell HS4.out.hx 1).trans rfl
  have x2 : w4.cell? ⟨w.heap.size, 2, none⟩ = some (.bool m.armed) := (blk_cell HS4.out.hx 2).trans rfl
  have x3 : w4.cell? ⟨w.heap.size, 3, none⟩ = some (.bool m.dead) := (blk_cell HS4.out.hx 3).trans rfl
  have x4 : w4.cell? ⟨w.heap.size, 4, none⟩ = some (.int .i64 m.after) := (blk_cell HS4.out.hx 4).trans rfl
  have x5 : w4.cell? ⟨w.heap.size, 5, none⟩ = some (.int .i64 m.keep) := (blk_cell HS4.out.hx 5).trans rfl
  have z0 : w4.cell? ⟨wb.heap.size, 0, none⟩ = some (.slice none 0 0) := (blk_cell HS4.out.hz 0).trans rfl
  have z1 : w4.cell? ⟨wb.heap.size, 1, none⟩ = some (.int .i64 0) := (blk_cell HS4.out.hz 1).trans rfl
  have z2 : w4.cell? ⟨wb.heap.size, 2, none⟩ = some (.bool false) := (blk_cell HS4.out.hz 2).trans rfl
  have z3 : w4.cell? ⟨wb.heap.size, 3, none⟩ = some (.bool false) := (blk_cell HS4.out.hz 3).trans rfl
  have z4 : w4.cell? ⟨wb.heap.size, 4, none⟩ = some (.int .i64 0) := (blk_cell HS4.out.hz 4).trans rfl
  have z5 : w4.cell? ⟨wb.heap.size, 5, none⟩ = some (.int .i64 0) := (blk_cell HS4.out.hz 5).trans rfl
  have zf0 : w4.frozen? ⟨wb.heap.size, 0, none⟩ = false := blk_frozen HS4.out.hz 0
  have zf1 : w4.frozen? ⟨wb.heap.size, 1, none⟩ = false := blk_frozen HS4.out.hz 1
  have zf2 : w4.frozen? ⟨wb.heap.size, 2, none⟩ = false := blk_frozen HS4.out.hz 2
  have zf3 : w4.frozen? ⟨wb.heap.size, 3, none⟩ = false := blk_frozen HS4.out.hz 3
  have zf4 : w4.frozen? ⟨wb.heap.size, 4, none⟩ = false := blk_frozen HS4.out.hz 4
  have zf5 : w4.frozen? ⟨wb.heap.size, 5, none⟩ = false := blk_frozen HS4.out.hz 5
  go_region
  go_wp2
  have HF := HS4.out.fin
  refine bodyPost_ret (results_list (rs := [.tmp 6, .cell 7 39, .tmp 8]) rfl (by simp) (.tmp (.cell wb.heap.size 39 #[.slice Au nu cu, .int .i64 m.writes, .bool m.armed, .bool m.dead, .int .i64 m.after, .int .i64 m.keep] (0, 0) _ rfl HF.2.2.1 Try.underlying39 rfl (by kernel_rfl) (.tmp .nil)))) rfl ?_
  exact ⟨d, mb, m, .slice Au nu cu, rfl, HF.1, HI.out.le (by omega), HF.2.1, HF.2.2.2⟩

end Go.Proofs.Ytieodkghfceflaa.MD
namespace Go.Proofs.Ytieodkghfceflaa.MD
open Go.Proofs.Ytieodkghfceflaa.Opening Go.Proofs.Ytieodkghfceflaa.Pure
open Go.RowKit Go.Proofs.YtieodkghfceflaaW.PrintWords Go.Proofs.YtieodkghfceflaaW.PrintLast Go.Proofs.YtieodkghfceflaaW.PrintMore
theorem parts_f (kd : Int) (a b : ByteArray) (l : List Int) (N keep mask : Int) (hl : l.length ≤ 140737488351232) : ∃ n : Nat, forebearlaw06_parts.f kd a b l N keep mask = some (l.take n, l.drop n) := by
  refine ⟨(mn (mx N 0) (l.length : Int)).toNat, ?_⟩
  have h1 : 0 ≤ mn (mx N 0) (l.length : Int) := by unfold mn mx; split <;> split <;> omega
  have h2 : mn (mx N 0) (l.length : Int) ≤ (l.length : Int) := by unfold mn mx; split <;> split <;> omega
  unfold forebearlaw06_parts.f
  simp only [Option.bind_some]
  rw [if_pos h1, if_pos h2, if_pos (by rw [List.length_take]; simp; omega), if_pos (by rw [List.length_drop]; simp; omega)]
  simp
end Go.Proofs.Ytieodkghfceflaa.MD
namespace Go.Proofs.Ytieodkghfceflaa.MD
open Go.Proofs.Ytieodkghfceflaa.Opening Go.Proofs.Ytieodkghfceflaa.Pure
open Go.RowKit Go.Proofs.YtieodkghfceflaaW.PrintWords Go.Proofs.YtieodkghfceflaaW.PrintLast Go.Proofs.YtieodkghfceflaaW.PrintMore
set_option maxRecDepth 100000 in
set_option maxHeartbeats 16000000 in
theorem play0_calls (w0 w : World) {d mb c : Nat} {m : DS} {u : Value} {bm : Nat} {XB : Array Value} (hb : Below w0.heap.size w0 w) (hp : Pair w w0.heap.size d mb m u bm) (hI : Inv c m) (hc : c + 1 ≤ 1000) {nm_ to_ : ByteArray} (h1 : nm_.size ≤ 140737488351232) (h2 : to_.size ≤ 140737488351232) {A : Option Addr} {cap : Nat} {data : List Int} (hC : ∀ W, Below w0.heap.size w0 W → Kd.C (Kd.int .u8) W A data.length data) (hcap : data.length ≤ cap) (hby : Bytes data) (hdl : data.length ≤ 140737488351232) (N keep mask : Int) (hN : N ≤ 9223372036854775807) (hmask : 0 ≤ mask ∧ mask < 256) (hbm : w.heap[bm]? = some (.cells XB 39 (0, 0))) : PlaySaid w0 w d c m u 0 nm_ to_ A data.length cap N keep mask bm XB := by
  unfold PlaySaid
  obtain ⟨O, hD, hR, hno⟩ := hp
  have HI := Aside0.mk hI
  have HOK := Aside0.mk (hI.ok (by omega))
  have HN1 := Aside0.mk h1
  have HN2 := Aside0.mk h2
  have HCAP := Aside0.mk hcap
  have HBY := Aside0.mk hby
  have HDL := Aside0.mk hdl
  have HNN := Aside0.mk hN
  have HMK := Aside0.mk hmask
  have HCC := Aside0.mk hc
  obtain ⟨nd, hnd⟩ : ∃ nd, data.length = nd := ⟨_, rfl⟩
  have HND := Aside0.mk hnd
  have HC := Aside0.mk hC
  rw [hnd] at HC HCAP ⊢
  obtain ⟨Au, cu, hu⟩ := Kd.R_slice hR
  obtain ⟨nu, hnu⟩ : ∃ nu, m.files.length = nu := ⟨_, rfl⟩
  have HNU := Aside0.mk hnu
  rw [hnu] at hu
  subst hu
  obtain ⟨wa, hwa⟩ : ∃ wa, w.alloc (.cells #[.slice Au nu cu, .int .i64 m.writes, .bool m.armed, .bool m.dead, .int .i64 m.after, .int .i64 m.keep] 39) = wa := ⟨_, rfl⟩
  obtain ⟨wb, hwb⟩ : ∃ wb, wa.alloc (.cells #[.int .i64 0, .string nm_, .string to_, .slice A nd cap, .int .i64 N, .int .i64 keep, .int .u8 mask] 43) = wb := ⟨_, rfl⟩
  obtain ⟨wc, hwc⟩ : ∃ wc, wb.alloc (.cells #[.slice none 0 0, .int .i64 0, .bool false, .bool false, .int .i64 0, .int .i64 0] 39) = wc := ⟨_, rfl⟩
  have HS : Aside0 (St w0 wc O (fun k => w.heap.size ≤ k ∧ k < wc.heap.size) d mb w.heap.size wa.heap.size wb.heap.size m m (.slice Au nu cu) #[.int .i64 0, .string nm_, .string to_, .slice A nd cap, .int .i64 N, .int .i64 keep, .int .u8 mask] bm XB) := ⟨by
    have hl := hD.base_lt
    have b1 : Below w.heap.size w wa := by rw [← hwa]; exact below_alloc (Below.refl _ _) _
    have b2 : Below wa.heap.size wa wb := by rw [← hwb]; exact below_alloc (Below.refl _ _) _
    have b3 : Below wb.heap.size wb wc := by rw [← hwc]; exact below_alloc (Below.refl _ _) _
    have s1 : wa.heap.size = w.heap.size + 1 := by rw [← hwa]; simp
    have s2 : wb.heap.size = wa.heap.size + 1 := by rw [← hwb]; simp
    have s3 : wc.heap.size = wb.heap.size + 1 := by rw [← hwc]; simp
    have b := below_then (below_then b1 b1.size b2) (by omega : w.heap.size ≤ wb.heap.size) b3
    have x1 : wa.heap[w.heap.size]? = some (.cells #[.slice Au nu cu, .int .i64 m.writes, .bool m.armed, .bool m.dead, .int .i64 m.after, .int .i64 m.keep] 39 (0, 0)) := by rw [← hwa]; exact heap_alloc_new w _
    have x2 : wb.heap[wa.heap.size]? = some (.cells #[.int .i64 0, .string nm_, .string to_, .slice A nd cap, .int .i64 N, .int .i64 keep, .int .u8 mask] 43 (0, 0)) := by rw [← hwb]; exact heap_alloc_new wa _
    have x3 : wc.heap[wb.heap.size]? = some (.cells #[.slice none 0 0, .int .i64 0, .bool false, .bool false, .int .i64 0, .int .i64 0] 39 (0, 0)) := by rw [← hwc]; exact heap_alloc_new wb _
    exact ⟨hD.below b, Kd.R_below hR b, blk_below (blk_below x1 b2) b3, blk_below x2 b3, x3, below_then hb hl b, fun k hk => ⟨fun ho => by have := (hD.rows k ho).2; omega, hk.2, by omega⟩, by omega, by omega, by omega, by omega, blk_below hbm b, by have := blk_lt hbm; omega, by have := blk_lt hbm; omega, hno⟩⟩
  have y0 : wc.cell? ⟨wa.heap.size, 0, none⟩ = some (.int .i64 0) := (blk_cell HS.out.hy 0).trans rfl
  have y1 : wc.cell? ⟨wa.heap.size, 1, none⟩ = some (.string nm_) := (blk_cell HS.out.hy 1).trans rfl
  have y2 : wc.cell? ⟨wa.heap.size, 2, none⟩ = some (.string to_) := (blk_cell HS.out.hy 2).trans rfl
  have y3 : wc.cell? ⟨wa.heap.size, 3, none⟩ = some (.slice A nd cap) := (blk_cell HS.out.hy 3).trans rfl
  have y4 : wc.cell? ⟨wa.heap.size, 4, none⟩ = some (.int .i64 N) := (blk_cell HS.out.hy 4).trans rfl
  have y5 : wc.cell? ⟨wa.heap.size, 5, none⟩ = some (.int .i64 keep) := (blk_cell HS.out.hy 5).trans rfl
  have y6 : wc.cell? ⟨wa.heap.size, 6, none⟩ = some (.int .u8 mask) := (blk_cell HS.out.hy 6).trans rfl
  clear hno hbm hb hD hR hI hc h1 h2 hC hcap hby hdl hN hmask hnd hnu
  obtain ⟨nq, hparts⟩ := parts_f 0 nm_ to_ data N keep mask HDL.out
  obtain ⟨l1, hl1⟩ : ∃ l1, data.take nq = l1 := ⟨_, rfl⟩
  obtain ⟨l2, hl2⟩ : ∃ l2, data.drop nq = l2 := ⟨_, rfl⟩
  have HDA : Aside0 (l1 ++ l2 = data) := ⟨by rw [← hl1, ← hl2]; exact List.take_append_drop nq data⟩
  rw [hl1, hl2] at hparts
  obtain ⟨ea, he1⟩ : ∃ ea, l1.length = ea := ⟨_, rfl⟩
  obtain ⟨eb, he2⟩ : ∃ eb, l2.length = eb := ⟨_, rfl⟩
  have HE1 := Aside0.mk he1
  have HE2 := Aside0.mk he2
  have HL : Aside0 (ea + eb ≤ 140737488351232) := ⟨by have h := congrArg List.length HDA.out; rw [List.length_append, he1, he2] at h; have := HDL.out; omega⟩
  have HTP := fun W h => forebearlaw06_parts.calls 0 nm_ to_ A cap data N keep mask l1 l2 W h (by rw [HND.out]; exact HCAP.out) hparts
  rw [HND.out] at HTP
  have HTP := Aside0.mk HTP
  obtain ⟨Sd, hSd⟩ : ∃ Sd, strOfNums data = Sd := ⟨_, rfl⟩
  have HSD := Aside0.mk hSd
  have hSb : bytesOf Sd = data := by rw [← hSd]; exact bytesOf_str HBY.out
  obtain ⟨M2, hM2⟩ : ∃ M2, putD (nm nm_) m nm_ data = M2 := ⟨_, rfl⟩
  have HM2 := Aside0.mk hM2
  have HNM : Aside0 (path_Name.f (nm_.size + to_.size + 3000000) nm_ = some (nm nm_)) := ⟨name_f HN1.out (nm_.size + to_.size + 3000000) (by omega)⟩
  have hf : forebearref06_Put.f (nm_.size + to_.size + 3000000) m.files m.writes m.armed m.dead m.after m.keep nm_ Sd = some (ret M2) := by rw [← hM2, ← hSb]; exact put_f HOK.out HI.out.rise HN1.out (by rw [← hSd, strOfNums_size]; have := HDL.out; omega) (nm_.size + to_.size + 3000000) (by omega) (by omega)
  have HT2 := Aside0.mk (fun (W : World) (hb : Below w0.heap.size w0 W) (hr : Kd.R k76 76 W w0.heap.size (fun k => some k = (Value.slice Au nu cu).ownBlock) (.slice Au nu cu) m.files) => forebearref06_Put.calls (nm_.size + to_.size + 3000000) (fun k => some k = (Value.slice Au nu cu).ownBlock) (.slice Au nu cu) m.files m.writes m.armed m.dead m.after m.keep nm_ Sd _ _ _ _ _ _ _ w0 W hb hr hf)
  have HIV : Aside0 (Inv (c + 1) M2.1) := ⟨by rw [← hM2]; exact HI.out.putD nm_ data⟩
  clear hf hM2 hSb hSd hparts hl1 hl2 he1 he2
  go_enter Try.func15, Try.ntmps15
  go_upto_region 12 with (first | (go_at_call 33; refine (HTP.out wc (HC.out wc HS.out.bel)).mono ?_; rintro e w1 ⟨va, vb, rfl, hRa, hRb, hB⟩; obtain ⟨Aa, ca, hva0⟩ := Kd.R_slice hRa; have hva : va = .slice Aa ea ca := hva0.trans (by rw [HE1.out]); clear hva0; subst hva; obtain ⟨Ab, cb, hvb0⟩ := Kd.R_slice hRb; have hvb : vb = .slice Ab eb cb := hvb0.trans (by rw [HE2.out]); clear hvb0; subst hvb; have HS1 := Aside0.mk (HS.out.below hB); have HRa : Aside0 (Kd.R (Kd.int .u8) 5 w1 wc.heap.size (fun k => (w.heap.size ≤ k ∧ k < wc.heap.size) ∨ (wc.heap.size ≤ k ∧ k < w1.heap.size)) (.slice Aa ea ca) l1) := ⟨Kd.R_mono (Kd.R_bound hRa) (fun k hk => Or.inr ⟨hk.2.1, hk.2.2.1⟩)⟩; have HRb : Aside0 (Kd.R (Kd.int .u8) 5 w1 wc.heap.size (fun k => ((w.heap.size ≤ k ∧ k < wc.heap.size) ∨ (wc.heap.size ≤ k ∧ k < w1.heap.size)) ∧ some k ≠ (Value.slice Aa ea ca).ownBlock) (.slice Ab eb cb) l2) := ⟨Kd.R_mono (Kd.R_bound hRb) (fun k hk => ⟨Or.inr ⟨hk.2.1, hk.2.2.1⟩, hk.1⟩)⟩; obtain ⟨p1, hq1⟩ : ∃ p, w1.alloc (.cells #[.slice Aa ea ca, .slice Ab eb cb] 27) = p := ⟨_, rfl⟩; have hbp : Below w1.heap.size w1 p1 := (by rw [← hq1]; exact below_alloc (Below.refl _ _) _); have HP1 := Aside0.mk (HS1.out.stay hbp); have HRa1 := Aside0.mk (Kd.R_below HRa.out hbp); have HRb1 := Aside0.mk (Kd.R_below HRb.out hbp); have HV : Aside0 (PartsV p1 (.slice (some ⟨w1.heap.size, 0, none⟩) 2 2) data) := ⟨by rw [← HDA.out]; exact .two _ Aa Ab ca cb l1 l2 (by rw [HE1.out, HE2.out, ← hq1]; exact heap_alloc_new _ _) (Kd.R_reads' HRa1.out).2.2 (Kd.R_reads' HRb1.out).2.2⟩; have y0 : w1.cell? ⟨wa.heap.size, 0, none⟩ = some (.int .i64 0) := (blk_cell HS1.out.hy 0).trans rfl; have y1 : w1.cell? ⟨wa.heap.size, 1, none⟩ = some (.string nm_) := (blk_cell HS1.out.hy 1).trans rfl; clear hRa hRb hB hbp) | (go_at_call 11; refine (put_calls (nm_.size + to_.size + 3000000) p1 HP1.out.isD HV.out HBY.out (by have := HDL.out; omega) (by have := HN1.out; omega) HOK.out (nm nm_) HNM.out).mono ?_; rw [HM2.out]; rintro e w2 ⟨rfl, hA⟩; obtain ⟨O1, hS2, hr5⟩ := HP1.out.disk hA; have HS2 := Aside0.mk hS2; have HRa2 := Aside0.mk (hr5 _ _ _ _ HRa1.out); have HRb2 := Aside0.mk (hr5 _ _ _ _ HRb1.out); have x0 : w2.cell? ⟨w.heap.size, 0, none⟩ = some (.slice Au nu cu) := (blk_cell hS2.hx 0).trans rfl; have x1 : w2.cell? ⟨w.heap.size, 1, none⟩ = some (.int .i64 m.writes) := (blk_cell hS2.hx 1).trans rfl; have x2 : w2.cell? ⟨w.heap.size, 2, none⟩ = some (.bool m.armed) := (blk_cell hS2.hx 2).trans rfl; have x3 : w2.cell? ⟨w.heap.size, 3, none⟩ = some (.bool m.dead) := (blk_cell hS2.hx 3).trans rfl; have x4 : w2.cell? ⟨w.heap.size, 4, none⟩ = some (.int .i64 m.after) := (blk_cell hS2.hx 4).trans rfl; have x5 : w2.cell? ⟨w.heap.size, 5, none⟩ = some (.int .i64 m.keep) := (blk_cell hS2.hx 5).trans rfl; have y1 : w2.cell? ⟨wa.heap.size, 1, none⟩ = some (.string nm_) := (blk_cell hS2.hy 1).trans rfl; have y3 : w2.cell? ⟨wa.heap.size, 3, none⟩ = some (.slice A nd cap) := (blk_cell hS2.hy 3).trans rfl; have hcv : (convert 27 9 (.slice A nd cap)).run Try.prog w2 = .ok (.string Sd) w2 := (by have := Kd.C_string (c := cap) Try.underlying27 Try.underlying5 Try.underlying9 (HC.out w2 hS2.bel); rw [HSD.out] at this; exact this); clear hq1 hA hS2 hr5) | (go_at_call 34; refine (HT2.out w2 HS2.out.bel (R76_own HS2.out.row)).mono ?_; rintro e w5 ⟨v2, rfl, hR2, hB2, hK2⟩; obtain ⟨A2, c2, hv20⟩ := Kd.R_slice hR2; obtain ⟨n2, hn2⟩ : ∃ n2, (M2.1).files.length = n2 := ⟨_, rfl⟩; have hv2 : v2 = .slice A2 n2 c2 := hv20.trans (by rw [← hn2]); clear hn2 hv20; subst hv2; have HREF := Aside0.mk (HS2.out.ref (mx' := M2.1) hK2 hR2 hB2); have hbx := HREF.out.2.2; have x0 : w5.cell? ⟨w.heap.size, 0, none⟩ = some (.slice Au nu cu) := (blk_cell hbx 0).trans rfl; have x1 : w5.cell? ⟨w.heap.size, 1, none⟩ = some (.int .i64 m.writes) := (blk_cell hbx 1).trans rfl; have x2 : w5.cell? ⟨w.heap.size, 2, none⟩ = some (.bool m.armed) := (blk_cell hbx 2).trans rfl; have x3 : w5.cell? ⟨w.heap.size, 3, none⟩ = some (.bool m.dead) := (blk_cell hbx 3).trans rfl; have x4 : w5.cell? ⟨w.heap.size, 4, none⟩ = some (.int .i64 m.after) := (blk_cell hbx 4).trans rfl; have x5 : w5.cell? ⟨w.heap.size, 5, none⟩ = some (.int .i64 m.keep) := (blk_cell hbx 5).trans rfl; have xf0 : w5.frozen? ⟨w.heap.size, 0, none⟩ = false := blk_frozen hbx 0; have xf1 : w5.frozen? ⟨w.heap.size, 1, none⟩ = false := blk_frozen hbx 1; have xf2 : w5.frozen? ⟨w.heap.size, 2, none⟩ = false := blk_frozen hbx 2; have xf3 : w5.frozen? ⟨w.heap.size, 3, none⟩ = false := blk_frozen hbx 3; have xf4 : w5.frozen? ⟨w.heap.size, 4, none⟩ = false := blk_frozen hbx 4; have xf5 : w5.frozen? ⟨w.heap.size, 5, none⟩ = false := blk_frozen hbx 5; clear hR2 hB2 hK2 hbx; have HRa5 := HREF.out.2.1 _ _ _ _ HRa2.out; have HRb5 := HREF.out.2.1 _ _ _ _ HRb2.out))
  obtain ⟨w6, hw6⟩ : ∃ w6, ((((((w5.setCell ⟨w.heap.size, 0, none⟩ (.slice A2 n2 c2)).setCell ⟨w.heap.size, 1, none⟩ (.int .i64 M2.1.writes)).setCell ⟨w.heap.size, 2, none⟩ (.bool M2.1.armed)).setCell ⟨w.heap.size, 3, none⟩ (.bool M2.1.dead)).setCell ⟨w.heap.size, 4, none⟩ (.int .i64 M2.1.after)).setCell ⟨w.heap.size, 5, none⟩ (.int .i64 M2.1.keep)) = w6 := ⟨_, rfl⟩
  have HS6 := HREF.out.1
  rw [hw6] at HS6 HRa5 HRb5 ⊢
  have HS6 := Aside0.mk HS6
  have HRa6 := Aside0.mk HRa5
  have HRb6 := Aside0.mk HRb5
  clear hw6 HRa5 HRb5 x0 x1 x2 x3 x4 x5 xf0 xf1 xf2 xf3 xf4 xf5 y1 y3
  go_wp2
  go_loopw [13] (fun s13 wr => ∃ (k : Nat) (L : List Int), s13 = .int .i64 k ∧ Aside0 (k ≤ ea) ∧ Aside0 (L.length = ea) ∧ Aside0 (St w0 wr O1 (fun k => (w.heap.size ≤ k ∧ k < wc.heap.size) ∨ (wc.heap.size ≤ k ∧ k < w1.heap.size)) d mb w.heap.size wa.heap.size wb.heap.size M2.1 M2.1 (.slice A2 n2 c2) #[.int .i64 0, .string nm_, .string to_, .slice A nd cap, .int .i64 N, .int .i64 keep, .int .u8 mask] bm XB) ∧ Aside0 (Kd.R (Kd.int .u8) 5 wr wc.heap.size (fun k => (w.heap.size ≤ k ∧ k < wc.heap.size) ∨ (wc.heap.size ≤ k ∧ k < w1.heap.size)) (.slice Aa ea ca) L) ∧ Aside0 (Kd.R (Kd.int .u8) 5 wr wc.heap.size (fun k => ((w.heap.size ≤ k ∧ k < wc.heap.size) ∨ (wc.heap.size ≤ k ∧ k < w1.heap.size)) ∧ some k ≠ (Value.slice Aa ea ca).ownBlock) (.slice Ab eb cb) l2)) (fun s13 wr => ea - (intOf s13).toNat)
  case atStart => exact ⟨0, l1, rfl, ⟨by omega⟩, HE1, HS6, HRa6, HRb6⟩
  case round =>
    obtain ⟨k, L, rfl, HK, HLN, HS7, HRa7, HRb7⟩ := hrel
    by_cases hlt : k < ea
    · obtain ⟨g, hA, hbg, q0, q1, q2⟩ := R_scalar_at HRa7.out k (by rw [HLN.out]; exact hlt)
      subst hA
      have hkb : k + 1 ≤ 140737488351232 := (by have := HL.out; omega)
      obtain ⟨y, hy⟩ : ∃ y, L[k]'(by rw [HLN.out]; exact hlt) = y := ⟨_, rfl⟩
      rw [hy] at q0
      have HQ2 := Aside0.mk q2
      obtain ⟨cs, hcs⟩ := Kd.R_typed HRa7.out g rfl
      have HSP := Aside0.mk (fun y => HS7.out.put (HRa7.out.1 g rfl) hcs k y)
      have HRP := Aside0.mk (fun y => Kd.R_far (p := ⟨g, k, none⟩) HRb7.out (fun k' hk' e => hk'.2 (by rw [e]; rfl)) y)
      clear q2 hy hbg hcs
      go_wp2
      go_roundw
      case rel => exact ⟨k + 1, L.set k _, by go_num, ⟨by omega⟩, ⟨by rw [List.length_set]; exact HLN.out⟩, ⟨HSP.out _⟩, ⟨HQ2.out _⟩, ⟨HRP.out _⟩⟩
      case measure => simp [intOf]; omega
    · go_wp2
      clear HRa7 HRa6
      go_loopw [14] (fun s14 wr => ∃ (k : Nat) (L : List Int), s14 = .int .i64 k ∧ Aside0 (k ≤ eb) ∧ Aside0 (L.length = eb) ∧ Aside0 (St w0 wr O1 (fun k => (w.heap.size ≤ k ∧ k < wc.heap.size) ∨ (wc.heap.size ≤ k ∧ k < w1.heap.size)) d mb w.heap.size wa.heap.size wb.heap.size M2.1 M2.1 (.slice A2 n2 c2) #[.int .i64 0, .string nm_, .string to_, .slice A nd cap, .int .i64 N, .int .i64 keep, .int .u8 mask] bm XB) ∧ Aside0 (Kd.R (Kd.int .u8) 5 wr wc.heap.size (fun k => ((w.heap.size ≤ k ∧ k < wc.heap.size) ∨ (wc.heap.size ≤ k ∧ k < w1.heap.size)) ∧ some k ≠ (Value.slice Aa ea ca).ownBlock) (.slice Ab eb cb) L)) (fun s14 wr => eb - (intOf s14).toNat)
      case atStart => exact ⟨0, l2, rfl, ⟨by omega⟩, HE2, HS7, HRb7⟩
      case round =>
        obtain ⟨k2, L2, rfl, HK2, HLN2, HS8, HRb8⟩ := hrel
        by_cases hlt2 : k2 < eb
        · obtain ⟨g, hA, hbg, q0, q1, q2⟩ := R_scalar_at HRb8.out k2 (by rw [HLN2.out]; exact hlt2)
          subst hA
          have hkb : k2 + 1 ≤ 140737488351232 := (by have := HL.out; omega)
          obtain ⟨y, hy⟩ : ∃ y, L2[k2]'(by rw [HLN2.out]; exact hlt2) = y := ⟨_, rfl⟩
          rw [hy] at q0
          have HQ2 := Aside0.mk q2
          obtain ⟨cs, hcs⟩ := Kd.R_typed HRb8.out g rfl
          have HSP := Aside0.mk (fun y => HS8.out.put (HRb8.out.1 g rfl).1 hcs k2 y)
          clear q2 hy hbg hcs
          go_wp2
          go_roundw
          case rel => exact ⟨k2 + 1, L2.set k2 _, by go_num, ⟨by omega⟩, ⟨by rw [List.length_set]; exact HLN2.out⟩, ⟨HSP.out _⟩, ⟨HQ2.out _⟩⟩
          case measure => simp [intOf]; omega
        · go_upto_region 49 with (fail)
          have HS4 := Aside0.mk (HS8.out.below (below_drew (Below.refl _ _)))
          obtain ⟨w4, hw4⟩ : ∃ w4, wr.drew = w4 := ⟨_, rfl⟩
          rw [hw4] at HS4
          have NE1 := HS4.out.ne
          have NE2 := HS4.out.ne.symm
          have x0 : w4.cell? ⟨w.heap.size, 0, none⟩ = some (.slice A2 n2 c2) := (blk_cell HS4.out.hx 0).trans rfl
          have x1 : w4.cell? ⟨w.heap.size, 1, none⟩ = some (.int .i64 M2.1.writes) := (blk_cell HS4.out.hx 1).trans rfl
          have x2 : w4.cell? ⟨w.heap.size, 2, none⟩ = some (.bool M2.1.armed) := (blk_cell HS4.out.hx 2).trans rfl
          have x3 : w4.cell? ⟨w.heap.size, 3, none⟩ = some (.bool M2.1.dead) := (blk_cell HS4.out.hx 3).trans rfl
          have x4 : w4.cell? ⟨w.heap.size, 4, none⟩ = some (.int .i64 M2.1.after) := (blk_cell HS4.out.hx 4).trans rfl
          have x5 : w4.cell? ⟨w.heap.size, 5, none⟩ = some (.int .i64 M2.1.keep) := (blk_cell HS4.out.hx 5).trans rfl
          have z0 : w4.cell? ⟨wb.heap.size, 0, none⟩ = some (.slice none 0 0) := (blk_cell HS4.out.hz 0).trans rfl
          have z1 : w4.cell? ⟨wb.heap.size, 1, none⟩ = some (.int .i64 0) := (blk_cell HS4.out.hz 1).trans rfl
          have z2 : w4.cell? ⟨wb.heap.size, 2, none⟩ = some (.bool false) := (blk_cell HS4.out.hz 2).trans rfl
          have z3 : w4.cell? ⟨wb.heap.size, 3, none⟩ = some (.bool false) := (blk_cell HS4.out.hz 3).trans rfl
          have z4 : w4.cell? ⟨wb.heap.size, 4, none⟩ = some (.int .i64 0) := (blk_cell HS4.out.hz 4).trans rfl
          have z5 : w4.cell? ⟨wb.heap.size, 5, none⟩ = some (.int .i64 0) := (blk_cell HS4.out.hz 5).trans rfl
          have zf0 : w4.frozen? ⟨wb.heap.size, 0, none⟩ = false := blk_frozen HS4.out.hz 0
          have zf1 : w4.frozen? ⟨wb.heap.size, 1, none⟩ = false := blk_frozen HS4.out.hz 1
          have zf2 : w4.frozen? ⟨wb.heap.size, 2, none⟩ = false := blk_frozen HS4.out.hz 2
          have zf3 : w4.frozen? ⟨wb.heap.size, 3, none⟩ = false := blk_frozen HS4.out.hz 3
          have zf4 : w4.frozen? ⟨wb.heap.size, 4, none⟩ = false := blk_frozen HS4.out.hz 4
          have zf5 : w4.frozen? ⟨wb.heap.size, 5, none⟩ = false := blk_frozen HS4.out.hz 5
          have hee : (M2.2 == M2.2) = true := beq_self_eq_true _
          go_region
          go_wp2
          have HF := HS4.out.fin
          refine bodyPost_ret (results_list (rs := [.tmp 6, .cell 7 39, .tmp 8]) rfl (by simp) (.tmp (.cell wb.heap.size 39 #[.slice A2 n2 c2, .int .i64 M2.1.writes, .bool M2.1.armed, .bool M2.1.dead, .int .i64 M2.1.after, .int .i64 M2.1.keep] (0, 0) _ rfl HF.2.2.1 Try.underlying39 rfl (by kernel_rfl) (.tmp .nil)))) rfl ?_
          exact ⟨d, mb, M2.1, .slice A2 n2 c2, rfl, HF.1, HIV.out, HF.2.1, HF.2.2.2⟩
set_option maxRecDepth 100000 in
set_option maxHeartbeats 16000000 in
theorem play1_calls (w0 w : World) {d mb c : Nat} {m : DS} {u : Value} {bm : Nat} {XB : Array Value} (hb : Below w0.heap.size w0 w) (hp : Pair w w0.heap.size d mb m u bm) (hI : Inv c m) (hc : c + 1 ≤ 1000) {nm_ to_ : ByteArray} (h1 : nm_.size ≤ 140737488351232) (h2 : to_.size ≤ 140737488351232) {A : Option Addr} {cap : Nat} {data : List Int} (hC : ∀ W, Below w0.heap.size w0 W → Kd.C (Kd.int .u8) W A data.length data) (hcap : data.length ≤ cap) (hby : Bytes data) (hdl : data.length ≤ 140737488351232) (N keep mask : Int) (hN : N ≤ 9223372036854775807) (hmask : 0 ≤ mask ∧ mask < 256) (hbm : w.heap[bm]? = some (.cells XB 39 (0, 0))) : PlaySaid w0 w d c m u 1 nm_ to_ A data.length cap N keep mask bm XB := by
  unfold PlaySaid
  obtain ⟨O, hD, hR, hno⟩ := hp
  have HI := Aside0.mk hI
  have HOK := Aside0.mk (hI.ok (by omega))
  have HN1 := Aside0.mk h1
  have HN2 := Aside0.mk h2
  have HCAP := Aside0.mk hcap
  have HBY := Aside0.mk hby
  have HDL := Aside0.mk hdl
  have HNN := Aside0.mk hN
  have HMK := Aside0.mk hmask
  have HCC := Aside0.mk hc
  obtain ⟨nd, hnd⟩ : ∃ nd, data.length = nd := ⟨_, rfl⟩
  have HND := Aside0.mk hnd
  have HC := Aside0.mk hC
  rw [hnd] at HC HCAP ⊢
  obtain ⟨Au, cu, hu⟩ := Kd.R_slice hR
  obtain ⟨nu, hnu⟩ : ∃ nu, m.files.length = nu := ⟨_, rfl⟩
  have HNU := Aside0.mk hnu
  rw [hnu] at hu
  subst hu
  obtain ⟨wa, hwa⟩ : ∃ wa, w.alloc (.cells #[.slice Au nu cu, .int .i64 m.writes, .bool m.armed, .bool m.dead, .int .i64 m.after, .int .i64 m.keep] 39) = wa := ⟨_, rfl⟩
  obtain ⟨wb, hwb⟩ : ∃ wb, wa.alloc (.cells #[.int .i64 1, .string nm_, .string to_, .slice A nd cap, .int .i64 N, .int .i64 keep, .int .u8 mask] 43) = wb := ⟨_, rfl⟩
  obtain ⟨wc, hwc⟩ : ∃ wc, wb.alloc (.cells #[.slice none 0 0, .int .i64 0, .bool false, .bool false, .int .i64 0, .int .i64 0] 39) = wc := ⟨_, rfl⟩
  have HS : Aside0 (St w0 wc O (fun k => w.heap.size ≤ k ∧ k < wc.heap.size) d mb w.heap.size wa.heap.size wb.heap.size m m (.slice Au nu cu) #[.int .i64 1, .string nm_, .string to_, .slice A nd cap, .int .i64 N, .int .i64 keep, .int .u8 mask] bm XB) := ⟨by
    have hl := hD.base_lt
    have b1 : Below w.heap.size w wa := by rw [← hwa]; exact below_alloc (Below.refl _ _) _
    have b2 : Below wa.heap.size wa wb := by rw [← hwb]; exact below_alloc (Below.refl _ _) _
    have b3 : Below wb.heap.size wb wc := by rw [← hwc]; exact below_alloc (Below.refl _ _) _
    have s1 : wa.heap.size = w.heap.size + 1 := by rw [← hwa]; simp
    have s2 : wb.heap.size = wa.heap.size + 1 := by rw [← hwb]; simp
    have s3 : wc.heap.size = wb.heap.size + 1 := by rw [← hwc]; simp
    have b := below_then (below_then b1 b1.size b2) (by omega : w.heap.size ≤ wb.heap.size) b3
    have x1 : wa.heap[w.heap.size]? = some (.cells #[.slice Au nu cu, .int .i64 m.writes, .bool m.armed, .bool m.dead, .int .i64 m.after, .int .i64 m.keep] 39 (0, 0)) := by rw [← hwa]; exact heap_alloc_new w _
    have x2 : wb.heap[wa.heap.size]? = some (.cells #[.int .i64 1, .string nm_, .string to_, .slice A nd cap, .int .i64 N, .int .i64 keep, .int .u8 mask] 43 (0, 0)) := by rw [← hwb]; exact heap_alloc_new wa _
    have x3 : wc.heap[wb.heap.size]? = some (.cells #[.slice none 0 0, .int .i64 0, .bool false, .bool false, .int .i64 0, .int .i64 0] 39 (0, 0)) := by rw [← hwc]; exact heap_alloc_new wb _
    exact ⟨hD.below b, Kd.R_below hR b, blk_below (blk_below x1 b2) b3, blk_below x2 b3, x3, below_then hb hl b, fun k hk => ⟨fun ho => by have := (hD.rows k ho).2; omega, hk.2, by omega⟩, by omega, by omega, by omega, by omega, blk_below hbm b, by have := blk_lt hbm; omega, by have := blk_lt hbm; omega, hno⟩⟩
  have y0 : wc.cell? ⟨wa.heap.size, 0, none⟩ = some (.int .i64 1) := (blk_cell HS.out.hy 0).trans rfl
  have y1 : wc.cell? ⟨wa.heap.size, 1, none⟩ = some (.string nm_) := (blk_cell HS.out.hy 1).trans rfl
  have y2 : wc.cell? ⟨wa.heap.size, 2, none⟩ = some (.string to_) := (blk_cell HS.out.hy 2).trans rfl
  have y3 : wc.cell? ⟨wa.heap.size, 3, none⟩ = some (.slice A nd cap) := (blk_cell HS.out.hy 3).trans rfl
  have y4 : wc.cell? ⟨wa.heap.size, 4, none⟩ = some (.int .i64 N) := (blk_cell HS.out.hy 4).trans rfl
  have y5 : wc.cell? ⟨wa.heap.size, 5, none⟩ = some (.int .i64 keep) := (blk_cell HS.out.hy 5).trans rfl
  have y6 : wc.cell? ⟨wa.heap.size, 6, none⟩ = some (.int .u8 mask) := (blk_cell HS.out.hy 6).trans rfl
  clear hno hbm hb hD hR hI hc h1 h2 hC hcap hby hdl hN hmask hnd hnu
  obtain ⟨nq, hparts⟩ := parts_f 1 nm_ to_ data N keep mask HDL.out
  obtain ⟨l1, hl1⟩ : ∃ l1, data.take nq = l1 := ⟨_, rfl⟩
  obtain ⟨l2, hl2⟩ : ∃ l2, data.drop nq = l2 := ⟨_, rfl⟩
  have HDA : Aside0 (l1 ++ l2 = data) := ⟨by rw [← hl1, ← hl2]; exact List.take_append_drop nq data⟩
  rw [hl1, hl2] at hparts
  obtain ⟨ea, he1⟩ : ∃ ea, l1.length = ea := ⟨_, rfl⟩
  obtain ⟨eb, he2⟩ : ∃ eb, l2.length = eb := ⟨_, rfl⟩
  have HE1 := Aside0.mk he1
  have HE2 := Aside0.mk he2
  have HL : Aside0 (ea + eb ≤ 140737488351232) := ⟨by have h := congrArg List.length HDA.out; rw [List.length_append, he1, he2] at h; have := HDL.out; omega⟩
  have HTP := fun W h => forebearlaw06_parts.calls 1 nm_ to_ A cap data N keep mask l1 l2 W h (by rw [HND.out]; exact HCAP.out) hparts
  rw [HND.out] at HTP
  have HTP := Aside0.mk HTP
  obtain ⟨Sd, hSd⟩ : ∃ Sd, strOfNums data = Sd := ⟨_, rfl⟩
  have HSD := Aside0.mk hSd
  have hSb : bytesOf Sd = data := by rw [← hSd]; exact bytesOf_str HBY.out
  obtain ⟨M2, hM2⟩ : ∃ M2, appendD (nm nm_) m nm_ data = M2 := ⟨_, rfl⟩
  have HM2 := Aside0.mk hM2
  have HNM : Aside0 (path_Name.f (nm_.size + to_.size + 3000000) nm_ = some (nm nm_)) := ⟨name_f HN1.out (nm_.size + to_.size + 3000000) (by omega)⟩
  have hf : forebearref06_Append.f (nm_.size + to_.size + 3000000) m.files m.writes m.armed m.dead m.after m.keep nm_ Sd = some (ret M2) := by rw [← hM2, ← hSb]; exact append_f HOK.out HI.out.rise HN1.out (by rw [← hSd, strOfNums_size]; have := HDL.out; omega) (nm_.size + to_.size + 3000000) (by omega) (by omega)
  have HT2 := Aside0.mk (fun (W : World) (hb : Below w0.heap.size w0 W) (hr : Kd.R k76 76 W w0.heap.size (fun k => some k = (Value.slice Au nu cu).ownBlock) (.slice Au nu cu) m.files) => forebearref06_Append.calls (nm_.size + to_.size + 3000000) (fun k => some k = (Value.slice Au nu cu).ownBlock) (.slice Au nu cu) m.files m.writes m.armed m.dead m.after m.keep nm_ Sd _ _ _ _ _ _ _ w0 W hb hr hf)
  have HIV : Aside0 (Inv (c + 1) M2.1) := ⟨by rw [← hM2]; exact HI.out.appendD nm_ data⟩
  clear hf hM2 hSb hSd hparts hl1 hl2 he1 he2
  go_enter Try.func15, Try.ntmps15
  go_upto_region 12 with (first | (go_at_call 33; refine (HTP.out wc (HC.out wc HS.out.bel)).mono ?_; rintro e w1 ⟨va, vb, rfl, hRa, hRb, hB⟩; obtain ⟨Aa, ca, hva0⟩ := Kd.R_slice hRa; have hva : va = .slice Aa ea ca := hva0.trans (by rw [HE1.out]); clear hva0; subst hva; obtain ⟨Ab, cb, hvb0⟩ := Kd.R_slice hRb; have hvb : vb = .slice Ab eb cb := hvb0.trans (by rw [HE2.out]); clear hvb0; subst hvb; have HS1 := Aside0.mk (HS.out.below hB); have HRa : Aside0 (Kd.R (Kd.int .u8) 5 w1 wc.heap.size (fun k => (w.heap.size ≤ k ∧ k < wc.heap.size) ∨ (wc.heap.size ≤ k ∧ k < w1.heap.size)) (.slice Aa ea ca) l1) := ⟨Kd.R_mono (Kd.R_bound hRa) (fun k hk => Or.inr ⟨hk.2.1, hk.2.2.1⟩)⟩; have HRb : Aside0 (Kd.R (Kd.int .u8) 5 w1 wc.heap.size (fun k => ((w.heap.size ≤ k ∧ k < wc.heap.size) ∨ (wc.heap.size ≤ k ∧ k < w1.heap.size)) ∧ some k ≠ (Value.slice Aa ea ca).ownBlock) (.slice Ab eb cb) l2) := ⟨Kd.R_mono (Kd.R_bound hRb) (fun k hk => ⟨Or.inr ⟨hk.2.1, hk.2.2.1⟩, hk.1⟩)⟩; obtain ⟨p1, hq1⟩ : ∃ p, w1.alloc (.cells #[.slice Aa ea ca, .slice Ab eb cb] 27) = p := ⟨_, rfl⟩; have hbp : Below w1.heap.size w1 p1 := (by rw [← hq1]; exact below_alloc (Below.refl _ _) _); have HP1 := Aside0.mk (HS1.out.stay hbp); have HRa1 := Aside0.mk (Kd.R_below HRa.out hbp); have HRb1 := Aside0.mk (Kd.R_below HRb.out hbp); have HV : Aside0 (PartsV p1 (.slice (some ⟨w1.heap.size, 0, none⟩) 2 2) data) := ⟨by rw [← HDA.out]; exact .two _ Aa Ab ca cb l1 l2 (by rw [HE1.out, HE2.out, ← hq1]; exact heap_alloc_new _ _) (Kd.R_reads' HRa1.out).2.2 (Kd.R_reads' HRb1.out).2.2⟩; have y0 : w1.cell? ⟨wa.heap.size, 0, none⟩ = some (.int .i64 1) := (blk_cell HS1.out.hy 0).trans rfl; have y1 : w1.cell? ⟨wa.heap.size, 1, none⟩ = some (.string nm_) := (blk_cell HS1.out.hy 1).trans rfl; clear hRa hRb hB hbp) | (go_at_call 9; refine (append_calls (nm_.size + to_.size + 3000000) p1 HP1.out.isD HV.out HBY.out (by have := HDL.out; omega) (by have := HN1.out; omega) HOK.out (nm nm_) HNM.out).mono ?_; rw [HM2.out]; rintro e w2 ⟨rfl, hA⟩; obtain ⟨O1, hS2, hr5⟩ := HP1.out.disk hA; have HS2 := Aside0.mk hS2; have HRa2 := Aside0.mk (hr5 _ _ _ _ HRa1.out); have HRb2 := Aside0.mk (hr5 _ _ _ _ HRb1.out); have x0 : w2.cell? ⟨w.heap.size, 0, none⟩ = some (.slice Au nu cu) := (blk_cell hS2.hx 0).trans rfl; have x1 : w2.cell? ⟨w.heap.size, 1, none⟩ = some (.int .i64 m.writes) := (blk_cell hS2.hx 1).trans rfl; have x2 : w2.cell? ⟨w.heap.size, 2, none⟩ = some (.bool m.armed) := (blk_cell hS2.hx 2).trans rfl; have x3 : w2.cell? ⟨w.heap.size, 3, none⟩ = some (.bool m.dead) := (blk_cell hS2.hx 3).trans rfl; have x4 : w2.cell? ⟨w.heap.size, 4, none⟩ = some (.int .i64 m.after) := (blk_cell hS2.hx 4).trans rfl; have x5 : w2.cell? ⟨w.heap.size, 5, none⟩ = some (.int .i64 m.keep) := (blk_cell hS2.hx 5).trans rfl; have y1 : w2.cell? ⟨wa.heap.size, 1, none⟩ = some (.string nm_) := (blk_cell hS2.hy 1).trans rfl; have y3 : w2.cell? ⟨wa.heap.size, 3, none⟩ = some (.slice A nd cap) := (blk_cell hS2.hy 3).trans rfl; have hcv : (convert 27 9 (.slice A nd cap)).run Try.prog w2 = .ok (.string Sd) w2 := (by have := Kd.C_string (c := cap) Try.underlying27 Try.underlying5 Try.underlying9 (HC.out w2 hS2.bel); rw [HSD.out] at this; exact this); clear hq1 hA hS2 hr5) | (go_at_call 35; refine (HT2.out w2 HS2.out.bel (R76_own HS2.out.row)).mono ?_; rintro e w5 ⟨v2, rfl, hR2, hB2, hK2⟩; obtain ⟨A2, c2, hv20⟩ := Kd.R_slice hR2; obtain ⟨n2, hn2⟩ : ∃ n2, (M2.1).files.length = n2 := ⟨_, rfl⟩; have hv2 : v2 = .slice A2 n2 c2 := hv20.trans (by rw [← hn2]); clear hn2 hv20; subst hv2; have HREF := Aside0.mk (HS2.out.ref (mx' := M2.1) hK2 hR2 hB2); have hbx := HREF.out.2.2; have x0 : w5.cell? ⟨w.heap.size, 0, none⟩ = some (.slice Au nu cu) := (blk_cell hbx 0).trans rfl; have x1 : w5.cell? ⟨w.heap.size, 1, none⟩ = some (.int .i64 m.writes) := (blk_cell hbx 1).trans rfl; have x2 : w5.cell? ⟨w.heap.size, 2, none⟩ = some (.bool m.armed) := (blk_cell hbx 2).trans rfl; have x3 : w5.cell? ⟨w.heap.size, 3, none⟩ = some (.bool m.dead) := (blk_cell hbx 3).trans rfl; have x4 : w5.cell? ⟨w.heap.size, 4, none⟩ = some (.int .i64 m.after) := (blk_cell hbx 4).trans rfl; have x5 : w5.cell? ⟨w.heap.size, 5, none⟩ = some (.int .i64 m.keep) := (blk_cell hbx 5).trans rfl; have xf0 : w5.frozen? ⟨w.heap.size, 0, none⟩ = false := blk_frozen hbx 0; have xf1 : w5.frozen? ⟨w.heap.size, 1, none⟩ = false := blk_frozen hbx 1; have xf2 : w5.frozen? ⟨w.heap.size, 2, none⟩ = false := blk_frozen hbx 2; have xf3 : w5.frozen? ⟨w.heap.size, 3, none⟩ = false := blk_frozen hbx 3; have xf4 : w5.frozen? ⟨w.heap.size, 4, none⟩ = false := blk_frozen hbx 4; have xf5 : w5.frozen? ⟨w.heap.size, 5, none⟩ = false := blk_frozen hbx 5; clear hR2 hB2 hK2 hbx; have HRa5 := HREF.out.2.1 _ _ _ _ HRa2.out; have HRb5 := HREF.out.2.1 _ _ _ _ HRb2.out))
  obtain ⟨w6, hw6⟩ : ∃ w6, ((((((w5.setCell ⟨w.heap.size, 0, none⟩ (.slice A2 n2 c2)).setCell ⟨w.heap.size, 1, none⟩ (.int .i64 M2.1.writes)).setCell ⟨w.heap.size, 2, none⟩ (.bool M2.1.armed)).setCell ⟨w.heap.size, 3, none⟩ (.bool M2.1.dead)).setCell ⟨w.heap.size, 4, none⟩ (.int .i64 M2.1.after)).setCell ⟨w.heap.size, 5, none⟩ (.int .i64 M2.1.keep)) = w6 := ⟨_, rfl⟩
  have HS6 := HREF.out.1
  rw [hw6] at HS6 HRa5 HRb5 ⊢
  have HS6 := Aside0.mk HS6
  have HRa6 := Aside0.mk HRa5
  have HRb6 := Aside0.mk HRb5
  clear hw6 HRa5 HRb5 x0 x1 x2 x3 x4 x5 xf0 xf1 xf2 xf3 xf4 xf5 y1 y3
  go_wp2
  go_loopw [13] (fun s13 wr => ∃ (k : Nat) (L : List Int), s13 = .int .i64 k ∧ Aside0 (k ≤ ea) ∧ Aside0 (L.length = ea) ∧ Aside0 (St w0 wr O1 (fun k => (w.heap.size ≤ k ∧ k < wc.heap.size) ∨ (wc.heap.size ≤ k ∧ k < w1.heap.size)) d mb w.heap.size wa.heap.size wb.heap.size M2.1 M2.1 (.slice A2 n2 c2) #[.int .i64 1, .string nm_, .string to_, .slice A nd cap, .int .i64 N, .int .i64 keep, .int .u8 mask] bm XB) ∧ Aside0 (Kd.R (Kd.int .u8) 5 wr wc.heap.size (fun k => (w.heap.size ≤ k ∧ k < wc.heap.size) ∨ (wc.heap.size ≤ k ∧ k < w1.heap.size)) (.slice Aa ea ca) L) ∧ Aside0 (Kd.R (Kd.int .u8) 5 wr wc.heap.size (fun k => ((w.heap.size ≤ k ∧ k < wc.heap.size) ∨ (wc.heap.size ≤ k ∧ k < w1.heap.size)) ∧ some k ≠ (Value.slice Aa ea ca).ownBlock) (.slice Ab eb cb) l2)) (fun s13 wr => ea - (intOf s13).toNat)
  case atStart => exact ⟨0, l1, rfl, ⟨by omega⟩, HE1, HS6, HRa6, HRb6⟩
  case round =>
    obtain ⟨k, L, rfl, HK, HLN, HS7, HRa7, HRb7⟩ := hrel
    by_cases hlt : k < ea
    · obtain ⟨g, hA, hbg, q0, q1, q2⟩ := R_scalar_at HRa7.out k (by rw [HLN.out]; exact hlt)
      subst hA
      have hkb : k + 1 ≤ 140737488351232 := (by have := HL.out; omega)
      obtain ⟨y, hy⟩ : ∃ y, L[k]'(by rw [HLN.out]; exact hlt) = y := ⟨_, rfl⟩
      rw [hy] at q0
      have HQ2 := Aside0.mk q2
      obtain ⟨cs, hcs⟩ := Kd.R_typed HRa7.out g rfl
      have HSP := Aside0.mk (fun y => HS7.out.put (HRa7.out.1 g rfl) hcs k y)
      have HRP := Aside0.mk (fun y => Kd.R_far (p := ⟨g, k, none⟩) HRb7.out (fun k' hk' e => hk'.2 (by rw [e]; rfl)) y)
      clear q2 hy hbg hcs
      go_wp2
      go_roundw
      case rel => exact ⟨k + 1, L.set k _, by go_num, ⟨by omega⟩, ⟨by rw [List.length_set]; exact HLN.out⟩, ⟨HSP.out _⟩, ⟨HQ2.out _⟩, ⟨HRP.out _⟩⟩
      case measure => simp [intOf]; omega
    · go_wp2
      clear HRa7 HRa6
      go_loopw [14] (fun s14 wr => ∃ (k : Nat) (L : List Int), s14 = .int .i64 k ∧ Aside0 (k ≤ eb) ∧ Aside0 (L.length = eb) ∧ Aside0 (St w0 wr O1 (fun k => (w.heap.size ≤ k ∧ k < wc.heap.size) ∨ (wc.heap.size ≤ k ∧ k < w1.heap.size)) d mb w.heap.size wa.heap.size wb.heap.size M2.1 M2.1 (.slice A2 n2 c2) #[.int .i64 1, .string nm_, .string to_, .slice A nd cap, .int .i64 N, .int .i64 keep, .int .u8 mask] bm XB) ∧ Aside0 (Kd.R (Kd.int .u8) 5 wr wc.heap.size (fun k => ((w.heap.size ≤ k ∧ k < wc.heap.size) ∨ (wc.heap.size ≤ k ∧ k < w1.heap.size)) ∧ some k ≠ (Value.slice Aa ea ca).ownBlock) (.slice Ab eb cb) L)) (fun s14 wr => eb - (intOf s14).toNat)
      case atStart => exact ⟨0, l2, rfl, ⟨by omega⟩, HE2, HS7, HRb7⟩
      case round =>
        obtain ⟨k2, L2, rfl, HK2, HLN2, HS8, HRb8⟩ := hrel
        by_cases hlt2 : k2 < eb
        · obtain ⟨g, hA, hbg, q0, q1, q2⟩ := R_scalar_at HRb8.out k2 (by rw [HLN2.out]; exact hlt2)
          subst hA
          have hkb : k2 + 1 ≤ 140737488351232 := (by have := HL.out; omega)
          obtain ⟨y, hy⟩ : ∃ y, L2[k2]'(by rw [HLN2.out]; exact hlt2) = y := ⟨_, rfl⟩
          rw [hy] at q0
          have HQ2 := Aside0.mk q2
          obtain ⟨cs, hcs⟩ := Kd.R_typed HRb8.out g rfl
          have HSP := Aside0.mk (fun y => HS8.out.put (HRb8.out.1 g rfl).1 hcs k2 y)
          clear q2 hy hbg hcs
          go_wp2
          go_roundw
          case rel => exact ⟨k2 + 1, L2.set k2 _, by go_num, ⟨by omega⟩, ⟨by rw [List.length_set]; exact HLN2.out⟩, ⟨HSP.out _⟩, ⟨HQ2.out _⟩⟩
          case measure => simp [intOf]; omega
        · go_upto_region 49 with (fail)
          have HS4 := Aside0.mk (HS8.out.below (below_drew (Below.refl _ _)))
          obtain ⟨w4, hw4⟩ : ∃ w4, wr.drew = w4 := ⟨_, rfl⟩
          rw [hw4] at HS4
          have NE1 := HS4.out.ne
          have NE2 := HS4.out.ne.symm
          have x0 : w4.cell? ⟨w.heap.size, 0, none⟩ = some (.slice A2 n2 c2) := (blk_cell HS4.out.hx 0).trans rfl
          have x1 : w4.cell? ⟨w.heap.size, 1, none⟩ = some (.int .i64 M2.1.writes) := (blk_cell HS4.out.hx 1).trans rfl
          have x2 : w4.cell? ⟨w.heap.size, 2, none⟩ = some (.bool M2.1.armed) := (blk_cell HS4.out.hx 2).trans rfl
          have x3 : w4.cell? ⟨w.heap.size, 3, none⟩ = some (.bool M2.1.dead) := (blk_cell HS4.out.hx 3).trans rfl
          have x4 : w4.cell? ⟨w.heap.size, 4, none⟩ = some (.int .i64 M2.1.after) := (blk_cell HS4.out.hx 4).trans rfl
          have x5 : w4.cell? ⟨w.heap.size, 5, none⟩ = some (.int .i64 M2.1.keep) := (blk_cell HS4.out.hx 5).trans rfl
          have z0 : w4.cell? ⟨wb.heap.size, 0, none⟩ = some (.slice none 0 0) := (blk_cell HS4.out.hz 0).trans rfl
          have z1 : w4.cell? ⟨wb.heap.size, 1, none⟩ = some (.int .i64 0) := (blk_cell HS4.out.hz 1).trans rfl
          have z2 : w4.cell? ⟨wb.heap.size, 2, none⟩ = some (.bool false) := (blk_cell HS4.out.hz 2).trans rfl
          have z3 : w4.cell? ⟨wb.heap.size, 3, none⟩ = some (.bool false) := (blk_cell HS4.out.hz 3).trans rfl
          have z4 : w4.cell? ⟨wb.heap.size, 4, none⟩ = some (.int .i64 0) := (blk_cell HS4.out.hz 4).trans rfl
          have z5 : w4.cell? ⟨wb.heap.size, 5, none⟩ = some (.int .i64 0) := (blk_cell HS4.out.hz 5).trans rfl
          have zf0 : w4.frozen? ⟨wb.heap.size, 0, none⟩ = false := blk_frozen HS4.out.hz 0
          have zf1 : w4.frozen? ⟨wb.heap.size, 1, none⟩ = false := blk_frozen HS4.out.hz 1
          have zf2 : w4.frozen? ⟨wb.heap.size, 2, none⟩ = false := blk_frozen HS4.out.hz 2
          have zf3 : w4.frozen? ⟨wb.heap.size, 3, none⟩ = false := blk_frozen HS4.out.hz 3
          have zf4 : w4.frozen? ⟨wb.heap.size, 4, none⟩ = false := blk_frozen HS4.out.hz 4
          have zf5 : w4.frozen? ⟨wb.heap.size, 5, none⟩ = false := blk_frozen HS4.out.hz 5
          have hee : (M2.2 == M2.2) = true := beq_self_eq_true _
          go_region
          go_wp2
          have HF := HS4.out.fin
          refine bodyPost_ret (results_list (rs := [.tmp 6, .cell 7 39, .tmp 8]) rfl (by simp) (.tmp (.cell wb.heap.size 39 #[.slice A2 n2 c2, .int .i64 M2.1.writes, .bool M2.1.armed, .bool M2.1.dead, .int .i64 M2.1.after, .int .i64 M2.1.keep] (0, 0) _ rfl HF.2.2.1 Try.underlying39 rfl (by kernel_rfl) (.tmp .nil)))) rfl ?_
          exact ⟨d, mb, M2.1, .slice A2 n2 c2, rfl, HF.1, HIV.out, HF.2.1, HF.2.2.2⟩
end Go.Proofs.Ytieodkghfceflaa.MD
namespace Go.Proofs.Ytieodkghfceflaa.MD
open Go.Proofs.Ytieodkghfceflaa.Opening Go.Proofs.Ytieodkghfceflaa.Pure
open Go.RowKit Go.Proofs.YtieodkghfceflaaW.PrintWords Go.Proofs.YtieodkghfceflaaW.PrintLast Go.Proofs.YtieodkghfceflaaW.PrintMore
structure S43 where
  f0 : Int
  f1 : ByteArray
  f2 : ByteArray
  f3 : List Int
  f4 : Int
  f5 : Int
  f6 : Int
def z43 : S43 := ⟨0, ⟨#[]⟩, ⟨#[]⟩, [], 0, 0, 0⟩
def k43 : Kd S43 := Kd.iso (Kd.pair (Kd.int .i64) (Kd.pair Kd.string (Kd.pair Kd.string (Kd.pair (Kd.slice 5 (Kd.int .u8)) (Kd.pair (Kd.int .i64) (Kd.pair (Kd.int .i64) (Kd.int .u8))))))) (fun x : S43 => (x.f0, x.f1, x.f2, x.f3, x.f4, x.f5, x.f6))
theorem k43_open {w : World} {x : S43} {cs : List Value} (h : k43.K w x cs) : ∃ A1 c1, cs = [.int .i64 x.f0, .string x.f1, .string x.f2, .slice A1 x.f3.length c1, .int .i64 x.f4, .int .i64 x.f5, .int .u8 x.f6] ∧ x.f3.length ≤ c1 ∧ (Kd.int .u8).C w A1 x.f3.length x.f3 := by
  obtain ⟨_, _, rfl, rfl, _, _, rfl, rfl, _, _, rfl, rfl, _, _, rfl, ⟨A1, c1, rfl, l1, g1⟩, _, _, rfl, rfl, _, _, rfl, rfl, rfl⟩ := h
  exact ⟨A1, c1, rfl, l1, g1⟩
def rd_T43 (xs : List S43) (i : Int) : S43 := xs.getD i.toNat z43
theorem at_T43 {w : World} {A : Option Addr} {n : Nat} {xs : List S43} (h : Kd.C k43 w A n xs) (i : Nat) (h1 : i < n) : ∃ ad A1 c1, A = some ad ∧ w.cell? (ad.add (i * 7)) = some (.int .i64 (rd_T43 xs i).f0) ∧ w.cell? ⟨(ad.add (i * 7)).block, (ad.add (i * 7)).off + 1, none⟩ = some (.string (rd_T43 xs i).f1) ∧ w.cell? ⟨(ad.add (i * 7)).block, (ad.add (i * 7)).off + 2, none⟩ = some (.string (rd_T43 xs i).f2) ∧ w.cell? ⟨(ad.add (i * 7)).block, (ad.add (i * 7)).off + 3, none⟩ = some (.slice A1 (rd_T43 xs i).f3.length c1) ∧ w.cell? ⟨(ad.add (i * 7)).block, (ad.add (i * 7)).off + 4, none⟩ = some (.int .i64 (rd_T43 xs i).f4) ∧ w.cell? ⟨(ad.add (i * 7)).block, (ad.add (i * 7)).off + 5, none⟩ = some (.int .i64 (rd_T43 xs i).f5) ∧ w.cell? ⟨(ad.add (i * 7)).block, (ad.add (i * 7)).off + 6, none⟩ = some (.int .u8 (rd_T43 xs i).f6) ∧ (rd_T43 xs i).f3.length ≤ c1 ∧ (Kd.int .u8).C w A1 (rd_T43 xs i).f3.length (rd_T43 xs i).f3 := by
  obtain ⟨ad, c, e, _, hK, hc0⟩ := Kd.C_get h z43 (i : Int) (by omega) (by omega)
  have hc : ∀ j u, c[j]? = some u → w.cell? (ad.add (i * 7 + j)) = some u := fun j u hj => by have h := hc0 j u hj; rw [show k43.sz = 7 from rfl, Int.toNat_natCast] at h; exact h
  obtain ⟨A1, c1, rfl, l1, g1⟩ := k43_open hK
  refine ⟨ad, A1, c1, e, hc 0 _ rfl, ?_, ?_, ?_, ?_, ?_, ?_, l1, g1⟩
  · rw [← add_field _ _ 1 (by omega)]; exact hc 1 _ rfl
  · rw [← add_field _ _ 2 (by omega)]; exact hc 2 _ rfl
  · rw [← add_field _ _ 3 (by omega)]; exact hc 3 _ rfl
  · rw [← add_field _ _ 4 (by omega)]; exact hc 4 _ rfl
  · rw [← add_field _ _ 5 (by omega)]; exact hc 5 _ rfl
  · rw [← add_field _ _ 6 (by omega)]; exact hc 6 _ rfl
def gB (l : List Int) : Prop := l.length * 1 ≤ 140737488351232 ∧ l.length ≤ 9223372036854775807 ∧ ∀ y ∈ l, (Lit.int .u8 y).wf = true
def gS43 (x : S43) : Prop := (Lit.int .i64 x.f0).wf = true ∧ x.f1.size ≤ 140737488351232 ∧ x.f2.size ≤ 140737488351232 ∧ gB x.f3 ∧ (Lit.int .i64 x.f4).wf = true ∧ (Lit.int .i64 x.f5).wf = true ∧ (Lit.int .u8 x.f6).wf = true
theorem oS43 : Opn Try.prog 43 k43 gS43 := opn_struct (fun x : S43 => (x.f0, x.f1, x.f2, x.f3, x.f4, x.f5, x.f6)) (fun p => ⟨p.1, p.2.1, p.2.2.1, p.2.2.2.1, p.2.2.2.2.1, p.2.2.2.2.2.1, p.2.2.2.2.2.2⟩) (fun _ => rfl) Try.underlying43 (by kernel_rfl)
  (opnF_cons rfl (by kernel_rfl) (opn_int Try.underlying3) (opnF_cons rfl (by kernel_rfl) (opn_string Try.underlying9) (opnF_cons rfl (by kernel_rfl) (opn_string Try.underlying9) (opnF_cons rfl (by kernel_rfl) (opn_slice (B := 1) Try.underlying27 (by kernel_rfl) (by kernel_rfl) (opn_int Try.underlying5)) (opnF_cons rfl (by kernel_rfl) (opn_int Try.underlying3) (opnF_cons rfl (by kernel_rfl) (opn_int Try.underlying3) (opnF_one rfl (by kernel_rfl) (opn_int Try.underlying5))))))))
theorem wf_u8 {y : Int} (h : (Lit.int .u8 y).wf = true) : 0 ≤ y ∧ y < 256 := by
  unfold Lit.wf at h
  rw [Bool.and_eq_true, decide_eq_true_eq, decide_eq_true_eq, show IntKind.u8.min = 0 by decide, show IntKind.u8.max = 255 by decide] at h
  omega
theorem wf_i64 {y : Int} (h : (Lit.int .i64 y).wf = true) : -9223372036854775808 ≤ y ∧ y ≤ 9223372036854775807 := by
  unfold Lit.wf at h
  rw [Bool.and_eq_true, decide_eq_true_eq, decide_eq_true_eq, show IntKind.i64.min = -9223372036854775808 by decide, show IntKind.i64.max = 9223372036854775807 by decide] at h
  omega
theorem play_calls (w0 w : World) {d mb c : Nat} {m : DS} {u : Value} {bm : Nat} {XB : Array Value} (hb : Below w0.heap.size w0 w) (hp : Pair w w0.heap.size d mb m u bm) (hI : Inv c m) (hc : c + 1 ≤ 1000) (x : S43) (hx : gS43 x) {A : Option Addr} {cap : Nat} (hC : ∀ W, Below w0.heap.size w0 W → Kd.C (Kd.int .u8) W A x.f3.length x.f3) (hcap : x.f3.length ≤ cap) (hbm : w.heap[bm]? = some (.cells XB 39 (0, 0))) :
    PlaySaid w0 w d c m u x.f0 x.f1 x.f2 A x.f3.length cap x.f4 x.f5 x.f6 bm XB := by
  obtain ⟨_, h1, h2, ⟨h3, _, h4⟩, h5, _, h6⟩ := hx
  have hby : Bytes x.f3 := fun y hy => wf_u8 (h4 y hy)
  have hN := (wf_i64 h5).2
  have hm := wf_u8 h6
  have hl : x.f3.length ≤ 140737488351232 := by omega
  by_cases c0 : x.f0 = 0
  · rw [c0]; exact play0_calls w0 w hb hp hI hc h1 h2 hC hcap hby hl _ _ _ hN hm hbm
  by_cases c1 : x.f0 = 1
  · rw [c1]; exact play1_calls w0 w hb hp hI hc h1 h2 hC hcap hby hl _ _ _ hN hm hbm
  by_cases c2 : x.f0 = 2
  · rw [c2]; exact play2_calls w0 w hb hp hI hc h1 h2 hC hcap hby hl _ _ _ hN hm hbm
  by_cases c3 : x.f0 = 3
  · rw [c3]; exact play3_calls w0 w hb hp hI hc h1 h2 hC hcap hby hl _ _ _ hN hm hbm
  by_cases c4 : x.f0 = 4
  · rw [c4]; exact play4_calls w0 w hb hp hI hc h1 h2 hC hcap hby hl _ _ _ hN hm hbm
  by_cases c5 : x.f0 = 5
  · rw [c5]; exact play5_calls w0 w hb hp hI hc h1 h2 hC hcap hby hl _ _ _ hN hm hbm
  by_cases c6 : x.f0 = 6
  · rw [c6]; exact play6_calls w0 w hb hp hI hc h1 h2 hC hcap hby hl _ _ _ hN hm hbm
  by_cases c7 : x.f0 = 7
  · rw [c7]; exact play7_calls w0 w hb hp hI hc h1 h2 hC hcap hby hl _ _ _ hN hm hbm
  by_cases c8 : x.f0 = 8
  · rw [c8]; exact play8_calls w0 w hb hp hI hc h1 h2 hC hcap hby hl _ _ _ hN hm hbm
  by_cases c9 : x.f0 = 9
  · rw [c9]; exact play9_calls w0 w hb hp hI hc h1 h2 hC hcap hby hl _ _ _ hN hm hbm
  exact playO_calls w0 w hb hp hI hc h1 h2 hC hcap hby hl _ _ _ hN hm hbm x.f0 (by simpa using c0) (by simpa using c1) (by simpa using c2) (by simpa using c3) (by simpa using c4) (by simpa using c5) (by simpa using c6) (by simpa using c7) (by simpa using c8) (by simpa using c9)
end Go.Proofs.Ytieodkghfceflaa.MD
namespace Go.Proofs.Ytieodkghfceflaa.MD
open Go.Proofs.Ytieodkghfceflaa.Opening Go.Proofs.Ytieodkghfceflaa.Pure
open Go.RowKit Go.Proofs.YtieodkghfceflaaW.PrintWords Go.Proofs.YtieodkghfceflaaW.PrintLast Go.Proofs.YtieodkghfceflaaW.PrintMore
theorem Pair.below {W W' : World} {B d mb g : Nat} {m : DS} {u : Value} (h : Pair W B d mb m u g) (hb : Below W.heap.size W W') : Pair W' B d mb m u g := by
  obtain ⟨O, h1, h2, h3⟩ := h
  exact ⟨O, h1.below hb, Kd.R_below h2 hb, h3⟩
/-- The law's own block of the document's list has been written. -/
theorem Pair.box {W : World} {B d mb g : Nat} {m : DS} {u : Value} (h : Pair W B d mb m u g) {cs : Array Value} (hg : W.heap[g]? = some (.cells cs 39 (0, 0))) (b0 b1 b2 b3 b4 b5 : Value) : Pair ((((((W.setCell ⟨g, 0, none⟩ (b0)).setCell ⟨g, 1, none⟩ (b1)).setCell ⟨g, 2, none⟩ (b2)).setCell ⟨g, 3, none⟩ (b3)).setCell ⟨g, 4, none⟩ (b4)).setCell ⟨g, 5, none⟩ (b5)) B d mb m u g := by
  obtain ⟨O, h1, h2, h3⟩ := h
  have K6 := kept6 W g b0 b1 b2 b3 b4 b5
  have hn := h1.not_dm hg (by decide)
  refine ⟨O, h1.kept K6 (fun e => hn (Or.inl e.symm)) (fun e => hn (Or.inr e.symm)) (fun k ho e => h3 (e ▸ ho)), ?_, h3⟩
  refine Kd.R_mono (Kd.R_kept (R76_typed h2) K6 ?_) (fun k hk => hk.1)
  rintro k ⟨_, _, _, cs', hc'⟩ e
  subst e
  rw [hg] at hc'
  injection hc' with e
  injection e with _ e
  exact absurd e (by decide)
set_option maxRecDepth 100000 in
set_option maxHeartbeats 16000000 in
theorem built_calls (w : World) (A : Option Addr) (c : Nat) (l : List S43) (hg : ∀ y ∈ l, gS43 y) (hr : Kd.C k43 w A l.length l) (hc : l.length ≤ c) :
    Calls Try.prog 17 #[.slice A l.length c] w fun e w' => ∃ d mb O m, e = .returned (.tuple #[.pointer (some ⟨d, 0, none⟩), .bool true]) ∧ IsD w' w.heap.size O d mb m ∧ Inv 200 m ∧ Below w.heap.size w w' := by
  have HG := Aside0.mk hg
  have HR := Aside0.mk hr
  have HC := Aside0.mk hc
  have HMX : Aside0 (l.length ≤ 9223372036854775807) := ⟨Kd.C_max hr⟩
  obtain ⟨nn, hnn⟩ : ∃ nn, l.length = nn := ⟨_, rfl⟩
  have HN := Aside0.mk hnn
  rw [hnn] at HR HMX ⊢
  clear hg hr hc hnn
  go_enter Try.func17, Try.ntmps17
  have HB1 : Aside0 (Below w.heap.size w w) := ⟨Below.refl _ _⟩
  go_upto_region 3 with (first | (go_at_call 8; refine (new_calls w (B := w.heap.size) HB1.out.size).mono ?_; rintro e w2 ⟨d, mb, rfl, hD, hb⟩; have HB2 := Aside0.mk (below_then HB1.out HB1.out.size hb); have HD2 := Aside0.mk hD; clear hb hD; obtain ⟨w3, hw3⟩ : ∃ w3, w2.alloc (.cells #[.slice none 0 0, .int .i64 0, .bool false, .bool false, .int .i64 0, .int .i64 0] 39) = w3 := ⟨_, rfl⟩; have hz : w3.heap[w2.heap.size]? = some (.cells #[.slice none 0 0, .int .i64 0, .bool false, .bool false, .int .i64 0, .int .i64 0] 39 (0, 0)) := (by rw [← hw3]; exact heap_alloc_new w2 _); have HZ := Aside0.mk hz; have HB23 : Aside0 (Below w2.heap.size w2 w3) := ⟨by rw [← hw3]; exact below_alloc (Below.refl _ _) _⟩; have z0 : w3.cell? ⟨w2.heap.size, 0, none⟩ = some (.slice none 0 0) := (blk_cell hz 0).trans rfl; have z1 : w3.cell? ⟨w2.heap.size, 1, none⟩ = some (.int .i64 0) := (blk_cell hz 1).trans rfl; have z2 : w3.cell? ⟨w2.heap.size, 2, none⟩ = some (.bool false) := (blk_cell hz 2).trans rfl; have z3 : w3.cell? ⟨w2.heap.size, 3, none⟩ = some (.bool false) := (blk_cell hz 3).trans rfl; have z4 : w3.cell? ⟨w2.heap.size, 4, none⟩ = some (.int .i64 0) := (blk_cell hz 4).trans rfl; have z5 : w3.cell? ⟨w2.heap.size, 5, none⟩ = some (.int .i64 0) := (blk_cell hz 5).trans rfl; have zf0 : w3.frozen? ⟨w2.heap.size, 0, none⟩ = false := blk_frozen hz 0; have zf1 : w3.frozen? ⟨w2.heap.size, 1, none⟩ = false := blk_frozen hz 1; have zf2 : w3.frozen? ⟨w2.heap.size, 2, none⟩ = false := blk_frozen hz 2; have zf3 : w3.frozen? ⟨w2.heap.size, 3, none⟩ = false := blk_frozen hz 3; have zf4 : w3.frozen? ⟨w2.heap.size, 4, none⟩ = false := blk_frozen hz 4; have zf5 : w3.frozen? ⟨w2.heap.size, 5, none⟩ = false := blk_frozen hz 5; clear hz))
  obtain ⟨bm, hbm⟩ : ∃ bm, w2.heap.size = bm := ⟨_, rfl⟩
  obtain ⟨w4, hw4⟩ : ∃ w4, ((((((w3.setCell ⟨w2.heap.size, 0, none⟩ (.slice none 0 0)).setCell ⟨w2.heap.size, 1, none⟩ (.int .i64 0)).setCell ⟨w2.heap.size, 2, none⟩ (.bool false)).setCell ⟨w2.heap.size, 3, none⟩ (.bool false)).setCell ⟨w2.heap.size, 4, none⟩ (.int .i64 0)).setCell ⟨w2.heap.size, 5, none⟩ (.int .i64 0)) = w4 := ⟨_, rfl⟩
  rw [hw4]
  have HB4 : Aside0 (Below w2.heap.size w2 w4) := ⟨by rw [← hw4]; exact below6 HB23.out (Nat.le_refl _) _ _ _ _ _ _⟩
  have HP4 : Aside0 (Pair w4 w.heap.size d mb newD (.slice none 0 0) bm) := ⟨⟨_, HD2.out.below HB4.out, Kd.R_nil _ _ _ _ _, fun h => h⟩⟩
  have HX4 : Aside0 (w4.heap[bm]? = some (.cells #[.slice none 0 0, .int .i64 newD.writes, .bool newD.armed, .bool newD.dead, .int .i64 newD.after, .int .i64 newD.keep] 39 (0, 0))) := ⟨by rw [← hw4, ← hbm]; exact blk6 HZ.out _ _ _ _ _ _⟩
  have HBM : Aside0 (w.heap.size ≤ bm) := ⟨by rw [← hbm]; exact HB2.out.size⟩
  have HBB4 := Aside0.mk (below_then HB2.out HB2.out.size HB4.out)
  rw [hbm]
  clear hw4 hw3 hbm z0 z1 z2 z3 z4 z5 zf0 zf1 zf2 zf3 zf4 zf5
  go_wp2
  go_loopw [4, 6] (fun s3 s5 wr => ∃ (i d mb : Nat) (m : DS) (u : Value), s3 = .pointer (some ⟨d, 0, none⟩) ∧ s5 = .int .i64 i ∧ Aside0 (i ≤ nn) ∧ Aside0 (i ≤ 200) ∧ Aside0 (Pair wr w.heap.size d mb m u bm) ∧ Aside0 (Inv i m) ∧ Aside0 (Below w.heap.size w wr) ∧ Aside0 (wr.heap[bm]? = some (.cells #[u, .int .i64 m.writes, .bool m.armed, .bool m.dead, .int .i64 m.after, .int .i64 m.keep] 39 (0, 0)))) (fun s3 s5 wr => nn - (intOf s5).toNat)
  case atStart => exact ⟨0, d, mb, newD, .slice none 0 0, rfl, rfl, ⟨by omega⟩, ⟨by omega⟩, HP4, ⟨Inv.new⟩, HBB4, HX4⟩
  case round =>
    obtain ⟨i, d, mb, m, u, rfl, rfl, HI1, HI2, HP, HIV, HB, HX⟩ := hrel
    obtain ⟨O, hD, hR, hno⟩ := HP.out
    obtain ⟨Au, cu, hu⟩ := Kd.R_slice hR
    obtain ⟨nu, hnu⟩ : ∃ nu, m.files.length = nu := ⟨_, rfl⟩
    rw [hnu] at hu
    subst hu
    have HNU := Aside0.mk hnu
    clear hnu hno hR hD
    by_cases hlt : i < nn
    · by_cases h200 : i < 200
      · have d200 : decide ((i : Int) < 200) = true := decide_eq_true (by omega)
        have hil : i < l.length := by rw [HN.out]; exact hlt
        obtain ⟨x, hx⟩ : ∃ x, rd_T43 l (i : Int) = x := ⟨_, rfl⟩
        have HGX : Aside0 (gS43 x) := ⟨HG.out x (by rw [← hx]; unfold rd_T43; simp [hil])⟩
        obtain ⟨w5, hw5⟩ : ∃ w5, wr.drew = w5 := ⟨_, rfl⟩
        have HB5 : Aside0 (Below wr.heap.size wr w5) := ⟨by rw [← hw5]; exact below_drew (Below.refl _ _)⟩
        have HBW5 := Aside0.mk (below_then HB.out HB.out.size HB5.out)
        obtain ⟨ad, Ax, cx, hA, e0, e1, e2, e3, e4, e5, e6, hcx, hCx⟩ := at_T43 HR.out i hlt
        rw [hx] at e0 e1 e2 e3 e4 e5 e6 hcx hCx
        subst hA
        obtain ⟨nx, hnx⟩ : ∃ nx, x.f3.length = nx := ⟨_, rfl⟩
        have HPL := play_calls w w5 HBW5.out (HP.out.below HB5.out) HIV.out (by omega) x HGX.out (fun W hb => Kd.C_below hCx hb) hcx (blk_below HX.out HB5.out)
        unfold PlaySaid at HPL
        rw [hnx] at e3 HPL
        have HPL := Aside0.mk HPL
        have E0 := Aside0.mk e0
        have E1 := Aside0.mk e1
        have E2 := Aside0.mk e2
        have E3 := Aside0.mk e3
        have E4 := Aside0.mk e4
        have E5 := Aside0.mk e5
        have E6 := Aside0.mk e6
        have c0 := pw_cell_below HBW5.out e0
        have c1 := pw_cell_below HBW5.out e1
        have c2 := pw_cell_below HBW5.out e2
        have c3 := pw_cell_below HBW5.out e3
        have c4 := pw_cell_below HBW5.out e4
        have c5 := pw_cell_below HBW5.out e5
        have c6 := pw_cell_below HBW5.out e6
        have HX5 := Aside0.mk (blk_below HX.out HB5.out)
        have x0 : w5.cell? ⟨bm, 0, none⟩ = some (.slice Au nu cu) := (blk_cell HX5.out 0).trans rfl
        have x1 : w5.cell? ⟨bm, 1, none⟩ = some (.int .i64 m.writes) := (blk_cell HX5.out 1).trans rfl
        have x2 : w5.cell? ⟨bm, 2, none⟩ = some (.bool m.armed) := (blk_cell HX5.out 2).trans rfl
        have x3 : w5.cell? ⟨bm, 3, none⟩ = some (.bool m.dead) := (blk_cell HX5.out 3).trans rfl
        have x4 : w5.cell? ⟨bm, 4, none⟩ = some (.int .i64 m.after) := (blk_cell HX5.out 4).trans rfl
        have x5 : w5.cell? ⟨bm, 5, none⟩ = some (.int .i64 m.keep) := (blk_cell HX5.out 5).trans rfl
        have h200b : i + 1 ≤ 200 := by omega
        clear e0 e1 e2 e3 e4 e5 e6 hcx hCx hnx hil hx h200
        go_upto_region 7 with (fail)
        have hw5s := hw5.symm
        subst hw5s
        refine start_ (n := 14) (S := (fun w' => w'.cell? ⟨bm, 0, none⟩ = some (.slice Au nu cu) ∧ w'.cell? ⟨bm, 1, none⟩ = some (.int .i64 m.writes) ∧ w'.cell? ⟨bm, 2, none⟩ = some (.bool m.armed) ∧ w'.cell? ⟨bm, 3, none⟩ = some (.bool m.dead) ∧ w'.cell? ⟨bm, 4, none⟩ = some (.int .i64 m.after) ∧ w'.cell? ⟨bm, 5, none⟩ = some (.int .i64 m.keep) ∧ w'.cell? (ad.add (i * 7)) = some (.int .i64 x.f0) ∧ w'.cell? ⟨(ad.add (i * 7)).block, (ad.add (i * 7)).off + 1, none⟩ = some (.string x.f1) ∧ w'.cell? ⟨(ad.add (i * 7)).block, (ad.add (i * 7)).off + 2, none⟩ = some (.string x.f2) ∧ w'.cell? ⟨(ad.add (i * 7)).block, (ad.add (i * 7)).off + 3, none⟩ = some (.slice Ax nx cx) ∧ w'.cell? ⟨(ad.add (i * 7)).block, (ad.add (i * 7)).off + 4, none⟩ = some (.int .i64 x.f4) ∧ w'.cell? ⟨(ad.add (i * 7)).block, (ad.add (i * 7)).off + 5, none⟩ = some (.int .i64 x.f5) ∧ w'.cell? ⟨(ad.add (i * 7)).block, (ad.add (i * 7)).off + 6, none⟩ = some (.int .u8 x.f6))) (ds := [12]) #[false, false, false, false, false, false, false, false, false, false, false, false, false, false] (by kernel_rfl) rfl rfl ⟨x0, x1, x2, x3, x4, x5, c0, c1, c2, c3, c4, c5, c6⟩ (fun hHeld => ?_)
        refine pure_ (i := 0) (N := (some 21)) (v := ?_) (a' := ?_) #[true, false, false, false, false, false, false, false, false, false, false, false, false, false] rfl rfl (by kernel_rfl) (fun _ _ _ h => h) (Or.inl ⟨by rfl, ?_⟩) ?_ ?_
        rotate_left
        · intro w'
          go_simp
          first | done | (with_reducible rfl)
        rotate_left
        · simp only [Act.put, List.setIfInBounds_toArray, List.set_cons_zero, List.set_cons_succ, i64_w, i32_w]
          rfl
        refine take_ (i := 1) (N := (some 22)) (v := ?_) (a' := ?_) #[true, true, false, false, false, false, false, false, false, false, false, false, false, false] rfl rfl (by kernel_rfl) (fun _ _ _ h => h) (Or.inl ⟨by rfl, ?_⟩) hHeld ?_ ?_
        rotate_left
        · intro w' s0
          obtain ⟨s1, s2, s3, s4, s5, s6, s7, s8, s9, s10, s11, s12, s13⟩ := s0
          go_simp
          first | done | (with_reducible rfl)
        rotate_left
        · simp only [Act.put, List.setIfInBounds_toArray, List.set_cons_zero, List.set_cons_succ, i64_w, i32_w]
          rfl
        refine pure_ (i := 2) (N := (some 23)) (v := ?_) (a' := ?_) #[true, true, true, false, false, false, false, false, false, false, false, false, false, false] rfl rfl (by kernel_rfl) (fun _ _ _ h => h) (Or.inl ⟨by rfl, ?_⟩) ?_ ?_
        rotate_left
        · intro w'
          go_simp
          first | done | (with_reducible rfl)
        rotate_left
        · simp only [Act.put, List.setIfInBounds_toArray, List.set_cons_zero, List.set_cons_succ, i64_w, i32_w]
          rfl
        refine pure_ (i := 3) (N := (some 24)) (v := ?_) (a' := ?_) #[true, true, true, true, false, false, false, false, false, false, false, false, false, false] rfl rfl (by kernel_rfl) (fun _ _ _ h => h) (Or.inl ⟨by rfl, ?_⟩) ?_ ?_
        rotate_left
        · intro w'
          go_simp
          first | done | (with_reducible rfl)
        rotate_left
        · simp only [Act.put, List.setIfInBounds_toArray, List.set_cons_zero, List.set_cons_succ, i64_w, i32_w]
          rfl
        refine pure_ (i := 4) (N := (some 25)) (v := ?_) (a' := ?_) #[true, true, true, true, true, false, false, false, false, false, false, false, false, false] rfl rfl (by kernel_rfl) (fun _ _ _ h => h) (Or.inl ⟨by rfl, ?_⟩) ?_ ?_
        rotate_left
        · intro w'
          go_simp
          first | done | (with_reducible rfl)
        rotate_left
        · simp only [Act.put, List.setIfInBounds_toArray, List.set_cons_zero, List.set_cons_succ, i64_w, i32_w]
          rfl
        refine take_ (i := 5) (N := (some 26)) (v := ?_) (a' := ?_) #[true, true, true, true, true, true, false, false, false, false, false, false, false, false] rfl rfl (by kernel_rfl) (fun _ _ _ h => h) (Or.inl ⟨by rfl, ?_⟩) hHeld ?_ ?_
        rotate_left
        · intro w' s0
          obtain ⟨s1, s2, s3, s4, s5, s6, s7, s8, s9, s10, s11, s12, s13⟩ := s0
          go_simp
          first | done | (with_reducible rfl)
        rotate_left
        · simp only [Act.put, List.setIfInBounds_toArray, List.set_cons_zero, List.set_cons_succ, i64_w, i32_w]
          rfl
        refine one_ (i := 6) (N := (some 27)) #[true, true, true, true, true, true, true, false, false, false, false, false, false, false] rfl rfl (by kernel_rfl) (by decide) (fun K hK => ?_)
        refine goes_ Try.func15 (by kernel_rfl) rfl #[.pointer (some ⟨d, 0, none⟩), .agg #[.slice Au nu cu, .int .i64 m.writes, .bool m.armed, .bool m.dead, .int .i64 m.after, .int .i64 m.keep], .agg #[.int .i64 x.f0, .string x.f1, .string x.f2, .slice Ax nx cx, .int .i64 x.f4, .int .i64 x.f5, .int .u8 x.f6]] (by rfl) rfl rfl (by (try simp only [List.map_toArray, List.map_cons, List.map_nil]); first | done | rfl) ?_
        refine (HPL.out).mono ?_
        rintro e w6 ⟨d', mb', m', u', rfl, hP6, hI6, hB6, hbm6⟩
        obtain ⟨O6, hD6, hR6, hno6⟩ := hP6
        obtain ⟨Av, cv, hv0⟩ := Kd.R_slice hR6
        obtain ⟨nv, hnv⟩ : ∃ nv, m'.files.length = nv := ⟨_, rfl⟩
        have hv : u' = .slice Av nv cv := hv0.trans (by rw [hnv])
        clear hv0
        subst hv
        have HNV := Aside0.mk hnv
        have HP6 : Aside0 (Pair w6 w.heap.size d' mb' m' (.slice Av nv cv) bm) := ⟨⟨O6, hD6, hR6, hno6⟩⟩
        have HI6 := Aside0.mk hI6
        have HB6 := Aside0.mk hB6
        have HX6 := Aside0.mk hbm6
        have x0 : w6.cell? ⟨bm, 0, none⟩ = some (.slice Au nu cu) := (blk_cell HX6.out 0).trans rfl
        have x1 : w6.cell? ⟨bm, 1, none⟩ = some (.int .i64 m.writes) := (blk_cell HX6.out 1).trans rfl
        have x2 : w6.cell? ⟨bm, 2, none⟩ = some (.bool m.armed) := (blk_cell HX6.out 2).trans rfl
        have x3 : w6.cell? ⟨bm, 3, none⟩ = some (.bool m.dead) := (blk_cell HX6.out 3).trans rfl
        have x4 : w6.cell? ⟨bm, 4, none⟩ = some (.int .i64 m.after) := (blk_cell HX6.out 4).trans rfl
        have x5 : w6.cell? ⟨bm, 5, none⟩ = some (.int .i64 m.keep) := (blk_cell HX6.out 5).trans rfl
        have xf0 : w6.frozen? ⟨bm, 0, none⟩ = false := blk_frozen HX6.out 0
        have xf1 : w6.frozen? ⟨bm, 1, none⟩ = false := blk_frozen HX6.out 1
        have xf2 : w6.frozen? ⟨bm, 2, none⟩ = false := blk_frozen HX6.out 2
        have xf3 : w6.frozen? ⟨bm, 3, none⟩ = false := blk_frozen HX6.out 3
        have xf4 : w6.frozen? ⟨bm, 4, none⟩ = false := blk_frozen HX6.out 4
        have xf5 : w6.frozen? ⟨bm, 5, none⟩ = false := blk_frozen HX6.out 5
        have c0 := pw_cell_below hB6 E0.out
        have c1 := pw_cell_below hB6 E1.out
        have c2 := pw_cell_below hB6 E2.out
        have c3 := pw_cell_below hB6 E3.out
        have c4 := pw_cell_below hB6 E4.out
        have c5 := pw_cell_below hB6 E5.out
        have c6 := pw_cell_below hB6 E6.out
        clear hI6 hB6 hbm6 hnv hD6 hR6 hno6
        refine ⟨_, rfl, ?_⟩
        refine hK.out _ _ ⟨x0, x1, x2, x3, x4, x5, c0, c1, c2, c3, c4, c5, c6⟩ (fun hHeld => ?_)
        clear hK K
        refine norm_ (a' := ?_) ?_ ?_
        rotate_left
        · show Act.put _ (some 27) _ = _
          simp only [Act.put, List.setIfInBounds_toArray, List.set_cons_zero, List.set_cons_succ, i64_w, i32_w]
          rfl
        refine pure_ (i := 7) (N := (some 20)) (v := ?_) (a' := ?_) #[true, true, true, true, true, true, true, true, false, false, false, false, false, false] rfl rfl (by kernel_rfl) (fun _ _ _ h => h) (Or.inl ⟨by rfl, ?_⟩) ?_ ?_
        rotate_left
        · intro w'
          go_simp
          first | done | (with_reducible rfl)
        rotate_left
        · simp only [Act.put, List.setIfInBounds_toArray, List.set_cons_zero, List.set_cons_succ, i64_w, i32_w]
          rfl
        refine pure_ (i := 8) (N := (some 28)) (v := ?_) (a' := ?_) #[true, true, true, true, true, true, true, true, true, false, false, false, false, false] rfl rfl (by kernel_rfl) (fun _ _ _ h => h) (Or.inl ⟨by rfl, ?_⟩) ?_ ?_
        rotate_left
        · intro w'
          go_simp
          first | done | (with_reducible rfl)
        rotate_left
        · simp only [Act.put, List.setIfInBounds_toArray, List.set_cons_zero, List.set_cons_succ, i64_w, i32_w]
          rfl
        refine pure_ (i := 9) (N := (some 29)) (v := ?_) (a' := ?_) #[true, true, true, true, true, true, true, true, true, true, false, false, false, false] rfl rfl (by kernel_rfl) (fun _ _ _ h => h) (Or.inl ⟨by rfl, ?_⟩) ?_ ?_
        rotate_left
        · intro w'
          go_simp
          first | done | (with_reducible rfl)
        rotate_left
        · simp only [Act.put, List.setIfInBounds_toArray, List.set_cons_zero, List.set_cons_succ, i64_w, i32_w]
          rfl
        refine pure_ (i := 10) (N := (some 30)) (v := ?_) (a' := ?_) #[true, true, true, true, true, true, true, true, true, true, true, false, false, false] rfl rfl (by kernel_rfl) (fun _ _ _ h => h) (Or.inl ⟨by rfl, ?_⟩) ?_ ?_
        rotate_left
        · intro w'
          go_simp
          first | done | (with_reducible rfl)
        rotate_left
        · simp only [Act.put, List.setIfInBounds_toArray, List.set_cons_zero, List.set_cons_succ, i64_w, i32_w]
          rfl
        refine pure_ (i := 11) (N := (some 4)) (v := ?_) (a' := ?_) #[true, true, true, true, true, true, true, true, true, true, true, true, false, false] rfl rfl (by kernel_rfl) (fun _ _ _ h => h) (Or.inl ⟨by rfl, ?_⟩) ?_ ?_
        rotate_left
        · intro w'
          go_simp
          first | done | (with_reducible rfl)
        rotate_left
        · simp only [Act.put, List.setIfInBounds_toArray, List.set_cons_zero, List.set_cons_succ, i64_w, i32_w]
          rfl
        refine last_ (i := 12) (N := none) #[true, true, true, true, true, true, true, true, true, true, true, true, true, false] rfl rfl (by kernel_rfl) (by decide) (fun K hK => ?_)
        refine skip_ (w1 := ((((((w6.setCell ⟨bm, 0, none⟩ (.slice Av nv cv)).setCell ⟨bm, 1, none⟩ (.int .i64 m'.writes)).setCell ⟨bm, 2, none⟩ (.bool m'.armed)).setCell ⟨bm, 3, none⟩ (.bool m'.dead)).setCell ⟨bm, 4, none⟩ (.int .i64 m'.after)).setCell ⟨bm, 5, none⟩ (.int .i64 m'.keep))) (by rfl) rfl ?_ ?_
        · go_simp
        refine hK.out _ _ ?_
        clear hK K
        refine pure_ (i := 13) (N := (some 7)) (v := ?_) (a' := ?_) #[true, true, true, true, true, true, true, true, true, true, true, true, true, true] rfl rfl (by kernel_rfl) (fun _ _ _ h => h) (Or.inl ⟨by rfl, ?_⟩) ?_ ?_
        rotate_left
        · intro w'
          go_simp
          first | done | (with_reducible rfl)
        rotate_left
        · simp only [Act.put, List.setIfInBounds_toArray, List.set_cons_zero, List.set_cons_succ, i64_w, i32_w]
          rfl
        refine done_ (by kernel_rfl) ?_
        all_goals
          obtain ⟨w7, hw7⟩ : ∃ w7, ((((((w6.setCell ⟨bm, 0, none⟩ (.slice Av nv cv)).setCell ⟨bm, 1, none⟩ (.int .i64 m'.writes)).setCell ⟨bm, 2, none⟩ (.bool m'.armed)).setCell ⟨bm, 3, none⟩ (.bool m'.dead)).setCell ⟨bm, 4, none⟩ (.int .i64 m'.after)).setCell ⟨bm, 5, none⟩ (.int .i64 m'.keep)) = w7 := ⟨_, rfl⟩
          rw [hw7]
          have HP7 := HP6.out.box HX6.out (.slice Av nv cv) (.int .i64 m'.writes) (.bool m'.armed) (.bool m'.dead) (.int .i64 m'.after) (.int .i64 m'.keep)
          have HX7 := blk6 HX6.out (.slice Av nv cv) (.int .i64 m'.writes) (.bool m'.armed) (.bool m'.dead) (.int .i64 m'.after) (.int .i64 m'.keep)
          have HB7 := below6 HB6.out HBM.out (.slice Av nv cv) (.int .i64 m'.writes) (.bool m'.armed) (.bool m'.dead) (.int .i64 m'.after) (.int .i64 m'.keep)
          rw [hw7] at HP7 HX7 HB7
          have HP7 := Aside0.mk HP7
          have HX7 := Aside0.mk HX7
          have HB7 := Aside0.mk HB7
          clear hw7 x0 x1 x2 x3 x4 x5 xf0 xf1 xf2 xf3 xf4 xf5 c0 c1 c2 c3 c4 c5 c6
          go_wp2
          go_roundw
          case rel => exact ⟨i + 1, d', mb', m', .slice Av nv cv, rfl, by go_num, ⟨by omega⟩, ⟨by omega⟩, HP7, HI6, HB7, HX7⟩
          case measure => simp [intOf]; omega
      · have d200 : decide ((i : Int) < 200) = false := decide_eq_false (by omega)
        go_wp2
        go_ret2
        obtain ⟨O, h1, _⟩ := HP.out
        exact ⟨d, mb, O, m, rfl, h1, HIV.out.le HI2.out, HB.out⟩
    · go_wp2
      go_ret2
      obtain ⟨O, h1, _⟩ := HP.out
      exact ⟨d, mb, O, m, rfl, h1, HIV.out.le HI2.out, HB.out⟩
end Go.Proofs.Ytieodkghfceflaa.MD

/- Laid by this claim's own program (myprint) out of the translation: functions that the laws of the group A reach, each as a plain function, with the proof that the Go code comes to it. No condition. -/
import Derived.Test.YtgmlhcjcaebfgaaMAx0
namespace Go.Proofs.Ytgmlhcjcaebfgaa.MA
open Go.Proofs.Ytgmlhcjcaebfgaa.Opening
open Go.RowKit Go.Proofs.YtgmlhcjcaebfgaaW.PrintWords Go.Proofs.YtgmlhcjcaebfgaaW.PrintLast Go.Proofs.YtgmlhcjcaebfgaaW.PrintMore
attribute [local go_sem] max2_int min2_int max_two min_two max_three min_three max_four min_four   -- for this text's walks alone
set_option linter.unusedVariables false
set_option linter.unusedSimpArgs false

/-! ### sum_ID: function 27 -/
mutual
def sum_ID.l0 : Nat → Int → List (List Int) → Int → Int → Option (Int)
 | 0, _, _, _, _ => none
 | k + 1, x5, x15, x16, x17 => if x17 < x16 then (if 0 ≤ x17 then (if x17 < (x15.length : Int) then (sum_ID.l1 k x5 x15 x16 x17 (rd_L1 x15 x17) ((rd_L1 x15 x17).length : Int) 0) else (none)) else (none)) else (some x5)
def sum_ID.l1 : Nat → Int → List (List Int) → Int → Int → List Int → Int → Int → Option (Int)
 | 0, _, _, _, _, _, _, _ => none
 | k + 1, x5, x15, x16, x17, x21, x22, x23 => if x23 < x22 then (if 0 ≤ x23 then (if x23 < (x21.length : Int) then (sum_ID.l1 k (IntKind.u64.wrap ((Go.bits .xor .u64 x5 (IntKind.u64.wrap (rd x21 x23))) * 1099511628211)) x15 x16 x17 x21 x22 (wrap64 (x23 + 1))) else (none)) else (none)) else (sum_ID.l0 k x5 x15 x16 (wrap64 (x17 + 1)))
end
def sum_ID.f (k : Nat) (a0 : Int) (l1 : List (List Int)) : Option (Int) := sum_ID.l0 k (IntKind.u64.wrap ((Go.bits .xor .u64 14695981039346656037 ((a0) % 256)) * 1099511628211)) l1 (l1.length : Int) 0
theorem sum_ID.mono_l : ∀ k, (∀ y0 y1 y2 y3, LeO (sum_ID.l0 k y0 y1 y2 y3) (sum_ID.l0 (k + 1) y0 y1 y2 y3)) ∧ (∀ y0 y1 y2 y3 y4 y5 y6, LeO (sum_ID.l1 k y0 y1 y2 y3 y4 y5 y6) (sum_ID.l1 (k + 1) y0 y1 y2 y3 y4 y5 y6))
 | 0 => ⟨fun _ _ _ _ r h => by simp [sum_ID.l0] at h, fun _ _ _ _ _ _ _ r h => by simp [sum_ID.l1] at h⟩
 | k + 1 => by
  obtain ⟨ih0, ih1⟩ := sum_ID.mono_l k
  refine ⟨?_, ?_⟩
  ·intro y0 y1 y2 y3
   unfold sum_ID.l0
   repeat' first
   | (with_reducible exact ih0 _ _ _ _)
   | (with_reducible exact ih1 _ _ _ _ _ _ _)
   | (with_reducible exact LeO.refl _)
   | (with_reducible exact LeO.none _)
   | (with_reducible refine LeO.ite ?_ ?_)
   | (with_reducible refine LeO.bind ?_ (fun _ => ?_))
   | exact ih0 _ _ _ _
   | exact ih1 _ _ _ _ _ _ _
   | exact LeO.none _
   | refine LeO.ite ?_ ?_
   | refine LeO.bind ?_ (fun _ => ?_)
  ·intro y0 y1 y2 y3 y4 y5 y6
   unfold sum_ID.l1
   repeat' first
   | (with_reducible exact ih0 _ _ _ _)
   | (with_reducible exact ih1 _ _ _ _ _ _ _)
   | (with_reducible exact LeO.refl _)
   | (with_reducible exact LeO.none _)
   | (with_reducible refine LeO.ite ?_ ?_)
   | (with_reducible refine LeO.bind ?_ (fun _ => ?_))
   | exact ih0 _ _ _ _
   | exact ih1 _ _ _ _ _ _ _
   | exact LeO.none _
   | refine LeO.ite ?_ ?_
   | refine LeO.bind ?_ (fun _ => ?_)
theorem sum_ID.mono : ∀ a0 a1 k, LeO (sum_ID.f k a0 a1) (sum_ID.f (k + 1) a0 a1) := by
 intro a0 a1 k
 obtain ⟨ih0, ih1⟩ := sum_ID.mono_l k
 unfold sum_ID.f
 repeat' first
   | (with_reducible exact ih0 _ _ _ _)
   | (with_reducible exact ih1 _ _ _ _ _ _ _)
   | (with_reducible exact LeO.refl _)
   | (with_reducible exact LeO.none _)
   | (with_reducible refine LeO.ite ?_ ?_)
   | (with_reducible refine LeO.bind ?_ (fun _ => ?_))
   | exact ih0 _ _ _ _
   | exact ih1 _ _ _ _ _ _ _
   | exact LeO.none _
   | refine LeO.ite ?_ ?_
   | refine LeO.bind ?_ (fun _ => ?_)
set_option maxHeartbeats 8000000 in
set_option maxRecDepth 100000 in
theorem sum_ID.calls (k : Nat) (a0 : Int) (A1 : Option Addr) (c1 : Nat) (l1 : List (List Int)) (r : Int) (w : World) (hr1 : Kd.C (Kd.slice 5 (Kd.int .u8)) w A1 l1.length l1) (hc1 : l1.length ≤ c1) (h : sum_ID.f k a0 l1 = some r) :
  Calls Try.prog 27 #[.int .i64 a0, .slice A1 l1.length c1] w fun e w' => e = .returned (.int .u64 r) ∧ Drawn0 w w' := by
 have HR1 := Aside0.mk hr1
 have HC1 := Aside0.mk hc1
 clear hr1 hc1
 have H : (sum_ID.l0 k (IntKind.u64.wrap ((Go.bits .xor .u64 14695981039346656037 ((a0) % 256)) * 1099511628211)) l1 (l1.length : Int) 0) = some r := h
 clear h
 have H' := Aside0.mk H
 clear H
 go_enter Try.func27, Try.ntmps27
 go_wp2
 go_loopg [5, 17] k (fun kq v5 v17 w' => ∃ (x5_1 : Int) (x17_1 : Int), v5 = .int .u64 x5_1 ∧ v17 = .int .i64 x17_1 ∧ Aside0 (sum_ID.l0 kq x5_1 l1 (l1.length : Int) x17_1 = some r) ∧ Aside0 (kq ≤ k) ∧ Drawn0 w w')
 case atStart => exact ⟨(IntKind.u64.wrap ((Go.bits .xor .u64 14695981039346656037 ((a0) % 256)) * 1099511628211)), (0), (by first | rfl | (simp; done) | (simp [*]; done)), (by first | rfl | (simp; done) | (simp [*]; done)), H', ⟨Nat.le_refl _⟩, by repeat (first | exact Drawn0.refl _ | apply Drawn0.step)⟩
 case round =>
  clear H'
  try clear c1
  try clear c2
  try clear p2
  obtain ⟨x5_1, x17_1, rfl, rfl, HA, HK1, ⟨m1, rfl⟩⟩ := hrel
  cases gk with
  | zero => exact absurd HA.out (by simp [sum_ID.l0])
  | succ k1 =>
   have H := HA.out
   clear HA
   simp only [sum_ID.l0] at H
   by_cases c3 : x17_1 < (l1.length : Int)
   ·rw [if_pos c3] at H
    have c3b0 : decide (x17_1 < (l1.length : Int)) = true := decide_eq_true c3
    clear c3
    by_cases c4 : 0 ≤ x17_1
    ·rw [if_pos c4] at H
     have c4b0 : decide (0 ≤ x17_1) = true := decide_eq_true c4
     clear c4
     by_cases c5 : x17_1 < (l1.length : Int)
     ·rw [if_pos c5] at H
      have c5b0 : decide (x17_1 < (l1.length : Int)) = true := decide_eq_true c5
      clear c5
      have H' := Aside0.mk H
      clear H
      have p101 : 0 ≤ (x17_1 : Int) := of_decide_eq_true (by first | (with_reducible assumption) | assumption)
      have q101 : x17_1 < (l1.length : Int) := of_decide_eq_true (by first | (with_reducible assumption) | assumption)
      obtain ⟨ad101, A101_0, c101_0, e101, hx101_0, hl101_0, hi101_0⟩ := at_L1 HR1.out x17_1 p101 q101
      cases e101
      have HR101_0 := Aside0.mk hi101_0
      have HC101_0 := Aside0.mk hl101_0
      clear hi101_0 hl101_0
      replace p101 := eq_true p101
      replace q101 := eq_true q101
      go_wp2
      go_loopg [5, 23] k1 (fun kq v5 v23 w' => ∃ (x5_2 : Int) (x23_2 : Int), v5 = .int .u64 x5_2 ∧ v23 = .int .i64 x23_2 ∧ Aside0 (sum_ID.l1 kq x5_2 l1 (l1.length : Int) x17_1 (rd_L1 l1 x17_1) ((rd_L1 l1 x17_1).length : Int) x23_2 = some r) ∧ Aside0 (kq ≤ k1) ∧ Drawn0 w w')
      case atStart => exact ⟨(x5_1), (0), (by first | rfl | (simp; done) | (simp [*]; done)), (by first | rfl | (simp; done) | (simp [*]; done)), H', ⟨Nat.le_refl _⟩, by repeat (first | exact Drawn0.refl _ | apply Drawn0.step)⟩
      case round =>
       clear H'
       try clear c1
       try clear p1
       try clear q1
       try clear hx1
       try clear c2
       try clear p2
       try clear c3
       try clear c3b0
       try clear c4
       try clear c4b0
       try clear c5
       try clear c5b0
       try clear hx101_0
       try clear p101
       try clear p2
       try clear q101
       obtain ⟨x5_2, x23_2, rfl, rfl, HA, HK2, ⟨m2, rfl⟩⟩ := hrel
       cases gk with
       | zero => exact absurd HA.out (by simp [sum_ID.l1])
       | succ k2 =>
        have H := HA.out
        clear HA
        simp only [sum_ID.l1] at H
        by_cases c6 : x23_2 < ((rd_L1 l1 x17_1).length : Int)
        ·rw [if_pos c6] at H
         have c6b0 : decide (x23_2 < ((rd_L1 l1 x17_1).length : Int)) = true := decide_eq_true c6
         clear c6
         by_cases c7 : 0 ≤ x23_2
         ·rw [if_pos c7] at H
          have c7b0 : decide (0 ≤ x23_2) = true := decide_eq_true c7
          clear c7
          by_cases c8 : x23_2 < ((rd_L1 l1 x17_1).length : Int)
          ·rw [if_pos c8] at H
           have c8b0 : decide (x23_2 < ((rd_L1 l1 x17_1).length : Int)) = true := decide_eq_true c8
           clear c8
           have H' := Aside0.mk H
           clear H
           have p102 : 0 ≤ (x23_2 : Int) := of_decide_eq_true (by first | (with_reducible assumption) | assumption)
           have q102 : x23_2 < ((rd_L1 l1 x17_1).length : Int) := of_decide_eq_true (by first | (with_reducible assumption) | assumption)
           obtain ⟨ad102, e102, hx102_0⟩ := Kd.at_int HR101_0.out x23_2 p102 q102
           cases e102
           replace p102 := eq_true p102
           replace q102 := eq_true q102
           go_wp2
           go_roundg k2
           case measure => have := HK1.out; have := HK2.out; omega
           case rel => exact ⟨(IntKind.u64.wrap ((Go.bits .xor .u64 x5_2 (IntKind.u64.wrap (rd (rd_L1 l1 x17_1) x23_2))) * 1099511628211)), (wrap64 (x23_2 + 1)), (by first | rfl | (simp; done) | (simp [*]; done)), (by first | rfl | (simp; done) | (simp [*]; done)), H', ⟨by have := HK1.out; have := HK2.out; omega⟩, by repeat (first | exact Drawn0.refl _ | apply Drawn0.step)⟩
          ·rw [if_neg c8] at H
           exact absurd H (by simp)
         ·rw [if_neg c7] at H
          exact absurd H (by simp)
        ·rw [if_neg c6] at H
         have c6b0 : decide (x23_2 < ((rd_L1 l1 x17_1).length : Int)) = false := decide_eq_false c6
         clear c6
         have H' := Aside0.mk H
         clear H
         go_wp2
         go_roundg k2
         case measure => have := HK1.out; have := HK2.out; omega
         case rel => exact ⟨(x5_2), (wrap64 (x17_1 + 1)), (by first | rfl | (simp; done) | (simp [*]; done)), (by first | rfl | (simp; done) | (simp [*]; done)), H', ⟨by have := HK1.out; have := HK2.out; omega⟩, by repeat (first | exact Drawn0.refl _ | apply Drawn0.step)⟩
     ·rw [if_neg c5] at H
      exact absurd H (by simp)
    ·rw [if_neg c4] at H
     exact absurd H (by simp)
   ·rw [if_neg c3] at H
    have c3b0 : decide (x17_1 < (l1.length : Int)) = false := decide_eq_false c3
    clear c3
    obtain rfl := Option.some.inj H
    go_wp2
    go_ret
    exact ⟨by first | rfl | (simp; done) | (simp [*]; done), by repeat (first | exact Drawn0.refl _ | apply Drawn0.step)⟩

/-! ### sum_Check: function 29 -/
def sum_Check.f (l0 : List (List Int)) : Option Int := some (Go.bits .xor .u32 IntKind.u32.max (crcAll 4294967295 l0))
set_option maxHeartbeats 1000000 in
theorem sum_Check.calls (A0 : Option Addr) (c0 : Nat) (l0 : List (List Int)) (r : Int) (w : World) (hr0 : Kd.C (Kd.slice 5 (Kd.int .u8)) w A0 l0.length l0) (hc0 : l0.length ≤ c0) (h : sum_Check.f l0 = some r) :
    Calls Try.prog 29 #[.slice A0 l0.length c0] w fun e w' => e = .returned (.int .u32 r) ∧ Below w.heap.size w w' := by
  obtain rfl := Option.some.inj h
  clear h
  have HR0 := Aside0.mk hr0
  have HC0 := Aside0.mk hc0
  clear hr0 hc0
  go_enter Try.func29, Try.ntmps29
  go_wp2
  go_loopw [11] (fun i wr => ∃ k : Nat, k ≤ 16 ∧ i = .int .i64 k ∧ wr.heap[w.heap.size]? = some (.cells (tabCells k) 96 (0, 0)) ∧ Below w.heap.size w wr) (fun i wr => 16 - (intOf i).toNat)
  case atStart => exact ⟨0, by omega, rfl, heap_alloc_new w _, (Below.refl _ _).alloc (Nat.le_refl _) _⟩
  case round =>
    obtain ⟨k, hk, rfl, hb, hB⟩ := hrel
    have HB := Aside0.mk hB
    have Hb := Aside0.mk hb
    clear hB hb
    by_cases hlt : k < 16
    · go_wp2
      go_loop [5, 16] (fun v j => ∃ m : Nat, m ≤ 4 ∧ j = .int .i64 m ∧ v = .int .u32 (viter m k)) (fun v j => 4 - (intOf j).toNat)
      case atStart => exact ⟨0, by omega, rfl, rfl⟩
      case round =>
        obtain ⟨m, hm, rfl, rfl⟩ := hrel
        by_cases hlt2 : m < 4
        · go_wp2
          go_round
          case rel => exact ⟨m + 1, by omega, by go_num, rfl⟩
          case measure => simp [intOf]; omega
        · obtain rfl : m = 4 := by omega
          have hcell : wr.cell? ⟨w.heap.size, k, none⟩ = some (.int .u32 0) := (blk_cell Hb.out k).trans (tabCells_at k hlt)
          have hfr : wr.frozen? ⟨w.heap.size, k, none⟩ = false := blk_frozen Hb.out k
          go_wp2
          go_roundw
          case rel => exact ⟨k + 1, by omega, by go_num, by rw [viter_tab k hlt]; exact blk_put Hb.out k _ (tabCells_set k hlt), HB.out.setCell (Nat.le_refl _) _⟩
          case measure => simp [intOf]; omega
    · obtain rfl : k = 16 := by omega
      have HRw := Aside0.mk (Kd.C_below HR0.out HB.out)
      have Hl0 : l0.length ≤ 9223372036854775807 := HRw.out.2.1
      go_wp2
      go_loop [6, 32] (fun c i => ∃ k : Nat, k ≤ l0.length ∧ i = .int .i64 k ∧ c = .int .u32 (crcAll 4294967295 (l0.take k))) (fun c i => l0.length - (intOf i).toNat)
      case atStart => exact ⟨0, by omega, rfl, rfl⟩
      case round =>
        obtain ⟨k, hk, rfl, rfl⟩ := hrel
        by_cases hlt : k < l0.length
        · obtain ⟨ad, A1, c1, he, hx, hl1, hi1⟩ := rows_at HRw.out k hlt
          cases he
          have HI1 := Aside0.mk hi1
          have HL1 := Aside0.mk hl1
          clear hi1 hl1
          have Hn : (l0.getD k []).length ≤ 9223372036854775807 := HI1.out.2.1
          generalize hp : l0.getD k [] = p at *
          have HP := Aside0.mk hp
          clear hp
          go_wp2
          go_loop [6, 38] (fun c j => ∃ m : Nat, m ≤ p.length ∧ j = .int .i64 m ∧ c = .int .u32 ((p.take m).foldl crcByte (crcAll 4294967295 (l0.take k)))) (fun c j => p.length - (intOf j).toNat)
          case atStart => exact ⟨0, by omega, rfl, rfl⟩
          case round =>
            obtain ⟨m, hm, rfl, rfl⟩ := hrel
            by_cases hlt2 : m < p.length
            · have HM : Aside0 ((p.take (m + 1)).foldl crcByte (crcAll 4294967295 (l0.take k)) = crcByte ((p.take m).foldl crcByte (crcAll 4294967295 (l0.take k))) (rd p m)) := ⟨by
                rw [List.take_succ_eq_append_getElem hlt2, List.foldl_append, List.foldl_cons, List.foldl_nil]
                congr 1
                simp [rd, hlt2]⟩
              generalize (p.take m).foldl crcByte (crcAll 4294967295 (l0.take k)) = c at *
              obtain ⟨ad2, he2, hx2⟩ := Kd.at_int HI1.out m (by omega) (by omega)
              cases he2
              rw [show ((m : Int)).toNat = m from rfl] at hx2
              generalize rd p m = x at *
              have tab : ∀ c : Int, wr.cell? ⟨w.heap.size, (Go.bits .and .u32 c 15).toNat, none⟩ = some (.int .u32 (rd crcTab (Go.bits .and .u32 c 15))) := fun c => (blk_cell Hb.out _).trans (tabCells_full _ (and15 c).1 (and15 c).2)
              have a1 := and15 (Go.bits .xor .u32 c (x % 4294967296))
              have t1 := tab (Go.bits .xor .u32 c (x % 4294967296))
              have a2 := and15 (Go.bits .xor .u32 (Go.bits .xor .u32 c (x % 4294967296) / 16) (rd crcTab (Go.bits .and .u32 (Go.bits .xor .u32 c (x % 4294967296)) 15)))
              have t2 := tab (Go.bits .xor .u32 (Go.bits .xor .u32 c (x % 4294967296) / 16) (rd crcTab (Go.bits .and .u32 (Go.bits .xor .u32 c (x % 4294967296)) 15)))
              clear tab
              go_wp2
              go_round
              case rel => exact ⟨m + 1, by omega, by go_num, by rw [HM.out]; rfl⟩
              case measure => simp [intOf]; omega
            · obtain rfl : m = p.length := by omega
              have HM : Aside0 (crcAll 4294967295 (l0.take (k + 1)) = (p.take p.length).foldl crcByte (crcAll 4294967295 (l0.take k))) := ⟨by
                rw [List.take_succ_eq_append_getElem hlt, crcAll, List.foldl_append, List.foldl_cons, List.foldl_nil, List.take_length, ← HP.out]
                simp [hlt, crcAll]⟩
              go_wp2
              go_round
              case rel => refine ⟨_, _, _, _, ⟨k + 1, by omega, by go_num, by rw [HM.out, List.take_length]⟩, rfl, rfl, rfl, rfl⟩
              case measure => simp [intOf]; omega
        · obtain rfl : k = l0.length := by omega
          go_wp2
          go_ret
          exact ⟨by first | rfl | (simp; done), HB.out⟩

/-! ### bits_RotateLeft64: function 48 -/
def bits_RotateLeft64.f (a0 : Int) (a1 : Int) : Option (Int) := if 0 ≤ (Go.bits .and .u64 (IntKind.u64.wrap (a1)) 63) then (if 0 ≤ (IntKind.u64.wrap (64 - (Go.bits .and .u64 (IntKind.u64.wrap (a1)) 63))) then (some (Go.bits .or .u64 (shl .u64 a0 (Go.bits .and .u64 (IntKind.u64.wrap (a1)) 63)) (shr .u64 a0 (IntKind.u64.wrap (64 - (Go.bits .and .u64 (IntKind.u64.wrap (a1)) 63)))))) else (none)) else (none)
set_option maxHeartbeats 8000000 in
set_option maxRecDepth 100000 in
theorem bits_RotateLeft64.calls (a0 : Int) (a1 : Int) (r : Int) (w : World) (h : bits_RotateLeft64.f a0 a1 = some r) :
  Calls Try.prog 48 #[.int .u64 a0, .int .i64 a1] w fun e w' => e = .returned (.int .u64 r) ∧ Drawn0 w w' := by
 have H : (if 0 ≤ (Go.bits .and .u64 (IntKind.u64.wrap (a1)) 63) then (if 0 ≤ (IntKind.u64.wrap (64 - (Go.bits .and .u64 (IntKind.u64.wrap (a1)) 63))) then (some (Go.bits .or .u64 (shl .u64 a0 (Go.bits .and .u64 (IntKind.u64.wrap (a1)) 63)) (shr .u64 a0 (IntKind.u64.wrap (64 - (Go.bits .and .u64 (IntKind.u64.wrap (a1)) 63)))))) else (none)) else (none)) = some r := h
 clear h
 obtain ⟨ji3, hji3⟩ : ∃ j_ : Int, (Go.bits .and .u64 (IntKind.u64.wrap (a1)) 63) = j_ := ⟨_, rfl⟩
 replace H : (if 0 ≤ (ji3) then (if 0 ≤ (IntKind.u64.wrap (64 - (ji3))) then (some (Go.bits .or .u64 (shl .u64 a0 (ji3)) (shr .u64 a0 (IntKind.u64.wrap (64 - (ji3)))))) else (none)) else (none)) = some r := by first | (rw [hji3] at H; exact H) | (simp only [hji3] at H ⊢; exact H)
 by_cases c4 : 0 ≤ (ji3)
 ·rw [if_pos c4] at H
  have c4b0 := eq_true c4
  have c4b1 : decide (0 ≤ (ji3)) = true := decide_eq_true c4
  clear c4
  obtain ⟨ji5, hji5⟩ : ∃ j_ : Int, (shl .u64 a0 (ji3)) = j_ := ⟨_, rfl⟩
  replace H : (if 0 ≤ (IntKind.u64.wrap (64 - (ji3))) then (some (Go.bits .or .u64 (ji5) (shr .u64 a0 (IntKind.u64.wrap (64 - (ji3)))))) else (none)) = some r := by first | (rw [hji5] at H; exact H) | (simp only [hji5] at H ⊢; exact H)
  have hji5_ : (IntKind.u64.wrap (a0 * 2 ^ min (ji3).toNat 64)) = ji5 := hji5
  have hji5z : (ji3) ≤ 64 → (IntKind.u64.wrap (a0 * 2 ^ (ji3).toNat)) = ji5 := shl_small hji5
  obtain ⟨ji6, hji6⟩ : ∃ j_ : Int, (IntKind.u64.wrap (64 - (ji3))) = j_ := ⟨_, rfl⟩
  replace H : (if 0 ≤ (ji6) then (some (Go.bits .or .u64 (ji5) (shr .u64 a0 (ji6)))) else (none)) = some r := by first | (rw [hji6] at H; exact H) | (simp only [hji6] at H ⊢; exact H)
  by_cases c7 : 0 ≤ (ji6)
  ·rw [if_pos c7] at H
   have c7b0 := eq_true c7
   have c7b1 : decide (0 ≤ (ji6)) = true := decide_eq_true c7
   clear c7
   obtain ⟨ji8, hji8⟩ : ∃ j_ : Int, (shr .u64 a0 (ji6)) = j_ := ⟨_, rfl⟩
   replace H : (some (Go.bits .or .u64 (ji5) (ji8))) = some r := by first | (rw [hji8] at H; exact H) | (simp only [hji8] at H ⊢; exact H)
   have hji8_ : (a0 / 2 ^ min (ji6).toNat 64) = ji8 := hji8
   have hji8z : (ji6) ≤ 64 → (a0 / 2 ^ (ji6).toNat) = ji8 := shr_small hji8
   obtain rfl := Option.some.inj H
   go_enter Try.func48, Try.ntmps48
   go_wp2
   go_ret
   exact ⟨by first | rfl | (simp; done) | (simp only [← hji3, ← hji5, ← hji6, ← hji8] <;> (first | rfl | simp)) | (simp [*]; done), by repeat (first | exact Drawn0.refl _ | apply Drawn0.step)⟩
  ·rw [if_neg c7] at H
   exact absurd H (by simp)
 ·rw [if_neg c4] at H
  exact absurd H (by simp)

/-! ### sum_Hex: function 31 -/
theorem rotf (v : Int) (h0 : 0 ≤ v) (h1 : v < 18446744073709551616) : bits_RotateLeft64.f v 4 = some (rot4 v) := by
  have e1 : Go.bits .and .u64 (IntKind.u64.wrap 4) 63 = 4 := by decide
  have e2 : IntKind.u64.wrap (64 - 4) = 60 := by decide
  unfold bits_RotateLeft64.f
  rw [e1, e2, if_pos (by omega), if_pos (by omega)]
  have hw : ∀ n : Int, 0 ≤ n → n < 2 ^ 64 → IntKind.u64.wrap n = n := fun n a b => by
    simp [IntKind.wrap, IntKind.bits, IntKind.signed]
    omega
  have e3 : shl .u64 v 4 = v * 16 % 18446744073709551616 := by
    simp [shl, IntKind.wrap, IntKind.bits, IntKind.signed]
  have e4 : shr .u64 v 60 = v / 1152921504606846976 := by
    simp [shr, IntKind.bits]
  rw [e3, e4, bits_join .u64 64 (by decide) hw 4 _ _ (by omega) (by omega) (by omega) (by omega) (by omega) (by omega)]
  rfl
def sum_Hex.f (a0 : Int) : Option ByteArray := if 0 ≤ a0 then (if a0 < 18446744073709551616 then some (strOfNums (hexNums a0)) else none) else none
set_option maxRecDepth 100000 in
set_option maxHeartbeats 1000000 in
theorem sum_Hex.calls (a0 : Int) (r : ByteArray) (w : World) (h : sum_Hex.f a0 = some r) :
    Calls Try.prog 31 #[.int .u64 a0] w fun e w' => e = .returned (.string r) ∧ Below w.heap.size w w' := by
  unfold sum_Hex.f at h
  by_cases c1 : 0 ≤ a0
  · rw [if_pos c1] at h
    by_cases c2 : a0 < 18446744073709551616
    · rw [if_pos c2] at h
      obtain rfl := Option.some.inj h
      clear h
      have C1 := Aside0.mk c1
      have C2 := Aside0.mk c2
      clear c1 c2
      go_enter Try.func31, Try.ntmps31
      go_wp2
      go_loopw [4, 7] (fun v i wr => ∃ k : Nat, k ≤ 16 ∧ i = .int .i64 k ∧ v = .int .u64 (rotN k a0) ∧ wr.heap[w.heap.size]? = some (.cells (hexCells a0 k) 98 (0, 0)) ∧ Below w.heap.size w wr) (fun v i wr => 16 - (intOf i).toNat)
      case atStart => exact ⟨0, by omega, rfl, rfl, heap_alloc_new w _, (Below.refl _ _).alloc (Nat.le_refl _) _⟩
      case round =>
        obtain ⟨k, hk, rfl, rfl, hb, hB⟩ := hrel
        have HB := Aside0.mk hB
        have Hb := Aside0.mk hb
        clear hB hb
        by_cases hlt : k < 16
        · have HD := Aside0.mk (rotN_digit a0 C1.out C2.out k hlt)
          have HK : Aside0 (bits_RotateLeft64.f (rotN k a0) 4 = some (rotN (k + 1) a0)) := ⟨by
            cases k with
            | zero => exact rotf a0 C1.out C2.out
            | succ j => exact rotf _ (rotN_digit a0 C1.out C2.out j (by omega)).1 (rotN_digit a0 C1.out C2.out j (by omega)).2.1⟩
          obtain ⟨v1, hv1⟩ : ∃ x, x = rotN (k + 1) a0 := ⟨_, rfl⟩
          rw [← hv1] at HD HK
          have HN := Aside0.mk hv1
          clear hv1
          generalize rotN k a0 = v0 at *
          have hx := bt_at ⟨#[48, 49, 50, 51, 52, 53, 54, 55, 56, 57, 97, 98, 99, 100, 101, 102]⟩ (Go.bits .and .u64 v1 15)
          have D0 : Go.bits .and .u64 v1 15 = v1 % 16 := and15u64 v1 HD.out.1 HD.out.2.1
          have D1 : 0 ≤ Go.bits .and .u64 v1 15 := by omega
          have D2 : Go.bits .and .u64 v1 15 < 16 := by omega
          have HX : Aside0 (bt ⟨#[48, 49, 50, 51, 52, 53, 54, 55, 56, 57, 97, 98, 99, 100, 101, 102]⟩ (Go.bits .and .u64 v1 15) = (hexNums a0).getD k 0) := ⟨by rw [hexDig_bt _ D1 D2, D0]; exact HD.out.2.2⟩
          clear D0
          rw [HX.out] at hx
          have hcell : wr.cell? ⟨w.heap.size, k, none⟩ = some (.int .u8 0) := (blk_cell Hb.out k).trans (hexCells_at a0 k hlt)
          have hfr : wr.frozen? ⟨w.heap.size, k, none⟩ = false := blk_frozen Hb.out k
          go_wp2_with (go_at_call 48; refine (bits_RotateLeft64.calls v0 4 v1 wr HK.out).mono ?_; rintro e w' ⟨rfl, ⟨nd, rfl⟩⟩)
          go_roundw
          case rel => exact ⟨k + 1, by omega, by go_num, by rw [← HN.out], blk_put (blk_drewN Hb.out nd) k _ (hexCells_set a0 k hlt), (pw_below_drewN HB.out nd).setCell (Nat.le_refl _) _⟩
          case measure => simp [intOf]; omega
        · obtain rfl : k = 16 := by omega
          have hcv := Kd.C_string (P := Try.prog) (A := some ⟨w.heap.size, 0, none⟩) (c := 16) Try.underlying45 Try.underlying5 Try.underlying9 (hex_row wr w.heap.size a0 Hb.out)
          go_wp2
          go_ret
          exact ⟨by first | rfl | (simp; done), HB.out⟩
    · rw [if_neg c2] at h
      cases h
  · rw [if_neg c1] at h
    cases h

/-! ### sum_Parse: function 32 -/
mutual
def sum_Parse.l0 : Nat → ByteArray → Int → Int → Int → Option (Int × Int)
 | 0, _, _, _, _ => none
 | k + 1, x0, x4, x11, x12 => if x12 < x11 then (if 0 ≤ x12 then (if x12 < (x0.size : Int) then (if (bt x0 x12) ≥ 48 then (sum_Parse.j1 k x0 x4 (bt x0 x12) x11 x12 (decide ((bt x0 x12) ≤ 57))) else (sum_Parse.j1 k x0 x4 (bt x0 x12) x11 x12 false)) else (none)) else (none)) else (some (x4, 0))
def sum_Parse.j1 : Nat → ByteArray → Int → Int → Int → Int → Bool → Option (Int × Int)
 | 0, _, _, _, _, _, _ => none
 | k + 1, x0, x4, x6, x11, x12, x18 => if x18 = true then (sum_Parse.l0 k x0 (Go.bits .or .u64 (IntKind.u64.wrap (x4 * 16)) ((x6 - 48) % 256)) x11 (wrap64 (x12 + 1))) else (if x6 ≥ 97 then (if x6 ≤ 102 then (sum_Parse.l0 k x0 (Go.bits .or .u64 (IntKind.u64.wrap (x4 * 16)) ((((x6 - 97) % 256) + 10) % 256)) x11 (wrap64 (x12 + 1))) else (some (0, 9))) else (some (0, 9)))
end
def sum_Parse.f (k : Nat) (a0 : ByteArray) : Option (Int × Int) := if (a0.size : Int) = 16 then (sum_Parse.l0 k a0 0 (a0.size : Int) 0) else (some (0, 9))
theorem sum_Parse.mono_l : ∀ k, (∀ y0 y1 y2 y3, LeO (sum_Parse.l0 k y0 y1 y2 y3) (sum_Parse.l0 (k + 1) y0 y1 y2 y3)) ∧ (∀ y0 y1 y2 y3 y4 y5, LeO (sum_Parse.j1 k y0 y1 y2 y3 y4 y5) (sum_Parse.j1 (k + 1) y0 y1 y2 y3 y4 y5))
 | 0 => ⟨fun _ _ _ _ r h => by simp [sum_Parse.l0] at h, fun _ _ _ _ _ _ r h => by simp [sum_Parse.j1] at h⟩
 | k + 1 => by
  obtain ⟨ih0, ih1⟩ := sum_Parse.mono_l k
  refine ⟨?_, ?_⟩
  ·intro y0 y1 y2 y3
   unfold sum_Parse.l0
   repeat' first
   | (with_reducible exact ih0 _ _ _ _)
   | (with_reducible exact ih1 _ _ _ _ _ _)
   | (with_reducible exact LeO.refl _)
   | (with_reducible exact LeO.none _)
   | (with_reducible refine LeO.ite ?_ ?_)
   | (with_reducible refine LeO.bind ?_ (fun _ => ?_))
   | exact ih0 _ _ _ _
   | exact ih1 _ _ _ _ _ _
   | exact LeO.none _
   | refine LeO.ite ?_ ?_
   | refine LeO.bind ?_ (fun _ => ?_)
  ·intro y0 y1 y2 y3 y4 y5
   unfold sum_Parse.j1
   repeat' first
   | (with_reducible exact ih0 _ _ _ _)
   | (with_reducible exact ih1 _ _ _ _ _ _)
   | (with_reducible exact LeO.refl _)
   | (with_reducible exact LeO.none _)
   | (with_reducible refine LeO.ite ?_ ?_)
   | (with_reducible refine LeO.bind ?_ (fun _ => ?_))
   | exact ih0 _ _ _ _
   | exact ih1 _ _ _ _ _ _
   | exact LeO.none _
   | refine LeO.ite ?_ ?_
   | refine LeO.bind ?_ (fun _ => ?_)
theorem sum_Parse.mono : ∀ a0 k, LeO (sum_Parse.f k a0) (sum_Parse.f (k + 1) a0) := by
 intro a0 k
 obtain ⟨ih0, ih1⟩ := sum_Parse.mono_l k
 unfold sum_Parse.f
 repeat' first
   | (with_reducible exact ih0 _ _ _ _)
   | (with_reducible exact ih1 _ _ _ _ _ _)
   | (with_reducible exact LeO.refl _)
   | (with_reducible exact LeO.none _)
   | (with_reducible refine LeO.ite ?_ ?_)
   | (with_reducible refine LeO.bind ?_ (fun _ => ?_))
   | exact ih0 _ _ _ _
   | exact ih1 _ _ _ _ _ _
   | exact LeO.none _
   | refine LeO.ite ?_ ?_
   | refine LeO.bind ?_ (fun _ => ?_)
set_option maxHeartbeats 8000000 in
set_option maxRecDepth 100000 in
theorem sum_Parse.calls (k : Nat) (a0 : ByteArray) (r1 : Int) (r2 : Int) (w : World) (h : sum_Parse.f k a0 = some (r1, r2)) :
  Calls Try.prog 32 #[.string a0] w fun e w' => e = .returned (.tuple #[.int .u64 r1, .int .i64 r2]) ∧ Drawn0 w w' := by
 have H : (if (a0.size : Int) = 16 then (sum_Parse.l0 k a0 0 (a0.size : Int) 0) else (some (0, 9))) = some (r1, r2) := h
 clear h
 by_cases c2 : (a0.size : Int) = 16
 ·rw [if_pos c2] at H
  have c2b0 : ((a0.size : Int) == 16) = true := beq_iff_eq.mpr c2
  have c2b1 : ((a0.size : Int) != 16) = false := bne_eq_false_iff_eq.mpr c2
  clear c2
  have H' := Aside0.mk H
  clear H
  go_enter Try.func32, Try.ntmps32
  go_wp2
  go_loopg [4, 12] k (fun kq v4 v12 w' => ∃ (x4_1 : Int) (x12_1 : Int), v4 = .int .u64 x4_1 ∧ v12 = .int .i64 x12_1 ∧ Aside0 (sum_Parse.l0 kq a0 x4_1 (a0.size : Int) x12_1 = some (r1, r2)) ∧ Aside0 (kq ≤ k) ∧ Drawn0 w w')
  case atStart => exact ⟨(0), (0), (by first | rfl | (simp; done) | (simp [*]; done)), (by first | rfl | (simp; done) | (simp [*]; done)), H', ⟨Nat.le_refl _⟩, by repeat (first | exact Drawn0.refl _ | apply Drawn0.step)⟩
  case round =>
   clear H'
   try clear c2
   try clear c2b0
   try clear c2b1
   try clear p2
   obtain ⟨x4_1, x12_1, rfl, rfl, HA, HK1, ⟨m1, rfl⟩⟩ := hrel
   cases gk with
   | zero => exact absurd HA.out (by simp [sum_Parse.l0])
   | succ k1 =>
    have H := HA.out
    clear HA
    simp only [sum_Parse.l0] at H
    by_cases c3 : x12_1 < (a0.size : Int)
    ·rw [if_pos c3] at H
     have c3b0 : decide (x12_1 < (a0.size : Int)) = true := decide_eq_true c3
     clear c3
     by_cases c4 : 0 ≤ x12_1
     ·rw [if_pos c4] at H
      have c4b0 : decide (0 ≤ x12_1) = true := decide_eq_true c4
      clear c4
      by_cases c5 : x12_1 < (a0.size : Int)
      ·rw [if_pos c5] at H
       have c5b0 : decide (x12_1 < (a0.size : Int)) = true := decide_eq_true c5
       clear c5
       have HC7 := Aside0.mk H
       clear H
       have p6 : 0 ≤ (x12_1 : Int) := of_decide_eq_true (by first | (with_reducible assumption) | assumption)
       have q6 : x12_1 < (a0.size : Int) := of_decide_eq_true (by first | (with_reducible assumption) | assumption)
       have hx6 := bt_at a0 x12_1
       replace p6 := eq_true p6
       replace q6 := eq_true q6
       go_upto_region 9 with (fail)
       go_cut [18] (fun v18 wc => ∃ (kq : Nat) (x18_6 : Bool), v18 = .bool x18_6 ∧ Aside0 (sum_Parse.j1 kq a0 x4_1 (bt a0 x12_1) (a0.size : Int) x12_1 x18_6 = some (r1, r2)) ∧ Aside0 (kq ≤ k1) ∧ Drawn0 w wc)
       case first =>
        have H := HC7.out
        clear HC7
        by_cases c8 : (bt a0 x12_1) ≥ 48
        ·rw [if_pos c8] at H
         have c8b0 : decide (48 ≤ (bt a0 x12_1)) = true := decide_eq_true c8
         clear c8
         (first | rw [c8b0] | (simp only [i64_w, i32_w]; rw [c8b0]) | skip)
         have H' := Aside0.mk H
         clear H
         go_wp2
         go_meet
         case rel => exact ⟨_, (decide ((bt a0 x12_1) ≤ 57)), (by first | rfl | (simp; done) | (simp [*]; done)), H', ⟨by have := HK1.out; first | omega | exact Nat.le_refl _⟩, by repeat (first | exact Drawn0.refl _ | apply Drawn0.step)⟩
        ·rw [if_neg c8] at H
         have c8b0 : decide (48 ≤ (bt a0 x12_1)) = false := decide_eq_false c8
         clear c8
         (first | rw [c8b0] | (simp only [i64_w, i32_w]; rw [c8b0]) | skip)
         have H' := Aside0.mk H
         clear H
         go_wp2
         go_meet
         case rel => exact ⟨_, (false), (by first | rfl | (simp; done) | (simp [*]; done)), H', ⟨by have := HK1.out; first | omega | exact Nat.le_refl _⟩, by repeat (first | exact Drawn0.refl _ | apply Drawn0.step)⟩
       case rest =>
        clear HC7
        try clear c2
        try clear c2b0
        try clear c2b1
        try clear p2
        try clear c3
        try clear c3b0
        try clear c4
        try clear c4b0
        try clear c5
        try clear c5b0
        try clear p6
        try clear q6
        try clear hx6
        try clear c8
        try clear c8b0
        try clear p2
        try clear p6
        try clear q6
        obtain ⟨kq, x18_6, rfl, HA, HJ6, ⟨mc6, rfl⟩⟩ := hcut
        cases kq with
        | zero => exact absurd HA.out (by simp [sum_Parse.j1])
        | succ kj6 =>
         have H := HA.out
         clear HA
         simp only [sum_Parse.j1] at H
         by_cases c9 : x18_6 = true
         ·subst c9
          have H1 : (sum_Parse.l0 kj6 a0 (Go.bits .or .u64 (IntKind.u64.wrap (x4_1 * 16)) (((bt a0 x12_1) - 48) % 256)) (a0.size : Int) (wrap64 (x12_1 + 1))) = some (r1, r2) := by rw [if_pos rfl] at H; exact H
          clear H
          have H := H1
          clear H1
          have H' := Aside0.mk H
          clear H
          go_wp2
          go_roundg kj6
          case measure => have := HK1.out; have := HJ6.out; omega
          case rel => exact ⟨(Go.bits .or .u64 (IntKind.u64.wrap (x4_1 * 16)) (((bt a0 x12_1) - 48) % 256)), (wrap64 (x12_1 + 1)), (by first | rfl | (simp; done) | (simp [*]; done)), (by first | rfl | (simp; done) | (simp [*]; done)), H', ⟨by have := HK1.out; have := HJ6.out; omega⟩, by repeat (first | exact Drawn0.refl _ | apply Drawn0.step)⟩
         ·replace c9 := Bool.eq_false_iff.mpr c9
          subst c9
          have H1 : (if (bt a0 x12_1) ≥ 97 then (if (bt a0 x12_1) ≤ 102 then (sum_Parse.l0 kj6 a0 (Go.bits .or .u64 (IntKind.u64.wrap (x4_1 * 16)) (((((bt a0 x12_1) - 97) % 256) + 10) % 256)) (a0.size : Int) (wrap64 (x12_1 + 1))) else (some (0, 9))) else (some (0, 9))) = some (r1, r2) := by rw [if_neg (show ¬ (false = true) by decide)] at H; exact H
          clear H
          have H := H1
          clear H1
          by_cases c10 : (bt a0 x12_1) ≥ 97
          ·rw [if_pos c10] at H
           have c10b0 : decide (97 ≤ (bt a0 x12_1)) = true := decide_eq_true c10
           clear c10
           by_cases c11 : (bt a0 x12_1) ≤ 102
           ·rw [if_pos c11] at H
            have c11b0 : decide ((bt a0 x12_1) ≤ 102) = true := decide_eq_true c11
            clear c11
            have H' := Aside0.mk H
            clear H
            go_wp2
            go_roundg kj6
            case measure => have := HK1.out; have := HJ6.out; omega
            case rel => exact ⟨(Go.bits .or .u64 (IntKind.u64.wrap (x4_1 * 16)) (((((bt a0 x12_1) - 97) % 256) + 10) % 256)), (wrap64 (x12_1 + 1)), (by first | rfl | (simp; done) | (simp [*]; done)), (by first | rfl | (simp; done) | (simp [*]; done)), H', ⟨by have := HK1.out; have := HJ6.out; omega⟩, by repeat (first | exact Drawn0.refl _ | apply Drawn0.step)⟩
           ·rw [if_neg c11] at H
            have c11b0 : decide ((bt a0 x12_1) ≤ 102) = false := decide_eq_false c11
            clear c11
            simp only [Option.some.injEq, Prod.mk.injEq] at H
            obtain ⟨rfl, rfl⟩ := H
            go_wp2
            go_ret2
            exact ⟨by first | rfl | (simp; done) | (simp [*]; done), by repeat (first | exact Drawn0.refl _ | apply Drawn0.step)⟩
          ·rw [if_neg c10] at H
           have c10b0 : decide (97 ≤ (bt a0 x12_1)) = false := decide_eq_false c10
           clear c10
           simp only [Option.some.injEq, Prod.mk.injEq] at H
           obtain ⟨rfl, rfl⟩ := H
           go_wp2
           go_ret2
           exact ⟨by first | rfl | (simp; done) | (simp [*]; done), by repeat (first | exact Drawn0.refl _ | apply Drawn0.step)⟩
      ·rw [if_neg c5] at H
       exact absurd H (by simp)
     ·rw [if_neg c4] at H
      exact absurd H (by simp)
    ·rw [if_neg c3] at H
     have c3b0 : decide (x12_1 < (a0.size : Int)) = false := decide_eq_false c3
     clear c3
     simp only [Option.some.injEq, Prod.mk.injEq] at H
     obtain ⟨rfl, rfl⟩ := H
     go_wp2
     go_ret2
     exact ⟨by first | rfl | (simp; done) | (simp [*]; done), by repeat (first | exact Drawn0.refl _ | apply Drawn0.step)⟩
 ·rw [if_neg c2] at H
  have c2b0 : ((a0.size : Int) == 16) = false := beq_eq_false_iff_ne.mpr c2
  have c2b1 : ((a0.size : Int) != 16) = true := bne_iff_ne.mpr c2
  simp only [Option.some.injEq, Prod.mk.injEq] at H
  obtain ⟨rfl, rfl⟩ := H
  go_enter Try.func32, Try.ntmps32
  go_wp2
  go_ret2
  exact ⟨by first | rfl | (simp; done) | (simp [*]; done), by repeat (first | exact Drawn0.refl _ | apply Drawn0.step)⟩

abbrev constb0.f : Option (List Int) := some [49, 50, 51, 52, 53, 54, 55, 56, 57]

/-! ### forebearlaw01_awake: function 26 -/
def forebearlaw01_awake.f (k : Nat)  : Option (Bool) := (sum_Parse.f k (⟨#[48, 48, 48, 48, 48, 48, 48, 48, 48, 48, 48, 48, 48, 48, 102, 102]⟩ : ByteArray)).bind fun bt103 => ((sum_ID.f k 0 ([] : List (List Int))).bind fun t105 => ((sum_Hex.f t105).bind fun t106 => (if t106.toList = ([97, 102, 54, 51, 98, 100, 52, 99, 56, 54, 48, 49, 98, 55, 100, 102] : List UInt8) then ((constb0.f).bind fun t107 => ((sum_Check.f (([t107] : List (List Int)))).bind fun t113 => (if t113 = 3421780262 then ((sum_Hex.f 255).bind fun t114 => (if t114.toList = ([48, 48, 48, 48, 48, 48, 48, 48, 48, 48, 48, 48, 48, 48, 102, 102] : List UInt8) then (if bt103.1 = 255 then (some (bt103.2 == 0)) else (some false)) else (some false))) else (some false)))) else (some false))))
theorem forebearlaw01_awake.mono : ∀ k, LeO (forebearlaw01_awake.f k ) (forebearlaw01_awake.f (k + 1) ) := by
 intro  k
 unfold forebearlaw01_awake.f
 repeat' first
   | (with_reducible exact sum_ID.mono _ _ _)
   | (with_reducible exact sum_Parse.mono _ _)
   | (with_reducible exact LeO.refl _)
   | (with_reducible exact LeO.none _)
   | (with_reducible refine LeO.ite ?_ ?_)
   | (with_reducible refine LeO.bind ?_ (fun _ => ?_))
   | exact sum_ID.mono _ _ _
   | exact sum_Parse.mono _ _
   | exact LeO.none _
   | refine LeO.ite ?_ ?_
   | refine LeO.bind ?_ (fun _ => ?_)
set_option maxHeartbeats 8000000 in
set_option maxRecDepth 100000 in
theorem forebearlaw01_awake.calls (k : Nat)  (r : Bool) (w : World) (h : forebearlaw01_awake.f k  = some r) :
  Calls Try.prog 26 #[] w fun e w' => e = .returned (.bool r) ∧ Below w.heap.size w w' := by
 have HB := Aside0.mk (Below.refl w.heap.size w)
 have H : ((sum_Parse.f k (⟨#[48, 48, 48, 48, 48, 48, 48, 48, 48, 48, 48, 48, 48, 48, 102, 102]⟩ : ByteArray)).bind fun bt103 => ((sum_ID.f k 0 ([] : List (List Int))).bind fun t105 => ((sum_Hex.f t105).bind fun t106 => (if t106.toList = ([97, 102, 54, 51, 98, 100, 52, 99, 56, 54, 48, 49, 98, 55, 100, 102] : List UInt8) then ((constb0.f).bind fun t107 => ((sum_Check.f (([t107] : List (List Int)))).bind fun t113 => (if t113 = 3421780262 then ((sum_Hex.f 255).bind fun t114 => (if t114.toList = ([48, 48, 48, 48, 48, 48, 48, 48, 48, 48, 48, 48, 48, 48, 102, 102] : List UInt8) then (if bt103.1 = 255 then (some (bt103.2 == 0)) else (some false)) else (some false))) else (some false)))) else (some false))))) = some r := h
 clear h
 replace H := Option.bind_eq_some_iff.mp H
 obtain ⟨⟨t103, t104⟩, A10, H⟩ := H
 replace H : ((sum_ID.f k 0 ([] : List (List Int))).bind fun t105 => ((sum_Hex.f t105).bind fun t106 => (if t106.toList = ([97, 102, 54, 51, 98, 100, 52, 99, 56, 54, 48, 49, 98, 55, 100, 102] : List UInt8) then ((constb0.f).bind fun t107 => ((sum_Check.f (([t107] : List (List Int)))).bind fun t113 => (if t113 = 3421780262 then ((sum_Hex.f 255).bind fun t114 => (if t114.toList = ([48, 48, 48, 48, 48, 48, 48, 48, 48, 48, 48, 48, 48, 48, 102, 102] : List UInt8) then (if t103 = 255 then (some (t104 == 0)) else (some false)) else (some false))) else (some false)))) else (some false)))) = some r := H
 have A1 := Aside0.mk A10
 clear A10
 replace H := Option.bind_eq_some_iff.mp H
 obtain ⟨t105, A20, H⟩ := H
 replace H : ((sum_Hex.f t105).bind fun t106 => (if t106.toList = ([97, 102, 54, 51, 98, 100, 52, 99, 56, 54, 48, 49, 98, 55, 100, 102] : List UInt8) then ((constb0.f).bind fun t107 => ((sum_Check.f (([t107] : List (List Int)))).bind fun t113 => (if t113 = 3421780262 then ((sum_Hex.f 255).bind fun t114 => (if t114.toList = ([48, 48, 48, 48, 48, 48, 48, 48, 48, 48, 48, 48, 48, 48, 102, 102] : List UInt8) then (if t103 = 255 then (some (t104 == 0)) else (some false)) else (some false))) else (some false)))) else (some false))) = some r := H
 have A2 := Aside0.mk A20
 clear A20
 replace H := Option.bind_eq_some_iff.mp H
 obtain ⟨t106, A30, H⟩ := H
 replace H : (if t106.toList = ([97, 102, 54, 51, 98, 100, 52, 99, 56, 54, 48, 49, 98, 55, 100, 102] : List UInt8) then ((constb0.f).bind fun t107 => ((sum_Check.f (([t107] : List (List Int)))).bind fun t113 => (if t113 = 3421780262 then ((sum_Hex.f 255).bind fun t114 => (if t114.toList = ([48, 48, 48, 48, 48, 48, 48, 48, 48, 48, 48, 48, 48, 48, 102, 102] : List UInt8) then (if t103 = 255 then (some (t104 == 0)) else (some false)) else (some false))) else (some false)))) else (some false)) = some r := H
 have A3 := Aside0.mk A30
 clear A30
 by_cases c4 : t106.toList = ([97, 102, 54, 51, 98, 100, 52, 99, 56, 54, 48, 49, 98, 55, 100, 102] : List UInt8)
 ·rw [if_pos c4] at H
  have c4b0 : (t106.toList == ([97, 102, 54, 51, 98, 100, 52, 99, 56, 54, 48, 49, 98, 55, 100, 102] : List UInt8)) = true := beq_iff_eq.mpr c4
  have c4b1 : (t106.toList != ([97, 102, 54, 51, 98, 100, 52, 99, 56, 54, 48, 49, 98, 55, 100, 102] : List UInt8)) = false := bne_eq_false_iff_eq.mpr c4
  clear c4
  replace H := Option.bind_eq_some_iff.mp H
  obtain ⟨t107, A50, H⟩ := H
  replace H : ((sum_Check.f (([t107] : List (List Int)))).bind fun t113 => (if t113 = 3421780262 then ((sum_Hex.f 255).bind fun t114 => (if t114.toList = ([48, 48, 48, 48, 48, 48, 48, 48, 48, 48, 48, 48, 48, 48, 102, 102] : List UInt8) then (if t103 = 255 then (some (t104 == 0)) else (some false)) else (some false))) else (some false))) = some r := H
  have A5 := Aside0.mk A50
  clear A50
  obtain ⟨y110, hy110⟩ : ∃ y_ : List (List Int), y_ = (([t107] : List (List Int))) := ⟨_, rfl⟩
  replace H : ((sum_Check.f y110).bind fun t113 => (if t113 = 3421780262 then ((sum_Hex.f 255).bind fun t114 => (if t114.toList = ([48, 48, 48, 48, 48, 48, 48, 48, 48, 48, 48, 48, 48, 48, 102, 102] : List UInt8) then (if t103 = 255 then (some (t104 == 0)) else (some false)) else (some false))) else (some false))) = some r := by first | (rw [hy110]; with_reducible exact H) | (have H2_ := (Option.bind_some _ _).symm.trans H; rw [hy110]; with_reducible exact H2_) | (have H2_ := (Option.bind_some _ _).symm.trans H; with_reducible exact H2_) | with_reducible exact H | (rw [hy110]; exact H) | exact H
  have Ny110 := Aside0.mk hy110
  clear hy110
  replace H := Option.bind_eq_some_iff.mp H
  obtain ⟨t113, A60, H⟩ := H
  replace H : (if t113 = 3421780262 then ((sum_Hex.f 255).bind fun t114 => (if t114.toList = ([48, 48, 48, 48, 48, 48, 48, 48, 48, 48, 48, 48, 48, 48, 102, 102] : List UInt8) then (if t103 = 255 then (some (t104 == 0)) else (some false)) else (some false))) else (some false)) = some r := H
  have A6 := Aside0.mk A60
  clear A60
  by_cases c7 : t113 = 3421780262
  ·rw [if_pos c7] at H
   have c7b0 : (t113 == 3421780262) = true := beq_iff_eq.mpr c7
   have c7b1 : (t113 != 3421780262) = false := bne_eq_false_iff_eq.mpr c7
   clear c7
   replace H := Option.bind_eq_some_iff.mp H
   obtain ⟨t114, A80, H⟩ := H
   replace H : (if t114.toList = ([48, 48, 48, 48, 48, 48, 48, 48, 48, 48, 48, 48, 48, 48, 102, 102] : List UInt8) then (if t103 = 255 then (some (t104 == 0)) else (some false)) else (some false)) = some r := H
   have A8 := Aside0.mk A80
   clear A80
   by_cases c9 : t114.toList = ([48, 48, 48, 48, 48, 48, 48, 48, 48, 48, 48, 48, 48, 48, 102, 102] : List UInt8)
   ·rw [if_pos c9] at H
    have c9b0 : (t114.toList == ([48, 48, 48, 48, 48, 48, 48, 48, 48, 48, 48, 48, 48, 48, 102, 102] : List UInt8)) = true := beq_iff_eq.mpr c9
    have c9b1 : (t114.toList != ([48, 48, 48, 48, 48, 48, 48, 48, 48, 48, 48, 48, 48, 48, 102, 102] : List UInt8)) = false := bne_eq_false_iff_eq.mpr c9
    clear c9
    by_cases c10 : t103 = 255
    ·rw [if_pos c10] at H
     have c10b0 : (t103 == 255) = true := beq_iff_eq.mpr c10
     have c10b1 : (t103 != 255) = false := bne_eq_false_iff_eq.mpr c10
     clear c10
     obtain rfl := Option.some.inj H
     go_enter Try.func26, Try.ntmps26
     go_wp2_with (first | ((with_reducible refine gate_callee (f := 32) rfl ?_); refine goesL_ (some 4) rfl rfl Try.func32 (by kernel_rfl) rfl #[.string (⟨#[48, 48, 48, 48, 48, 48, 48, 48, 48, 48, 48, 48, 48, 48, 102, 102]⟩ : ByteArray)] rfl (by (try simp only [List.map_toArray, List.map_cons, List.map_nil]); first | done | rfl | (simp only [List.length_drop, List.length_take]; rfl)) ?_; (with_reducible refine (sum_Parse.calls k (⟨#[48, 48, 48, 48, 48, 48, 48, 48, 48, 48, 48, 48, 48, 48, 102, 102]⟩ : ByteArray) t103 t104 _ A1.out).mono ?_); rintro e w' ⟨rfl, ⟨nd, rfl⟩⟩; refine ⟨_, rfl, ?_⟩) | ((with_reducible refine gate_callee (f := 27) rfl ?_); refine goesL_ (some 7) rfl rfl Try.func27 (by kernel_rfl) rfl #[.int .i64 0, .slice none 0 0] rfl (by (try simp only [List.map_toArray, List.map_cons, List.map_nil]); first | done | rfl | (simp only [List.length_drop, List.length_take]; rfl)) ?_; (refine (sum_ID.calls k 0 _ _ ([] : List (List Int)) t105 _ ?side1 ?side2 A2.out).mono ?_); (case side1 => exact Kd.C_nil _ _); (case side2 => exact Nat.le_refl _); rintro e w' ⟨rfl, ⟨nd, rfl⟩⟩; refine ⟨_, rfl, ?_⟩) | ((with_reducible refine gate_callee (f := 31) rfl ?_); refine goesL_ (some 8) rfl rfl Try.func31 (by kernel_rfl) rfl #[.int .u64 t105] rfl (by (try simp only [List.map_toArray, List.map_cons, List.map_nil]); first | done | rfl | (simp only [List.length_drop, List.length_take]; rfl)) ?_; (with_reducible refine (sum_Hex.calls t105 t106 _ A3.out).mono ?_); rintro e w11 ⟨rfl, hb⟩; refine ⟨_, rfl, ?_⟩; have n0_ := Aside0.mk (below_step (by repeat (first | (with_reducible first | exact HB.out | apply below_alloc | apply pw_below_drewN | apply below_drew1) | exact HB.out)) hb); clear HB; have HB := n0_; clear n0_; (try clear hb); (try clear hb2); (try clear hk); (try clear hi)) | ((with_reducible refine gate_dst (N := 12) rfl ?_); (try (refine gate_guard (by rfl) ?_; dsimp only)); refine litb_goes rfl 45 5 _ rfl Try.underlying45 Try.underlying5 [49, 50, 51, 52, 53, 54, 55, 56, 57] _ _ _ rfl rfl rfl (by decide) A5.out ?_; intro v108 w12 ho0 hb; have n0_ := Aside0.mk (Kd.V_lower (Kd.V_mono (ok' := fun k_ => True) ho0 (fun k_ hk_ => trivial)) (below_size (by repeat (first | (with_reducible first | exact HB.out | apply below_alloc | apply pw_below_drewN | apply below_drew1) | exact HB.out)))); have n1_ := Aside0.mk (below_step (by repeat (first | (with_reducible first | exact HB.out | apply below_alloc | apply pw_below_drewN | apply below_drew1) | exact HB.out)) hb); clear HB; have HO109 := n0_; have HB := n1_; clear n0_ n1_; (try clear hb); (try clear hb2); (try clear hk); (try clear hi); (try clear ho0); obtain ⟨Ao13, co13, eo13⟩ := Kd.V_slice HO109.out; subst eo13) | ((with_reducible refine gate_dst (N := 13) rfl ?_); (try (refine gate_guard (by rfl) ?_; dsimp only)); refine Kd.N_lit (Kd.slice 5 (Kd.int .u8)) _ 45 ?hg (N' := 13) ?hd (xs := ([t107] : List (List Int))) (inner := [.slice Ao13 t107.length co13]) (ok := (fun _ => True)) (okp := (fun _ => True)) ?hr ?hp (fun _ hk => hk) ((show ∀ k_, w12.heap.size ≤ k_ → (fun _ => True) k_ from fun k_ hk => trivial) _ (Nat.le_refl _)) (Below.refl _ _) (Nat.le_refl _) (by simp) ?_; (case hd => rfl); (case hg => rfl); (case hr => first | (go_simp; done) | (go_simp; rfl)); (case hp => exact (Reps.one (show Kd.FK (Kd.slice 5 (Kd.int .u8)) _ _ t107 [.slice Ao13 t107.length co13] from (Kd.FK_slice_mk (Kd.V_reads' (Kd.V_mono (e := 0) (base := 0) (ok' := (fun _ => True)) (HO109.out) (fun k_ hk => trivial))).2.1 (Kd.V_F (Kd.V_mono (e := 0) (base := 0) (ok' := (fun _ => True)) (HO109.out) (fun k_ hk => trivial))))) (Reps.none _ _))); intro v111 w14 ho15 hb hg_ hnew_; clear hg_ hnew_; (first | rw [← Ny110.out] at ho15 | (simp only [Int.reduceToNat] at ho15; rw [← Ny110.out] at ho15)); have n0_ := Aside0.mk (Kd.V_elder' (by (with_reducible repeat (first | apply Kd.V_alloc | apply Kd.V_drewN | apply Kd.V_drew)); exact HO109.out) (Kd.N_base ho15) hb); have n1_ := Aside0.mk (Kd.N_lower ho15 (below_size (by repeat (first | (with_reducible first | exact HB.out | apply below_alloc | apply pw_below_drewN | apply below_drew1) | exact HB.out)))); have n2_ := Aside0.mk (below_step (by repeat (first | (with_reducible first | exact HB.out | apply below_alloc | apply pw_below_drewN | apply below_drew1) | exact HB.out)) hb); clear HO109; clear HB; have HO109 := n0_; have HO112 := n1_; have HB := n2_; clear n0_ n1_ n2_; clear hb ho15; obtain ⟨Ao16, co16, eo16⟩ := Kd.N_slice HO112.out; subst eo16) | (go_at_call 29; (with_reducible refine (sum_Check.calls _ _ y110 t113 _ ?side1 ?side2 A6.out).mono ?_); (case side1 => repeat (first | exact (Kd.N_reads' HO112.out).2.2 | (with_reducible refine Kd.C_alloc ?_ _) | (with_reducible refine Kd.C_drewN ?_ _) | (with_reducible refine Kd.C_drew ?_))); (case side2 => exact (Kd.N_reads' HO112.out).2.1); rintro e w17 ⟨rfl, hb⟩; have n0_ := Aside0.mk (Kd.V_below (by (with_reducible repeat (first | apply Kd.V_alloc | apply Kd.V_drewN | apply Kd.V_drew)); exact HO109.out) hb); have n1_ := Aside0.mk (Kd.N_below (by (with_reducible repeat (first | apply Kd.N_alloc | apply Kd.N_drewN | apply Kd.N_drew)); exact HO112.out) hb); have n2_ := Aside0.mk (below_step (by repeat (first | (with_reducible first | exact HB.out | apply below_alloc | apply pw_below_drewN | apply below_drew1) | exact HB.out)) hb); clear HO109; clear HO112; clear HB; have HO109 := n0_; have HO112 := n1_; have HB := n2_; clear n0_ n1_ n2_; (try clear hb); (try clear hb2); (try clear hk); (try clear hi)) | (go_at_call 31; (with_reducible refine (sum_Hex.calls 255 t114 _ A8.out).mono ?_); rintro e w18 ⟨rfl, hb⟩; have n0_ := Aside0.mk (Kd.V_below (by (with_reducible repeat (first | apply Kd.V_alloc | apply Kd.V_drewN | apply Kd.V_drew)); exact HO109.out) hb); have n1_ := Aside0.mk (Kd.N_below (by (with_reducible repeat (first | apply Kd.N_alloc | apply Kd.N_drewN | apply Kd.N_drew)); exact HO112.out) hb); have n2_ := Aside0.mk (below_step (by repeat (first | (with_reducible first | exact HB.out | apply below_alloc | apply pw_below_drewN | apply below_drew1) | exact HB.out)) hb); clear HO109; clear HO112; clear HB; have HO109 := n0_; have HO112 := n1_; have HB := n2_; clear n0_ n1_ n2_; (try clear hb); (try clear hb2); (try clear hk); (try clear hi)))
     go_ret
     exact ⟨by first | rfl | (simp [errW_none, errW_some] <;> rfl) | (simp [*, errW_none, errW_some] <;> rfl), by repeat (first | (with_reducible first | exact HB.out | apply below_alloc | apply pw_below_drewN | apply below_drew1) | exact HB.out)⟩
    ·rw [if_neg c10] at H
     have c10b0 : (t103 == 255) = false := beq_eq_false_iff_ne.mpr c10
     have c10b1 : (t103 != 255) = true := bne_iff_ne.mpr c10
     obtain rfl := Option.some.inj H
     go_enter Try.func26, Try.ntmps26
     go_wp2_with (first | ((with_reducible refine gate_callee (f := 32) rfl ?_); refine goesL_ (some 4) rfl rfl Try.func32 (by kernel_rfl) rfl #[.string (⟨#[48, 48, 48, 48, 48, 48, 48, 48, 48, 48, 48, 48, 48, 48, 102, 102]⟩ : ByteArray)] rfl (by (try simp only [List.map_toArray, List.map_cons, List.map_nil]); first | done | rfl | (simp only [List.length_drop, List.length_take]; rfl)) ?_; (with_reducible refine (sum_Parse.calls k (⟨#[48, 48, 48, 48, 48, 48, 48, 48, 48, 48, 48, 48, 48, 48, 102, 102]⟩ : ByteArray) t103 t104 _ A1.out).mono ?_); rintro e w' ⟨rfl, ⟨nd, rfl⟩⟩; refine ⟨_, rfl, ?_⟩) | ((with_reducible refine gate_callee (f := 27) rfl ?_); refine goesL_ (some 7) rfl rfl Try.func27 (by kernel_rfl) rfl #[.int .i64 0, .slice none 0 0] rfl (by (try simp only [List.map_toArray, List.map_cons, List.map_nil]); first | done | rfl | (simp only [List.length_drop, List.length_take]; rfl)) ?_; (refine (sum_ID.calls k 0 _ _ ([] : List (List Int)) t105 _ ?side1 ?side2 A2.out).mono ?_); (case side1 => exact Kd.C_nil _ _); (case side2 => exact Nat.le_refl _); rintro e w' ⟨rfl, ⟨nd, rfl⟩⟩; refine ⟨_, rfl, ?_⟩) | ((with_reducible refine gate_callee (f := 31) rfl ?_); refine goesL_ (some 8) rfl rfl Try.func31 (by kernel_rfl) rfl #[.int .u64 t105] rfl (by (try simp only [List.map_toArray, List.map_cons, List.map_nil]); first | done | rfl | (simp only [List.length_drop, List.length_take]; rfl)) ?_; (with_reducible refine (sum_Hex.calls t105 t106 _ A3.out).mono ?_); rintro e w19 ⟨rfl, hb⟩; refine ⟨_, rfl, ?_⟩; have n0_ := Aside0.mk (below_step (by repeat (first | (with_reducible first | exact HB.out | apply below_alloc | apply pw_below_drewN | apply below_drew1) | exact HB.out)) hb); clear HB; have HB := n0_; clear n0_; (try clear hb); (try clear hb2); (try clear hk); (try clear hi)) | ((with_reducible refine gate_dst (N := 12) rfl ?_); (try (refine gate_guard (by rfl) ?_; dsimp only)); refine litb_goes rfl 45 5 _ rfl Try.underlying45 Try.underlying5 [49, 50, 51, 52, 53, 54, 55, 56, 57] _ _ _ rfl rfl rfl (by decide) A5.out ?_; intro v108 w20 ho0 hb; have n0_ := Aside0.mk (Kd.V_lower (Kd.V_mono (ok' := fun k_ => True) ho0 (fun k_ hk_ => trivial)) (below_size (by repeat (first | (with_reducible first | exact HB.out | apply below_alloc | apply pw_below_drewN | apply below_drew1) | exact HB.out)))); have n1_ := Aside0.mk (below_step (by repeat (first | (with_reducible first | exact HB.out | apply below_alloc | apply pw_below_drewN | apply below_drew1) | exact HB.out)) hb); clear HB; have HO109 := n0_; have HB := n1_; clear n0_ n1_; (try clear hb); (try clear hb2); (try clear hk); (try clear hi); (try clear ho0); obtain ⟨Ao21, co21, eo21⟩ := Kd.V_slice HO109.out; subst eo21) | ((with_reducible refine gate_dst (N := 13) rfl ?_); (try (refine gate_guard (by rfl) ?_; dsimp only)); refine Kd.N_lit (Kd.slice 5 (Kd.int .u8)) _ 45 ?hg (N' := 13) ?hd (xs := ([t107] : List (List Int))) (inner := [.slice Ao21 t107.length co21]) (ok := (fun _ => True)) (okp := (fun _ => True)) ?hr ?hp (fun _ hk => hk) ((show ∀ k_, w20.heap.size ≤ k_ → (fun _ => True) k_ from fun k_ hk => trivial) _ (Nat.le_refl _)) (Below.refl _ _) (Nat.le_refl _) (by simp) ?_; (case hd => rfl); (case hg => rfl); (case hr => first | (go_simp; done) | (go_simp; rfl)); (case hp => exact (Reps.one (show Kd.FK (Kd.slice 5 (Kd.int .u8)) _ _ t107 [.slice Ao21 t107.length co21] from (Kd.FK_slice_mk (Kd.V_reads' (Kd.V_mono (e := 0) (base := 0) (ok' := (fun _ => True)) (HO109.out) (fun k_ hk => trivial))).2.1 (Kd.V_F (Kd.V_mono (e := 0) (base := 0) (ok' := (fun _ => True)) (HO109.out) (fun k_ hk => trivial))))) (Reps.none _ _))); intro v111 w22 ho23 hb hg_ hnew_; clear hg_ hnew_; (first | rw [← Ny110.out] at ho23 | (simp only [Int.reduceToNat] at ho23; rw [← Ny110.out] at ho23)); have n0_ := Aside0.mk (Kd.V_elder' (by (with_reducible repeat (first | apply Kd.V_alloc | apply Kd.V_drewN | apply Kd.V_drew)); exact HO109.out) (Kd.N_base ho23) hb); have n1_ := Aside0.mk (Kd.N_lower ho23 (below_size (by repeat (first | (with_reducible first | exact HB.out | apply below_alloc | apply pw_below_drewN | apply below_drew1) | exact HB.out)))); have n2_ := Aside0.mk (below_step (by repeat (first | (with_reducible first | exact HB.out | apply below_alloc | apply pw_below_drewN | apply below_drew1) | exact HB.out)) hb); clear HO109; clear HB; have HO109 := n0_; have HO112 := n1_; have HB := n2_; clear n0_ n1_ n2_; clear hb ho23; obtain ⟨Ao24, co24, eo24⟩ := Kd.N_slice HO112.out; subst eo24) | (go_at_call 29; (with_reducible refine (sum_Check.calls _ _ y110 t113 _ ?side1 ?side2 A6.out).mono ?_); (case side1 => repeat (first | exact (Kd.N_reads' HO112.out).2.2 | (with_reducible refine Kd.C_alloc ?_ _) | (with_reducible refine Kd.C_drewN ?_ _) | (with_reducible refine Kd.C_drew ?_))); (case side2 => exact (Kd.N_reads' HO112.out).2.1); rintro e w25 ⟨rfl, hb⟩; have n0_ := Aside0.mk (Kd.V_below (by (with_reducible repeat (first | apply Kd.V_alloc | apply Kd.V_drewN | apply Kd.V_drew)); exact HO109.out) hb); have n1_ := Aside0.mk (Kd.N_below (by (with_reducible repeat (first | apply Kd.N_alloc | apply Kd.N_drewN | apply Kd.N_drew)); exact HO112.out) hb); have n2_ := Aside0.mk (below_step (by repeat (first | (with_reducible first | exact HB.out | apply below_alloc | apply pw_below_drewN | apply below_drew1) | exact HB.out)) hb); clear HO109; clear HO112; clear HB; have HO109 := n0_; have HO112 := n1_; have HB := n2_; clear n0_ n1_ n2_; (try clear hb); (try clear hb2); (try clear hk); (try clear hi)) | (go_at_call 31; (with_reducible refine (sum_Hex.calls 255 t114 _ A8.out).mono ?_); rintro e w26 ⟨rfl, hb⟩; have n0_ := Aside0.mk (Kd.V_below (by (with_reducible repeat (first | apply Kd.V_alloc | apply Kd.V_drewN | apply Kd.V_drew)); exact HO109.out) hb); have n1_ := Aside0.mk (Kd.N_below (by (with_reducible repeat (first | apply Kd.N_alloc | apply Kd.N_drewN | apply Kd.N_drew)); exact HO112.out) hb); have n2_ := Aside0.mk (below_step (by repeat (first | (with_reducible first | exact HB.out | apply below_alloc | apply pw_below_drewN | apply below_drew1) | exact HB.out)) hb); clear HO109; clear HO112; clear HB; have HO109 := n0_; have HO112 := n1_; have HB := n2_; clear n0_ n1_ n2_; (try clear hb); (try clear hb2); (try clear hk); (try clear hi)))
     go_ret
     exact ⟨by first | rfl | (simp [errW_none, errW_some] <;> rfl) | (simp [*, errW_none, errW_some] <;> rfl), by repeat (first | (with_reducible first | exact HB.out | apply below_alloc | apply pw_below_drewN | apply below_drew1) | exact HB.out)⟩
   ·rw [if_neg c9] at H
    have c9b0 : (t114.toList == ([48, 48, 48, 48, 48, 48, 48, 48, 48, 48, 48, 48, 48, 48, 102, 102] : List UInt8)) = false := beq_eq_false_iff_ne.mpr c9
    have c9b1 : (t114.toList != ([48, 48, 48, 48, 48, 48, 48, 48, 48, 48, 48, 48, 48, 48, 102, 102] : List UInt8)) = true := bne_iff_ne.mpr c9
    obtain rfl := Option.some.inj H
    go_enter Try.func26, Try.ntmps26
    go_wp2_with (first | ((with_reducible refine gate_callee (f := 32) rfl ?_); refine goesL_ (some 4) rfl rfl Try.func32 (by kernel_rfl) rfl #[.string (⟨#[48, 48, 48, 48, 48, 48, 48, 48, 48, 48, 48, 48, 48, 48, 102, 102]⟩ : ByteArray)] rfl (by (try simp only [List.map_toArray, List.map_cons, List.map_nil]); first | done | rfl | (simp only [List.length_drop, List.length_take]; rfl)) ?_; (with_reducible refine (sum_Parse.calls k (⟨#[48, 48, 48, 48, 48, 48, 48, 48, 48, 48, 48, 48, 48, 48, 102, 102]⟩ : ByteArray) t103 t104 _ A1.out).mono ?_); rintro e w' ⟨rfl, ⟨nd, rfl⟩⟩; refine ⟨_, rfl, ?_⟩) | ((with_reducible refine gate_callee (f := 27) rfl ?_); refine goesL_ (some 7) rfl rfl Try.func27 (by kernel_rfl) rfl #[.int .i64 0, .slice none 0 0] rfl (by (try simp only [List.map_toArray, List.map_cons, List.map_nil]); first | done | rfl | (simp only [List.length_drop, List.length_take]; rfl)) ?_; (refine (sum_ID.calls k 0 _ _ ([] : List (List Int)) t105 _ ?side1 ?side2 A2.out).mono ?_); (case side1 => exact Kd.C_nil _ _); (case side2 => exact Nat.le_refl _); rintro e w' ⟨rfl, ⟨nd, rfl⟩⟩; refine ⟨_, rfl, ?_⟩) | ((with_reducible refine gate_callee (f := 31) rfl ?_); refine goesL_ (some 8) rfl rfl Try.func31 (by kernel_rfl) rfl #[.int .u64 t105] rfl (by (try simp only [List.map_toArray, List.map_cons, List.map_nil]); first | done | rfl | (simp only [List.length_drop, List.length_take]; rfl)) ?_; (with_reducible refine (sum_Hex.calls t105 t106 _ A3.out).mono ?_); rintro e w27 ⟨rfl, hb⟩; refine ⟨_, rfl, ?_⟩; have n0_ := Aside0.mk (below_step (by repeat (first | (with_reducible first | exact HB.out | apply below_alloc | apply pw_below_drewN | apply below_drew1) | exact HB.out)) hb); clear HB; have HB := n0_; clear n0_; (try clear hb); (try clear hb2); (try clear hk); (try clear hi)) | ((with_reducible refine gate_dst (N := 12) rfl ?_); (try (refine gate_guard (by rfl) ?_; dsimp only)); refine litb_goes rfl 45 5 _ rfl Try.underlying45 Try.underlying5 [49, 50, 51, 52, 53, 54, 55, 56, 57] _ _ _ rfl rfl rfl (by decide) A5.out ?_; intro v108 w28 ho0 hb; have n0_ := Aside0.mk (Kd.V_lower (Kd.V_mono (ok' := fun k_ => True) ho0 (fun k_ hk_ => trivial)) (below_size (by repeat (first | (with_reducible first | exact HB.out | apply below_alloc | apply pw_below_drewN | apply below_drew1) | exact HB.out)))); have n1_ := Aside0.mk (below_step (by repeat (first | (with_reducible first | exact HB.out | apply below_alloc | apply pw_below_drewN | apply below_drew1) | exact HB.out)) hb); clear HB; have HO109 := n0_; have HB := n1_; clear n0_ n1_; (try clear hb); (try clear hb2); (try clear hk); (try clear hi); (try clear ho0); obtain ⟨Ao29, co29, eo29⟩ := Kd.V_slice HO109.out; subst eo29) | ((with_reducible refine gate_dst (N := 13) rfl ?_); (try (refine gate_guard (by rfl) ?_; dsimp only)); refine Kd.N_lit (Kd.slice 5 (Kd.int .u8)) _ 45 ?hg (N' := 13) ?hd (xs := ([t107] : List (List Int))) (inner := [.slice Ao29 t107.length co29]) (ok := (fun _ => True)) (okp := (fun _ => True)) ?hr ?hp (fun _ hk => hk) ((show ∀ k_, w28.heap.size ≤ k_ → (fun _ => True) k_ from fun k_ hk => trivial) _ (Nat.le_refl _)) (Below.refl _ _) (Nat.le_refl _) (by simp) ?_; (case hd => rfl); (case hg => rfl); (case hr => first | (go_simp; done) | (go_simp; rfl)); (case hp => exact (Reps.one (show Kd.FK (Kd.slice 5 (Kd.int .u8)) _ _ t107 [.slice Ao29 t107.length co29] from (Kd.FK_slice_mk (Kd.V_reads' (Kd.V_mono (e := 0) (base := 0) (ok' := (fun _ => True)) (HO109.out) (fun k_ hk => trivial))).2.1 (Kd.V_F (Kd.V_mono (e := 0) (base := 0) (ok' := (fun _ => True)) (HO109.out) (fun k_ hk => trivial))))) (Reps.none _ _))); intro v111 w30 ho31 hb hg_ hnew_; clear hg_ hnew_; (first | rw [← Ny110.out] at ho31 | (simp only [Int.reduceToNat] at ho31; rw [← Ny110.out] at ho31)); have n0_ := Aside0.mk (Kd.V_elder' (by (with_reducible repeat (first | apply Kd.V_alloc | apply Kd.V_drewN | apply Kd.V_drew)); exact HO109.out) (Kd.N_base ho31) hb); have n1_ := Aside0.mk (Kd.N_lower ho31 (below_size (by repeat (first | (with_reducible first | exact HB.out | apply below_alloc | apply pw_below_drewN | apply below_drew1) | exact HB.out)))); have n2_ := Aside0.mk (below_step (by repeat (first | (with_reducible first | exact HB.out | apply below_alloc | apply pw_below_drewN | apply below_drew1) | exact HB.out)) hb); clear HO109; clear HB; have HO109 := n0_; have HO112 := n1_; have HB := n2_; clear n0_ n1_ n2_; clear hb ho31; obtain ⟨Ao32, co32, eo32⟩ := Kd.N_slice HO112.out; subst eo32) | (go_at_call 29; (with_reducible refine (sum_Check.calls _ _ y110 t113 _ ?side1 ?side2 A6.out).mono ?_); (case side1 => repeat (first | exact (Kd.N_reads' HO112.out).2.2 | (with_reducible refine Kd.C_alloc ?_ _) | (with_reducible refine Kd.C_drewN ?_ _) | (with_reducible refine Kd.C_drew ?_))); (case side2 => exact (Kd.N_reads' HO112.out).2.1); rintro e w33 ⟨rfl, hb⟩; have n0_ := Aside0.mk (Kd.V_below (by (with_reducible repeat (first | apply Kd.V_alloc | apply Kd.V_drewN | apply Kd.V_drew)); exact HO109.out) hb); have n1_ := Aside0.mk (Kd.N_below (by (with_reducible repeat (first | apply Kd.N_alloc | apply Kd.N_drewN | apply Kd.N_drew)); exact HO112.out) hb); have n2_ := Aside0.mk (below_step (by repeat (first | (with_reducible first | exact HB.out | apply below_alloc | apply pw_below_drewN | apply below_drew1) | exact HB.out)) hb); clear HO109; clear HO112; clear HB; have HO109 := n0_; have HO112 := n1_; have HB := n2_; clear n0_ n1_ n2_; (try clear hb); (try clear hb2); (try clear hk); (try clear hi)) | (go_at_call 31; (with_reducible refine (sum_Hex.calls 255 t114 _ A8.out).mono ?_); rintro e w34 ⟨rfl, hb⟩; have n0_ := Aside0.mk (Kd.V_below (by (with_reducible repeat (first | apply Kd.V_alloc | apply Kd.V_drewN | apply Kd.V_drew)); exact HO109.out) hb); have n1_ := Aside0.mk (Kd.N_below (by (with_reducible repeat (first | apply Kd.N_alloc | apply Kd.N_drewN | apply Kd.N_drew)); exact HO112.out) hb); have n2_ := Aside0.mk (below_step (by repeat (first | (with_reducible first | exact HB.out | apply below_alloc | apply pw_below_drewN | apply below_drew1) | exact HB.out)) hb); clear HO109; clear HO112; clear HB; have HO109 := n0_; have HO112 := n1_; have HB := n2_; clear n0_ n1_ n2_; (try clear hb); (try clear hb2); (try clear hk); (try clear hi)))
    go_ret
    exact ⟨by first | rfl | (simp [errW_none, errW_some] <;> rfl) | (simp [*, errW_none, errW_some] <;> rfl), by repeat (first | (with_reducible first | exact HB.out | apply below_alloc | apply pw_below_drewN | apply below_drew1) | exact HB.out)⟩
  ·rw [if_neg c7] at H
   have c7b0 : (t113 == 3421780262) = false := beq_eq_false_iff_ne.mpr c7
   have c7b1 : (t113 != 3421780262) = true := bne_iff_ne.mpr c7
   obtain rfl := Option.some.inj H
   go_enter Try.func26, Try.ntmps26
   go_wp2_with (first | ((with_reducible refine gate_callee (f := 32) rfl ?_); refine goesL_ (some 4) rfl rfl Try.func32 (by kernel_rfl) rfl #[.string (⟨#[48, 48, 48, 48, 48, 48, 48, 48, 48, 48, 48, 48, 48, 48, 102, 102]⟩ : ByteArray)] rfl (by (try simp only [List.map_toArray, List.map_cons, List.map_nil]); first | done | rfl | (simp only [List.length_drop, List.length_take]; rfl)) ?_; (with_reducible refine (sum_Parse.calls k (⟨#[48, 48, 48, 48, 48, 48, 48, 48, 48, 48, 48, 48, 48, 48, 102, 102]⟩ : ByteArray) t103 t104 _ A1.out).mono ?_); rintro e w' ⟨rfl, ⟨nd, rfl⟩⟩; refine ⟨_, rfl, ?_⟩) | ((with_reducible refine gate_callee (f := 27) rfl ?_); refine goesL_ (some 7) rfl rfl Try.func27 (by kernel_rfl) rfl #[.int .i64 0, .slice none 0 0] rfl (by (try simp only [List.map_toArray, List.map_cons, List.map_nil]); first | done | rfl | (simp only [List.length_drop, List.length_take]; rfl)) ?_; (refine (sum_ID.calls k 0 _ _ ([] : List (List Int)) t105 _ ?side1 ?side2 A2.out).mono ?_); (case side1 => exact Kd.C_nil _ _); (case side2 => exact Nat.le_refl _); rintro e w' ⟨rfl, ⟨nd, rfl⟩⟩; refine ⟨_, rfl, ?_⟩) | ((with_reducible refine gate_callee (f := 31) rfl ?_); refine goesL_ (some 8) rfl rfl Try.func31 (by kernel_rfl) rfl #[.int .u64 t105] rfl (by (try simp only [List.map_toArray, List.map_cons, List.map_nil]); first | done | rfl | (simp only [List.length_drop, List.length_take]; rfl)) ?_; (with_reducible refine (sum_Hex.calls t105 t106 _ A3.out).mono ?_); rintro e w35 ⟨rfl, hb⟩; refine ⟨_, rfl, ?_⟩; have n0_ := Aside0.mk (below_step (by repeat (first | (with_reducible first | exact HB.out | apply below_alloc | apply pw_below_drewN | apply below_drew1) | exact HB.out)) hb); clear HB; have HB := n0_; clear n0_; (try clear hb); (try clear hb2); (try clear hk); (try clear hi)) | ((with_reducible refine gate_dst (N := 12) rfl ?_); (try (refine gate_guard (by rfl) ?_; dsimp only)); refine litb_goes rfl 45 5 _ rfl Try.underlying45 Try.underlying5 [49, 50, 51, 52, 53, 54, 55, 56, 57] _ _ _ rfl rfl rfl (by decide) A5.out ?_; intro v108 w36 ho0 hb; have n0_ := Aside0.mk (Kd.V_lower (Kd.V_mono (ok' := fun k_ => True) ho0 (fun k_ hk_ => trivial)) (below_size (by repeat (first | (with_reducible first | exact HB.out | apply below_alloc | apply pw_below_drewN | apply below_drew1) | exact HB.out)))); have n1_ := Aside0.mk (below_step (by repeat (first | (with_reducible first | exact HB.out | apply below_alloc | apply pw_below_drewN | apply below_drew1) | exact HB.out)) hb); clear HB; have HO109 := n0_; have HB := n1_; clear n0_ n1_; (try clear hb); (try clear hb2); (try clear hk); (try clear hi); (try clear ho0); obtain ⟨Ao37, co37, eo37⟩ := Kd.V_slice HO109.out; subst eo37) | ((with_reducible refine gate_dst (N := 13) rfl ?_); (try (refine gate_guard (by rfl) ?_; dsimp only)); refine Kd.N_lit (Kd.slice 5 (Kd.int .u8)) _ 45 ?hg (N' := 13) ?hd (xs := ([t107] : List (List Int))) (inner := [.slice Ao37 t107.length co37]) (ok := (fun _ => True)) (okp := (fun _ => True)) ?hr ?hp (fun _ hk => hk) ((show ∀ k_, w36.heap.size ≤ k_ → (fun _ => True) k_ from fun k_ hk => trivial) _ (Nat.le_refl _)) (Below.refl _ _) (Nat.le_refl _) (by simp) ?_; (case hd => rfl); (case hg => rfl); (case hr => first | (go_simp; done) | (go_simp; rfl)); (case hp => exact (Reps.one (show Kd.FK (Kd.slice 5 (Kd.int .u8)) _ _ t107 [.slice Ao37 t107.length co37] from (Kd.FK_slice_mk (Kd.V_reads' (Kd.V_mono (e := 0) (base := 0) (ok' := (fun _ => True)) (HO109.out) (fun k_ hk => trivial))).2.1 (Kd.V_F (Kd.V_mono (e := 0) (base := 0) (ok' := (fun _ => True)) (HO109.out) (fun k_ hk => trivial))))) (Reps.none _ _))); intro v111 w38 ho39 hb hg_ hnew_; clear hg_ hnew_; (first | rw [← Ny110.out] at ho39 | (simp only [Int.reduceToNat] at ho39; rw [← Ny110.out] at ho39)); have n0_ := Aside0.mk (Kd.V_elder' (by (with_reducible repeat (first | apply Kd.V_alloc | apply Kd.V_drewN | apply Kd.V_drew)); exact HO109.out) (Kd.N_base ho39) hb); have n1_ := Aside0.mk (Kd.N_lower ho39 (below_size (by repeat (first | (with_reducible first | exact HB.out | apply below_alloc | apply pw_below_drewN | apply below_drew1) | exact HB.out)))); have n2_ := Aside0.mk (below_step (by repeat (first | (with_reducible first | exact HB.out | apply below_alloc | apply pw_below_drewN | apply below_drew1) | exact HB.out)) hb); clear HO109; clear HB; have HO109 := n0_; have HO112 := n1_; have HB := n2_; clear n0_ n1_ n2_; clear hb ho39; obtain ⟨Ao40, co40, eo40⟩ := Kd.N_slice HO112.out; subst eo40) | (go_at_call 29; (with_reducible refine (sum_Check.calls _ _ y110 t113 _ ?side1 ?side2 A6.out).mono ?_); (case side1 => repeat (first | exact (Kd.N_reads' HO112.out).2.2 | (with_reducible refine Kd.C_alloc ?_ _) | (with_reducible refine Kd.C_drewN ?_ _) | (with_reducible refine Kd.C_drew ?_))); (case side2 => exact (Kd.N_reads' HO112.out).2.1); rintro e w41 ⟨rfl, hb⟩; have n0_ := Aside0.mk (Kd.V_below (by (with_reducible repeat (first | apply Kd.V_alloc | apply Kd.V_drewN | apply Kd.V_drew)); exact HO109.out) hb); have n1_ := Aside0.mk (Kd.N_below (by (with_reducible repeat (first | apply Kd.N_alloc | apply Kd.N_drewN | apply Kd.N_drew)); exact HO112.out) hb); have n2_ := Aside0.mk (below_step (by repeat (first | (with_reducible first | exact HB.out | apply below_alloc | apply pw_below_drewN | apply below_drew1) | exact HB.out)) hb); clear HO109; clear HO112; clear HB; have HO109 := n0_; have HO112 := n1_; have HB := n2_; clear n0_ n1_ n2_; (try clear hb); (try clear hb2); (try clear hk); (try clear hi)))
   go_ret
   exact ⟨by first | rfl | (simp [errW_none, errW_some] <;> rfl) | (simp [*, errW_none, errW_some] <;> rfl), by repeat (first | (with_reducible first | exact HB.out | apply below_alloc | apply pw_below_drewN | apply below_drew1) | exact HB.out)⟩
 ·rw [if_neg c4] at H
  have c4b0 : (t106.toList == ([97, 102, 54, 51, 98, 100, 52, 99, 56, 54, 48, 49, 98, 55, 100, 102] : List UInt8)) = false := beq_eq_false_iff_ne.mpr c4
  have c4b1 : (t106.toList != ([97, 102, 54, 51, 98, 100, 52, 99, 56, 54, 48, 49, 98, 55, 100, 102] : List UInt8)) = true := bne_iff_ne.mpr c4
  obtain rfl := Option.some.inj H
  go_enter Try.func26, Try.ntmps26
  go_wp2_with (first | ((with_reducible refine gate_callee (f := 32) rfl ?_); refine goesL_ (some 4) rfl rfl Try.func32 (by kernel_rfl) rfl #[.string (⟨#[48, 48, 48, 48, 48, 48, 48, 48, 48, 48, 48, 48, 48, 48, 102, 102]⟩ : ByteArray)] rfl (by (try simp only [List.map_toArray, List.map_cons, List.map_nil]); first | done | rfl | (simp only [List.length_drop, List.length_take]; rfl)) ?_; (with_reducible refine (sum_Parse.calls k (⟨#[48, 48, 48, 48, 48, 48, 48, 48, 48, 48, 48, 48, 48, 48, 102, 102]⟩ : ByteArray) t103 t104 _ A1.out).mono ?_); rintro e w' ⟨rfl, ⟨nd, rfl⟩⟩; refine ⟨_, rfl, ?_⟩) | ((with_reducible refine gate_callee (f := 27) rfl ?_); refine goesL_ (some 7) rfl rfl Try.func27 (by kernel_rfl) rfl #[.int .i64 0, .slice none 0 0] rfl (by (try simp only [List.map_toArray, List.map_cons, List.map_nil]); first | done | rfl | (simp only [List.length_drop, List.length_take]; rfl)) ?_; (refine (sum_ID.calls k 0 _ _ ([] : List (List Int)) t105 _ ?side1 ?side2 A2.out).mono ?_); (case side1 => exact Kd.C_nil _ _); (case side2 => exact Nat.le_refl _); rintro e w' ⟨rfl, ⟨nd, rfl⟩⟩; refine ⟨_, rfl, ?_⟩) | ((with_reducible refine gate_callee (f := 31) rfl ?_); refine goesL_ (some 8) rfl rfl Try.func31 (by kernel_rfl) rfl #[.int .u64 t105] rfl (by (try simp only [List.map_toArray, List.map_cons, List.map_nil]); first | done | rfl | (simp only [List.length_drop, List.length_take]; rfl)) ?_; (with_reducible refine (sum_Hex.calls t105 t106 _ A3.out).mono ?_); rintro e w42 ⟨rfl, hb⟩; refine ⟨_, rfl, ?_⟩; have n0_ := Aside0.mk (below_step (by repeat (first | (with_reducible first | exact HB.out | apply below_alloc | apply pw_below_drewN | apply below_drew1) | exact HB.out)) hb); clear HB; have HB := n0_; clear n0_; (try clear hb); (try clear hb2); (try clear hk); (try clear hi)))
  go_ret
  exact ⟨by first | rfl | (simp [errW_none, errW_some] <;> rfl) | (simp [*, errW_none, errW_some] <;> rfl), by repeat (first | (with_reducible first | exact HB.out | apply below_alloc | apply pw_below_drewN | apply below_drew1) | exact HB.out)⟩

/-! ### forebearref01_ID: function 28 -/
def forebearref01_ID.l0 : Nat → List Int → Int → Int → Option (Int)
 | 0, _, _, _ => none
 | k + 1, x1, x5, x6 => if x6 < (x1.length : Int) then (if 0 ≤ x6 then (forebearref01_ID.l0 k x1 (IntKind.u64.wrap ((Go.bits .xor .u64 x5 (IntKind.u64.wrap (rd x1 x6))) * 1099511628211)) (wrap64 (x6 + 1))) else (none)) else (some x5)
def forebearref01_ID.f (k : Nat) (a0 : Int) (l1 : List Int) : Option (Int) := forebearref01_ID.l0 k l1 (IntKind.u64.wrap ((Go.bits .xor .u64 14695981039346656037 (IntKind.u64.wrap (Go.bits .and .i64 a0 255))) * 1099511628211)) 0
theorem forebearref01_ID.mono_l : ∀ k, (∀ y0 y1 y2, LeO (forebearref01_ID.l0 k y0 y1 y2) (forebearref01_ID.l0 (k + 1) y0 y1 y2))
 | 0 => fun _ _ _ r h => by simp [forebearref01_ID.l0] at h
 | k + 1 => by
  have ih0 := forebearref01_ID.mono_l k
  ·intro y0 y1 y2
   unfold forebearref01_ID.l0
   repeat' first
   | (with_reducible exact ih0 _ _ _)
   | (with_reducible exact LeO.refl _)
   | (with_reducible exact LeO.none _)
   | (with_reducible refine LeO.ite ?_ ?_)
   | (with_reducible refine LeO.bind ?_ (fun _ => ?_))
   | exact ih0 _ _ _
   | exact LeO.none _
   | refine LeO.ite ?_ ?_
   | refine LeO.bind ?_ (fun _ => ?_)
theorem forebearref01_ID.mono : ∀ a0 a1 k, LeO (forebearref01_ID.f k a0 a1) (forebearref01_ID.f (k + 1) a0 a1) := by
 intro a0 a1 k
 have ih0 := forebearref01_ID.mono_l k
 unfold forebearref01_ID.f
 repeat' first
   | (with_reducible exact ih0 _ _ _)
   | (with_reducible exact LeO.refl _)
   | (with_reducible exact LeO.none _)
   | (with_reducible refine LeO.ite ?_ ?_)
   | (with_reducible refine LeO.bind ?_ (fun _ => ?_))
   | exact ih0 _ _ _
   | exact LeO.none _
   | refine LeO.ite ?_ ?_
   | refine LeO.bind ?_ (fun _ => ?_)
set_option maxHeartbeats 8000000 in
set_option maxRecDepth 100000 in
theorem forebearref01_ID.calls (k : Nat) (a0 : Int) (A1 : Option Addr) (c1 : Nat) (l1 : List Int) (r : Int) (w : World) (hr1 : Kd.C (Kd.int .u8) w A1 l1.length l1) (hc1 : l1.length ≤ c1) (h : forebearref01_ID.f k a0 l1 = some r) :
  Calls Try.prog 28 #[.int .i64 a0, .slice A1 l1.length c1] w fun e w' => e = .returned (.int .u64 r) ∧ Drawn0 w w' := by
 have HR1 := Aside0.mk hr1
 have HC1 := Aside0.mk hc1
 clear hr1 hc1
 have H : (forebearref01_ID.l0 k l1 (IntKind.u64.wrap ((Go.bits .xor .u64 14695981039346656037 (IntKind.u64.wrap (Go.bits .and .i64 a0 255))) * 1099511628211)) 0) = some r := h
 clear h
 have H' := Aside0.mk H
 clear H
 go_enter Try.func28, Try.ntmps28
 go_wp2
 go_loopg [5, 6] k (fun kq v5 v6 w' => ∃ (x5_1 : Int) (x6_1 : Int), v5 = .int .u64 x5_1 ∧ v6 = .int .i64 x6_1 ∧ Aside0 (forebearref01_ID.l0 kq l1 x5_1 x6_1 = some r) ∧ Aside0 (kq ≤ k) ∧ Drawn0 w w')
 case atStart => exact ⟨(IntKind.u64.wrap ((Go.bits .xor .u64 14695981039346656037 (IntKind.u64.wrap (Go.bits .and .i64 a0 255))) * 1099511628211)), (0), (by first | rfl | (simp; done) | (simp [*]; done)), (by first | rfl | (simp; done) | (simp [*]; done)), H', ⟨Nat.le_refl _⟩, by repeat (first | exact Drawn0.refl _ | apply Drawn0.step)⟩
 case round =>
  clear H'
  try clear c1
  try clear c2
  try clear p2
  obtain ⟨x5_1, x6_1, rfl, rfl, HA, HK1, ⟨m1, rfl⟩⟩ := hrel
  cases gk with
  | zero => exact absurd HA.out (by simp [forebearref01_ID.l0])
  | succ k1 =>
   have H := HA.out
   clear HA
   simp only [forebearref01_ID.l0] at H
   by_cases c3 : x6_1 < (l1.length : Int)
   ·rw [if_pos c3] at H
    have c3b0 : decide (x6_1 < (l1.length : Int)) = true := decide_eq_true c3
    clear c3
    by_cases c4 : 0 ≤ x6_1
    ·rw [if_pos c4] at H
     have c4b0 : decide (0 ≤ x6_1) = true := decide_eq_true c4
     clear c4
     have H' := Aside0.mk H
     clear H
     have p115 : 0 ≤ (x6_1 : Int) := of_decide_eq_true (by first | (with_reducible assumption) | assumption)
     have q115 : x6_1 < (l1.length : Int) := of_decide_eq_true (by first | (with_reducible assumption) | assumption)
     obtain ⟨ad115, e115, hx115_0⟩ := Kd.at_int HR1.out x6_1 p115 q115
     cases e115
     replace p115 := eq_true p115
     replace q115 := eq_true q115
     go_wp2
     go_roundg k1
     case measure => have := HK1.out; omega
     case rel => exact ⟨(IntKind.u64.wrap ((Go.bits .xor .u64 x5_1 (IntKind.u64.wrap (rd l1 x6_1))) * 1099511628211)), (wrap64 (x6_1 + 1)), (by first | rfl | (simp; done) | (simp [*]; done)), (by first | rfl | (simp; done) | (simp [*]; done)), H', ⟨by have := HK1.out; omega⟩, by repeat (first | exact Drawn0.refl _ | apply Drawn0.step)⟩
    ·rw [if_neg c4] at H
     exact absurd H (by simp)
   ·rw [if_neg c3] at H
    have c3b0 : decide (x6_1 < (l1.length : Int)) = false := decide_eq_false c3
    clear c3
    obtain rfl := Option.some.inj H
    go_wp2
    go_ret
    exact ⟨by first | rfl | (simp; done) | (simp [*]; done), by repeat (first | exact Drawn0.refl _ | apply Drawn0.step)⟩

end Go.Proofs.Ytgmlhcjcaebfgaa.MA

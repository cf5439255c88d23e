/- Laid by this claim's own program (myprint) out of the translation: functions that the laws of the group D reach, each as a plain function, with the proof that the Go code comes to it. No condition. -/
import Derived.Test.YthigjlahanejjaaMDx0
namespace Go.Proofs.Ythigjlahanejjaa.MD
open Go.Proofs.Ythigjlahanejjaa.Opening
open Go.RowKit Go.Proofs.YthigjlahanejjaaW.PrintWords Go.Proofs.YthigjlahanejjaaW.PrintLast Go.Proofs.YthigjlahanejjaaW.PrintMore
attribute [local go_sem] max2_int min2_int max_two min_two max_three min_three max_four min_four   -- for this text's walks alone
set_option linter.unusedVariables false
set_option linter.unusedSimpArgs false

/-! ### diff_lengths: function 36 -/
set_option linter.unusedVariables false
set_option linter.unusedSimpArgs false
/-- A row of the table, from its end. -/
def lenRow (x : ByteArray) : List ByteArray → List Int → List Int
  | [], _ => [0]
  | y :: ys, below => (if x.toList = y.toList then IntKind.i16.wrap (below.tail.headD 0 + 1) else mx (below.headD 0) ((lenRow x ys below.tail).headD 0)) :: lenRow x ys below.tail
def lenTab : List ByteArray → List ByteArray → List (List Int)
  | [], b => [List.replicate (b.length + 1) 0]
  | x :: xs, b => lenRow x b ((lenTab xs b).headD []) :: lenTab xs b
theorem lenRow_len (x : ByteArray) : ∀ (b : List ByteArray) (r : List Int), (lenRow x b r).length = b.length + 1
  | [], _ => rfl
  | y :: ys, r => by simp [lenRow, lenRow_len x ys]
theorem lenTab_len : ∀ (a b : List ByteArray), (lenTab a b).length = a.length + 1
  | [], _ => rfl
  | x :: xs, b => by simp [lenTab, lenTab_len xs b]
theorem lenTab_row : ∀ (a b : List ByteArray), ∀ r ∈ lenTab a b, r.length = b.length + 1
  | [], b, r, h => by simp [lenTab] at h; subst h; simp
  | x :: xs, b, r, h => by
    simp only [lenTab, List.mem_cons] at h
    rcases h with rfl | h
    · exact lenRow_len _ _ _
    · exact lenTab_row xs b r h
def diff_lengths.f (l0 : List ByteArray) (l1 : List ByteArray) : Option (List (List Int)) := if l0.length < 1000000 then (if l1.length < 1000000 then some (lenTab l0 l1) else none) else none
set_option maxHeartbeats 8000000 in
set_option maxRecDepth 100000 in
theorem diff_lengths.calls (A0 : Option Addr) (c0 : Nat) (l0 : List ByteArray) (A1 : Option Addr) (c1 : Nat) (l1 : List ByteArray) (r : List (List Int)) (w : World) (hr0 : Kd.C Kd.string w A0 l0.length l0) (hc0 : l0.length ≤ c0) (hr1 : Kd.C Kd.string w A1 l1.length l1) (hc1 : l1.length ≤ c1) (h : diff_lengths.f l0 l1 = some r) :
    Calls Try.prog 36 #[.slice A0 l0.length c0, .slice A1 l1.length c1] w fun e w' => ∃ v0_ : Value, e = .returned (v0_) ∧ Kd.S (Kd.slice 93 (Kd.int .i16)) 94 w' w.heap.size (fun _ => True) v0_ r ∧ Below w.heap.size w w' := by
  unfold diff_lengths.f at h
  split at h
  case isFalse => cases h
  rename_i hl0
  split at h
  case isFalse => cases h
  rename_i hl1
  obtain rfl := Option.some.inj h
  clear h
  have HR0 := Aside0.mk hr0
  have HR1 := Aside0.mk hr1
  clear hr0 hr1 hc0 hc1
  have hmk1 : ∀ W : World, (Instr.makeSlice 91 (.int .i64 ((l0.length : Int) + 1)) (.int .i64 ((l0.length : Int) + 1))).run Try.prog W = .ok (.slice (some ⟨W.heap.size, 0, none⟩) (l0.length + 1) (l0.length + 1)) (W.alloc (.cells (madeCells #[.slice none 0 0] (l0.length + 1)) 94)) := by
    intro W
    exact run_make_row' 91 94 (.slice none 0 0) 24 Try.underlying91 (by kernel_rfl) rfl .i64 .i64 (l0.length + 1) (by omega) (by omega) W
  have hmk2 : ∀ W : World, (Instr.makeSlice 94 (.int .i64 ((l1.length : Int) + 1)) (.int .i64 ((l1.length : Int) + 1))).run Try.prog W = .ok (.slice (some ⟨W.heap.size, 0, none⟩) (l1.length + 1) (l1.length + 1)) (W.alloc (.cells (madeCells #[.int .i16 0] (l1.length + 1)) 93)) := by
    intro W
    exact run_make_row' 94 93 (.int .i16 0) 2 Try.underlying94 (by kernel_rfl) rfl .i64 .i64 (l1.length + 1) (by omega) (by omega) W
  have hcells : madeCells #[Value.int .i16 0] (l1.length + 1) = (nums .i16 (List.replicate (l1.length + 1) 0)).toArray := by
    apply Array.ext'
    rw [List.toList_toArray]
    apply List.ext_getElem
    · simp [madeCells, nums]
    · intro i h1 h2
      simp [madeCells, Nat.mod_one, nums]
  rw [hcells] at hmk2
  clear hcells
  have hmc : (madeCells #[Value.slice none 0 0] (l0.length + 1))[l0.length]? = some (.slice none 0 0) := by
    simp [madeCells, Nat.mod_one]
  have HZ0 := Aside0.mk hl0
  have HZ1 := Aside0.mk hl1
  go_enter Try.func36, Try.ntmps36
  go_wp2
  go_loopw [6] (fun v6 wr => ∃ (i : Int) (j : Nat) (gs : List (Option Nat)), v6 = .int .i64 i ∧ j ≤ l0.length ∧ Aside0 (i = (j : Int) - 1) ∧ Aside0 (Tab .i16 94 93 wr w.heap.size w.heap.size (List.replicate j [] ++ lenTab (l0.drop j) l1) (List.replicate j none ++ gs)) ∧ Aside0 (∀ g ∈ gs, g ≠ none) ∧ Aside0 (Below w.heap.size w wr)) (fun v6 wr => (intOf v6 + 1).toNat)
  case atStart =>
    refine ⟨_, l0.length, [some (w.heap.size + 1)], rfl, Nat.le_refl _, ⟨rfl⟩, ⟨?_⟩, ⟨by simp⟩, ⟨?_⟩⟩
    · have h1 := (Tab.made w .i16 94 93 w.heap.size (l0.length + 1) (Nat.le_refl _)).alloc (.cells (nums .i16 (List.replicate (l1.length + 1) 0)).toArray 93)
      have h2 := h1.put l0.length (by simp) (g := w.heap.size + 1) (r := List.replicate (l1.length + 1) 0) (by simpa using heap_alloc_new (w.alloc (.cells (madeCells #[.slice none 0 0] (l0.length + 1)) 94)) _) (by omega) (by omega) (by simp)
      have e1 : (List.replicate (l0.length + 1) ([] : List Int)).set l0.length (List.replicate (l1.length + 1) 0) = List.replicate l0.length [] ++ lenTab (l0.drop l0.length) l1 := by
        rw [List.drop_length, List.replicate_succ']
        simp [lenTab]
      have e2 : (List.replicate (l0.length + 1) (none : Option Nat)).set l0.length (some (w.heap.size + 1)) = List.replicate l0.length none ++ [some (w.heap.size + 1)] := by
        rw [List.replicate_succ']; simp
      rw [e1, e2] at h2
      rw [List.length_replicate] at h2
      have e3 : ((w.alloc (.cells (madeCells #[.slice none 0 0] (l0.length + 1)) 94)).alloc (.cells (nums .i16 (List.replicate (l1.length + 1) 0)).toArray 93)).setCell ⟨w.heap.size, l0.length, none⟩ (.slice (some ⟨w.heap.size + 1, 0, none⟩) (l1.length + 1) (l1.length + 1)) =
          (w.alloc (.cells ((madeCells #[.slice none 0 0] (l0.length + 1)).setIfInBounds l0.length (.slice (some ⟨w.heap.size + 1, 0, none⟩) (l1.length + 1) (l1.length + 1))) 94)).alloc (.cells (nums .i16 (List.replicate (l1.length + 1) 0)).toArray 93) := by
        first | (go_simp; done) | simp
      rw [← e3]
      exact h2
    · exact below_alloc (below_alloc (Below.refl _ _) _) _
  case round =>
    obtain ⟨i, j, gs, rfl, hj, HI, HT, HG, HB⟩ := hrel
    cases j with
    | zero =>
      have hi : i = -1 := by have := HI.out; simpa using this
      subst hi
      clear HI
      go_wp2
      go_ret
      have hT := HT.out
      simp only [List.replicate_zero, List.nil_append, List.drop_zero] at hT
      have hlen := lenTab_len l0 l1
      have hrow := lenTab_row l0 l1
      have h0 := HZ0.out
      have h1 := HZ1.out
      have := hT.out (by omega) (fun r hr => by have := hrow r hr; omega)
      rw [hlen] at this
      exact ⟨_, rfl, this, HB.out⟩
    | succ p =>
      have hi : i = (p : Int) := by have := HI.out; omega
      subst hi
      clear HI
      have hplt : p < l0.length := hj
      obtain ⟨ad0, rfl, hx⟩ := Kd.at_string (Kd.C_below HR0.out HB.out) (p : Int) (by omega) (by omega)
      rw [Int.toNat_natCast] at hx
      have hrd : rdOf ByteArray.empty l0 (p : Int) = l0[p] := by simp [rdOf, hplt]
      rw [hrd] at hx
      clear hrd
      -- the row below
      have hlt1 := lenTab_len (l0.drop (p + 1)) l1
      obtain ⟨bl, tl, hbl⟩ : ∃ bl tl, lenTab (l0.drop (p + 1)) l1 = bl :: tl := by
        cases e : lenTab (l0.drop (p + 1)) l1 with
        | nil => rw [e] at hlt1; simp at hlt1
        | cons a b => exact ⟨a, b, rfl⟩
      have hbll : bl.length = l1.length + 1 := lenTab_row _ _ bl (by rw [hbl]; simp)
      have hT := HT.out
      rw [hbl] at hT
      obtain ⟨gb, gs', rfl⟩ : ∃ gb gs', gs = some gb :: gs' := by
        have hl := hT.len
        cases gs with
        | nil => simp at hl
        | cons g gs' =>
          cases g with
          | none => exact absurd rfl (HG.out none (by simp))
          | some gb => exact ⟨gb, gs', rfl⟩
      have hrl : (List.replicate (p + 1) ([] : List Int) ++ bl :: tl).length = l0.length + 1 := by
        have := hlt1; rw [hbl] at this; simp at this ⊢; omega
      obtain ⟨hcT, hfT⟩ := hT.cell (p + 1) (by simp)
      have hcT' : wr.cell? ⟨w.heap.size, p + 1, none⟩ = some (.slice (some ⟨gb, 0, none⟩) (l1.length + 1) (l1.length + 1)) := by
        rw [hcT]; simp [rowVal, hbll]
      obtain ⟨-, hfTp⟩ := hT.cell p (by simp; omega)
      have hTlt := hT.lt_T
      have hgblt : gb < wr.heap.size := hT.lt_g (by simp)
      have hgbT : gb ≠ w.heap.size := (hT.row (p + 1) gb (by simp)).2.2
      have HT' := Aside0.mk hT
      have HBL := Aside0.mk hbl
      have HBLL := Aside0.mk hbll
      have HTLT := Aside0.mk hTlt
      have HX := Aside0.mk hx
      have HXL := Aside0.mk (World.block_lt_of_cell? wr _ hx)
      clear hx hT HT hcT hfT hfTp hbl hbll hrl hlt1 hgblt hgbT
      have e1 : IntKind.i64.wrap ((p : Int) + 1) = (p : Int) + 1 := IntWalk.i64_in _ (by have := HZ0.out; omega)
      have e2 : IntKind.i64.wrap ((l1.length : Int) + 1) = (l1.length : Int) + 1 := IntWalk.i64_in _ (by have := HZ1.out; omega)
      have e3 : 0 ≤ (p : Int) + 1 := by omega
      have e4 : (p : Int) + 1 < ((l0.length + 1 : Nat) : Int) := by omega
      have e5 : ((p : Int) + 1).toNat = p + 1 := by omega
      go_wp2
      go_region
      go_wp2
      clear e1 e2 e3 e4 e5 hcT'
      obtain ⟨wo, rfl⟩ : ∃ wo : World, wo = wr := ⟨_, rfl⟩
      go_loopw [9] (fun v9 wi => ∃ (i9 : Int) (m : Nat), v9 = .int .i64 i9 ∧ m ≤ l1.length ∧ Aside0 (i9 = (m : Int) - 1) ∧ Aside0 (wi.heap[wo.heap.size]? = some (.cells (nums .i16 (List.replicate m 0 ++ lenRow l0[p] (l1.drop m) (bl.drop m))).toArray 93 (0, 0))) ∧ Aside0 (Tab .i16 94 93 wi w.heap.size w.heap.size (List.replicate (p + 1) [] ++ bl :: tl) (List.replicate (p + 1) none ++ some gb :: gs')) ∧ Aside0 (Below wo.heap.size wo wi)) (fun v9 wi => (intOf v9 + 1).toNat)
      case atStart =>
        refine ⟨_, l1.length, rfl, Nat.le_refl _, ⟨rfl⟩, ⟨?_⟩, ⟨?_⟩, ⟨?_⟩⟩
        · have e : List.replicate l1.length (0 : Int) ++ lenRow l0[p] (l1.drop l1.length) (bl.drop l1.length) = List.replicate (l1.length + 1) 0 := by
            rw [List.drop_length, List.replicate_succ']; rfl
          rw [e]
          first | exact blk_drew (heap_alloc_new wo _) | exact heap_alloc_new wo _
        · first | exact (HT'.out.alloc _).drew | exact HT'.out.drew.alloc _
        · first | exact below_drew (below_alloc (Below.refl _ _) _) | exact below_alloc (below_drew (Below.refl _ _)) _
      case round =>
        obtain ⟨i9, m, rfl, hm, HI9, HROW, HTI, HBI⟩ := hrel
        cases m with
        | zero =>
          have hi9 : i9 = -1 := by have := HI9.out; simpa using this
          subst hi9
          clear HI9
          obtain ⟨hcT, hfT⟩ := HTI.out.cell p (by simp; omega)
          have hcT' : ∃ u, wr.cell? ⟨w.heap.size, p, none⟩ = some u := ⟨_, hcT⟩
          clear hcT
          obtain ⟨u, hcT⟩ := hcT'
          go_wp2
          go_roundw
          case rel =>
            refine ⟨_, p, some wo.heap.size :: some gb :: gs', rfl, by omega, ⟨rfl⟩, ⟨?_⟩, ⟨?_⟩, ⟨?_⟩⟩
            · have hlr : (lenRow l0[p] (l1.drop 0) (bl.drop 0)).length = l1.length + 1 := by rw [lenRow_len]; simp
              have hput := HTI.out.put p (by simp; omega) (g := wo.heap.size) (r := lenRow l0[p] (l1.drop 0) (bl.drop 0)) (by simpa using HROW.out) (Nat.le_of_lt HTLT.out) (by have := HTLT.out; omega) (by
                intro hmem
                have := HT'.out.lt_g hmem
                omega)
              rw [hlr] at hput
              have e1 : (List.replicate (p + 1) ([] : List Int) ++ bl :: tl).set p (lenRow l0[p] (l1.drop 0) (bl.drop 0)) = List.replicate p [] ++ lenTab (l0.drop p) l1 := by
                rw [List.drop_eq_getElem_cons hplt, List.replicate_succ']
                simp [lenTab, HBL.out]
              have e2 : (List.replicate (p + 1) (none : Option Nat) ++ some gb :: gs').set p (some wo.heap.size) = List.replicate p none ++ some wo.heap.size :: some gb :: gs' := by
                rw [List.replicate_succ']; simp
              rw [e1, e2] at hput
              exact hput
            · intro g hg
              rcases List.mem_cons.1 hg with rfl | hg
              · simp
              · exact HG.out g hg
            · exact below_set (below_then HB.out (below_size HB.out) HBI.out) (Nat.le_refl _)
          case measure => first | (simp [intOf]; done) | (simp [intOf]; omega)
        | succ q =>
          have hi9 : i9 = (q : Int) := by have := HI9.out; omega
          subst hi9
          clear HI9
          have hqlt : q < l1.length := hm
          have HBW := Aside0.mk (below_then HB.out (below_size HB.out) HBI.out)
          obtain ⟨ad1, rfl, hy⟩ := Kd.at_string (Kd.C_below HR1.out HBW.out) (q : Int) (by omega) (by omega)
          rw [Int.toNat_natCast] at hy
          have hrd : rdOf ByteArray.empty l1 (q : Int) = l1[q] := by simp [rdOf, hqlt]
          rw [hrd] at hy
          clear hrd
          have hx : wr.cell? (ad0.add p) = some (.string l0[p]) := (HBI.out.cell HXL.out).trans HX.out
          have hgd : (List.replicate (p + 1) ([] : List Int) ++ bl :: tl).getD (p + 1) [] = bl := by simp
          have hq0 : q < bl.length := by rw [HBLL.out]; omega
          have hq1 : q + 1 < bl.length := by rw [HBLL.out]; omega
          have hb0 : wr.cell? ⟨gb, q, none⟩ = some (.int .i16 bl[q]) := by
            have := HTI.out.rowcell (i := p + 1) (g := gb) (by simp) q (by rw [hgd]; exact hq0)
            simp only [hgd] at this
            exact this
          have hb1 : wr.cell? ⟨gb, q + 1, none⟩ = some (.int .i16 bl[q + 1]) := by
            have := HTI.out.rowcell (i := p + 1) (g := gb) (by simp) (q + 1) (by rw [hgd]; exact hq1)
            simp only [hgd] at this
            exact this
          clear hgd
          obtain ⟨rh, rt, hR⟩ : ∃ rh rt, lenRow l0[p] (l1.drop (q + 1)) (bl.drop (q + 1)) = rh :: rt := by
            have hl := lenRow_len l0[p] (l1.drop (q + 1)) (bl.drop (q + 1))
            cases e : lenRow l0[p] (l1.drop (q + 1)) (bl.drop (q + 1)) with
            | nil => rw [e] at hl; simp at hl
            | cons a b => exact ⟨a, b, rfl⟩
          have hrow := HROW.out
          rw [hR] at hrow
          have hr0 : wr.cell? ⟨wo.heap.size, q, none⟩ = some (.int .i16 0) := by
            rw [blk_cell hrow q]; simp [nums, List.getElem?_append, List.getElem?_replicate]
          have hr1 : wr.cell? ⟨wo.heap.size, q + 1, none⟩ = some (.int .i16 rh) := by
            rw [blk_cell hrow (q + 1)]; simp [nums, List.getElem?_append, List.getElem?_replicate]
          have hrf := blk_frozen hrow q
          have HROW' := Aside0.mk hrow
          clear hrow
          have hspec : ∀ v, (if l0[p].toList = l1[q].toList then IntKind.i16.wrap (bl[q + 1] + 1) else mx (bl[q]) rh) = v → lenRow l0[p] (l1.drop q) (bl.drop q) = v :: rh :: rt := by
            intro v hv
            have h1 : bl.drop q = bl[q] :: bl.drop (q + 1) := List.drop_eq_getElem_cons (by omega)
            have h2 : bl.drop (q + 1) = bl[q + 1] :: bl.drop (q + 1 + 1) := List.drop_eq_getElem_cons (by omega)
            rw [List.drop_eq_getElem_cons hqlt, lenRow, h1, List.tail_cons, hR, ← hv]
            congr 1
            rw [h2]; rfl
          have hset : ∀ v, (nums .i16 (List.replicate (q + 1) 0 ++ rh :: rt)).toArray.setIfInBounds q (.int .i16 v) = (nums .i16 (List.replicate q 0 ++ v :: rh :: rt)).toArray := by
            intro v
            rw [List.setIfInBounds_toArray, List.replicate_succ']
            congr 1
            simp [nums]
          have HSP := Aside0.mk hspec
          have HSE := Aside0.mk hset
          clear hspec hset
          generalize bl[q] = b0 at hb0 HSP
          generalize bl[q + 1] = b1 at hb1 HSP
          clear hq0 hq1
          have hne : gb ≠ wo.heap.size := by
            have := HT'.out.lt_g (g := gb) (by simp); omega
          have hgrn : some wo.heap.size ∉ List.replicate (p + 1) none ++ some gb :: gs' := by
            intro hmem
            have := HT'.out.lt_g hmem
            omega
          have HGN := Aside0.mk hgrn
          clear hgrn
          have hgrT : wo.heap.size ≠ w.heap.size := by have := HTLT.out; omega
          have HGT := Aside0.mk hgrT
          clear hgrT
          have fin : ∀ (v : Int) (n : Nat) (W : World), (if l0[p].toList = l1[q].toList then IntKind.i16.wrap (b1 + 1) else mx b0 rh) = v → (W = (wr.drewN n).setCell ⟨wo.heap.size, q, none⟩ (.int .i16 v) ∨ W = ((wr.drewN n).setCell ⟨wo.heap.size, q, none⟩ (.int .i16 v)).drew ∨ W = (wr.drewN n).drew.setCell ⟨wo.heap.size, q, none⟩ (.int .i16 v)) →
              Aside0 (W.heap[wo.heap.size]? = some (.cells (nums .i16 (List.replicate q 0 ++ lenRow l0[p] (l1.drop q) (bl.drop q))).toArray 93 (0, 0))) ∧ Aside0 (Tab .i16 94 93 W w.heap.size w.heap.size (List.replicate (p + 1) [] ++ bl :: tl) (List.replicate (p + 1) none ++ some gb :: gs')) ∧ Aside0 (Below wo.heap.size wo W) := by
            intro v n W hv hW
            rw [HSP.out v hv]
            rcases hW with rfl | rfl | rfl
            · exact ⟨⟨blk_put (blk_drewN HROW'.out n) q _ (HSE.out v)⟩, ⟨(HTI.out.drewN n).far (p := ⟨wo.heap.size, q, none⟩) HGT.out HGN.out _⟩, ⟨below_set (pw_below_drewN HBI.out n) (Nat.le_refl _)⟩⟩
            · exact ⟨⟨blk_drew (blk_put (blk_drewN HROW'.out n) q _ (HSE.out v))⟩, ⟨((HTI.out.drewN n).far (p := ⟨wo.heap.size, q, none⟩) HGT.out HGN.out _).drew⟩, ⟨below_drew (below_set (pw_below_drewN HBI.out n) (Nat.le_refl _))⟩⟩
            · exact ⟨⟨blk_put (blk_drew (blk_drewN HROW'.out n)) q _ (HSE.out v)⟩, ⟨((HTI.out.drewN n).drew).far (p := ⟨wo.heap.size, q, none⟩) HGT.out HGN.out _⟩, ⟨below_set (below_drew (pw_below_drewN HBI.out n)) (Nat.le_refl _)⟩⟩
          have FIN := Aside0.mk fin
          clear fin
          have e1 : IntKind.i64.wrap ((q : Int) + 1) = (q : Int) + 1 := IntWalk.i64_in _ (by have := HZ1.out; omega)
          have e3 : 0 ≤ (q : Int) + 1 := by omega
          have e4 : (q : Int) + 1 < ((l1.length + 1 : Nat) : Int) := by omega
          have e5 : ((q : Int) + 1).toNat = q + 1 := by omega
          by_cases heq : l0[p].toList = l1[q].toList
          · have hb : (l0[p].toList == l1[q].toList) = true := by simpa using heq
            have HEQ := Aside0.mk heq
            clear heq
            generalize l0[p] = x at *
            generalize l1[q] = y at *
            go_wp2
            go_quiet (fail)
            go_wp2
            go_roundw
            case rel =>
              obtain ⟨f1, f2, f3⟩ := FIN.out _ nq _ (if_pos HEQ.out) (by first | exact .inl rfl | exact .inr (.inl rfl) | exact .inr (.inr rfl))
              exact ⟨_, q, rfl, by omega, ⟨rfl⟩, f1, f2, f3⟩
            case measure => first | (simp [intOf]; done) | (simp [intOf]; omega)
          · have hb : (l0[p].toList == l1[q].toList) = false := by simpa using heq
            have HEQ := Aside0.mk heq
            clear heq
            generalize l0[p] = x at *
            generalize l1[q] = y at *
            go_wp2
            go_quiet (fail)
            go_wp2
            go_region
            go_wp2
            go_roundw
            case rel =>
              obtain ⟨f1, f2, f3⟩ := FIN.out (if b0 < rh then rh else b0) (nq + 1) _ (if_neg HEQ.out) (by first | exact .inl rfl | exact .inr (.inl rfl) | exact .inr (.inr rfl))
              exact ⟨_, q, rfl, by omega, ⟨rfl⟩, f1, f2, f3⟩
            case measure => first | (simp [intOf]; done) | (simp [intOf]; omega)

theorem diff_lengths.calls_n (n0 n1 : Nat) (A0 : Option Addr) (c0 : Nat) (l0 : List ByteArray) (A1 : Option Addr) (c1 : Nat) (l1 : List ByteArray) (r : List (List Int)) (w : World) (hn0 : n0 = l0.length) (hn1 : n1 = l1.length) (hr0 : Kd.C Kd.string w A0 l0.length l0) (hc0 : l0.length ≤ c0) (hr1 : Kd.C Kd.string w A1 l1.length l1) (hc1 : l1.length ≤ c1) (h : diff_lengths.f l0 l1 = some r) :
    Calls Try.prog 36 #[.slice A0 n0 c0, .slice A1 n1 c1] w fun e w' => ∃ v0_ : Value, e = .returned (v0_) ∧ Kd.S (Kd.slice 93 (Kd.int .i16)) 94 w' w.heap.size (fun _ => True) v0_ r ∧ Below w.heap.size w w' := by
  subst hn0 hn1
  exact diff_lengths.calls A0 c0 l0 A1 c1 l1 r w hr0 hc0 hr1 hc1 h

end Go.Proofs.Ythigjlahanejjaa.MD

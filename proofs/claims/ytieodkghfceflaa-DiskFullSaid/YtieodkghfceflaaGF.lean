/- The law's text of all files. The law DiskWhole, walked. No condition. -/
import Derived.Test.YtieodkghfceflaaGB
import Derived.Test.YtieodkghfceflaaGD
set_option linter.unusedVariables false
set_option linter.unusedSimpArgs false
namespace Go.Proofs.Ytieodkghfceflaa.MD
open Go.Proofs.Ytieodkghfceflaa.Opening Go.Proofs.Ytieodkghfceflaa.Pure
open Go.RowKit Go.Proofs.YtieodkghfceflaaW.PrintWords Go.Proofs.YtieodkghfceflaaW.PrintLast Go.Proofs.YtieodkghfceflaaW.PrintMore
def addF (s : ByteArray) (x : S76) : ByteArray := s ++ x.f0 ++ ⟨#[61]⟩ ++ x.f1 ++ ⟨#[59]⟩
/-- All files, one behind the other. -/
def dataOf (l : List S76) : ByteArray := l.foldl addF ⟨#[]⟩
theorem dataOf_snoc (l : List S76) (i : Nat) (hi : i < l.length) : dataOf (l.take (i + 1)) = addF (dataOf (l.take i)) l[i] := by
  unfold dataOf
  rw [List.take_succ_eq_append_getElem hi, List.foldl_append]
  rfl
theorem size_app (a b : ByteArray) : (a ++ b).size = a.size + b.size := ByteArray.size_append
theorem addF_size (s : ByteArray) (x : S76) : (addF s x).size = s.size + x.f0.size + x.f1.size + 2 := by
  unfold addF
  rw [size_app, size_app, size_app, size_app]
  show s.size + x.f0.size + 1 + x.f1.size + 1 = _
  omega
theorem data_size {c : Nat} {m : DS} (h : Inv c m) : ∀ i, i ≤ m.files.length → (dataOf (m.files.take i)).size ≤ i * 262200
  | 0, _ => Nat.le_of_eq rfl
  | i + 1, hi => by
    have ih := data_size h i (by omega)
    have h1 := h.sizes _ (List.getElem_mem (show i < m.files.length by omega))
    have h2 := h.names _ (List.getElem_mem (show i < m.files.length by omega))
    unfold nameK at h2
    rw [Bool.and_eq_true, decide_eq_true_eq, key_len] at h2
    rw [dataOf_snoc _ _ (by omega), addF_size]
    omega
theorem data_size32 {c : Nat} {m : DS} (h : Inv c m) (i : Nat) (hi : i ≤ m.files.length) : (dataOf (m.files.take i)).size ≤ 8390400 :=
  Nat.le_trans (data_size h i hi) (Nat.le_trans (Nat.mul_le_mul_right 262200 (Nat.le_trans hi h.len)) (by decide))
set_option maxRecDepth 100000 in
set_option maxHeartbeats 8000000 in
theorem data_calls (w : World) {B d mb c : Nat} {O : Nat → Prop} {m : DS} (h : IsD w B O d mb m) (hI : Inv c m) (hc : c ≤ 1000000) :
    Calls Try.prog 20 #[.pointer (some ⟨d, 0, none⟩)] w fun e w' => e = .returned (.string (dataOf m.files)) ∧ Below w.heap.size w w' := by
  have H := Aside0.mk h
  have HI := Aside0.mk hI
  have HOK := Aside0.mk (hI.ok hc)
  obtain ⟨nn, hn⟩ : ∃ nn, m.files.length = nn := ⟨_, rfl⟩
  have HN := Aside0.mk hn
  have HN32 : Aside0 (nn ≤ 32) := ⟨by rw [← hn]; exact hI.len⟩
  clear h hI hc hn
  go_enter Try.func20, Try.ntmps20
  go_upto_region 3 with (go_at_call 10; refine (names_calls w H.out (by have := HN.out; have := HN32.out; omega)).mono ?_; rintro e w2 ⟨v, rfl, hR, hB⟩; obtain ⟨Al, cl, hv0⟩ := Kd.R_slice hR; have hv : v = .slice Al nn cl := hv0.trans (by rw [List.length_map, HN.out]); clear hv0; subst hv; have HR := Aside0.mk hR; have HB := Aside0.mk hB; clear hR hB)
  go_wp2
  go_loopw [3, 5] (fun s3 s5 wr => ∃ (i : Nat), s3 = .string (dataOf (m.files.take i)) ∧ s5 = .int .i64 i ∧ Aside0 (i ≤ nn) ∧ Aside0 (Kd.R Kd.string 9 wr w.heap.size (fun _ => True) (.slice Al nn cl) (m.files.map (·.f0))) ∧ Aside0 (Below w.heap.size w wr)) (fun s3 s5 wr => nn - (intOf s5).toNat)
  case atStart => exact ⟨0, rfl, rfl, ⟨by omega⟩, HR, HB⟩
  case round =>
    obtain ⟨i, rfl, rfl, HIL, HRL, HBL⟩ := hrel
    have HDr := Aside0.mk (H.out.below HBL.out)
    by_cases hlt : i < nn
    · have hi : i < m.files.length := by rw [HN.out]; exact hlt
      obtain ⟨x, hx⟩ : ∃ x, m.files[i] = x := ⟨_, rfl⟩
      obtain ⟨g, hA, hbg, hcl, hfz, hset⟩ := R_scalar_at HRL.out i (by simpa using hi)
      subst hA
      rw [List.getElem_map, hx] at hcl
      have HPS : Aside0 (x.f0.size ≤ 140737488355328) := ⟨by rw [← hx]; exact f0_small HI.out hi⟩
      have HF : Aside0 (fileOf m.files x.f0 = some (bytesOf x.f1)) := ⟨by rw [← hx]; exact own_at HI.out hi⟩
      have HOW : Aside0 (ownOf m x.f0 = bytesOf x.f1) := ⟨by unfold ownOf; rw [HF.out]; rfl⟩
      obtain ⟨nb, hnb⟩ : ∃ nb, (bytesOf x.f1).length = nb := ⟨_, rfl⟩
      have HNB := Aside0.mk hnb
      have HSN : Aside0 (dataOf (m.files.take (i + 1)) = addF (dataOf (m.files.take i)) x) := ⟨by rw [dataOf_snoc _ _ hi, hx]⟩
      obtain ⟨S, hS⟩ : ∃ S, dataOf (m.files.take i) = S := ⟨_, rfl⟩
      rw [hS]
      have HS := Aside0.mk hS
      clear hset hfz hx hnb hbg hi hS
      go_upto_region 7 with (go_at_call 13; refine (read_calls wr HDr.out HPS.out HOK.out).mono ?_; rintro e w4 ⟨v, rfl, hR, hB⟩; rw [HF.out]; rw [HOW.out] at hR; obtain ⟨Ab, cb, hv0⟩ := Kd.R_slice hR; have hv : v = .slice Ab nb cb := hv0.trans (by rw [HNB.out]); clear hv0; subst hv; have HR4 := Aside0.mk hR; have HB4 := Aside0.mk hB; clear hR hB)
      obtain ⟨w5, hw5⟩ : ∃ w5, w4.drew = w5 := ⟨_, rfl⟩
      have HB5 : Aside0 (Below wr.heap.size wr w5) := ⟨by rw [← hw5]; exact below_drew HB4.out⟩
      have HR5 := Aside0.mk (Kd.R_below HR4.out (by rw [← hw5]; exact below_drew (Below.refl _ _) : Below w4.heap.size w4 w5))
      have d1 := pw_cell_below HB5.out hcl
      have hconv : (convert 27 9 (.slice Ab nb cb)).run Try.prog w5 = .ok (.string x.f1) w5 := by
        have e := (Kd.R_reads' HR5.out).2.2
        have := Kd.C_string (c := cb) Try.underlying27 Try.underlying5 Try.underlying9 e
        rw [HNB.out, str_back] at this
        exact this
      have hz1 : S.size ≤ 8390400 := by rw [← HS.out]; exact data_size32 HI.out i (by rw [HN.out]; exact HIL.out)
      have hz2 := HPS.out
      have hz3 : x.f1.size ≤ 262144 := by have h := HOK.out.own x.f0; rw [HOW.out, bytesOf_length] at h; exact h
      have o1 : ByteArray.size ⟨#[61]⟩ = 1 := rfl
      have o2 : ByteArray.size ⟨#[59]⟩ = 1 := rfl
      have t1 : S.size + x.f0.size ≤ 9223372036854775807 := by omega
      have t2 : (S ++ x.f0).size + ByteArray.size ⟨#[61]⟩ ≤ 9223372036854775807 := by rw [size_app, o1]; omega
      have t3 : (S ++ x.f0 ++ ⟨#[61]⟩).size + x.f1.size ≤ 9223372036854775807 := by rw [size_app, size_app, o1]; omega
      have t4 : (S ++ x.f0 ++ ⟨#[61]⟩ ++ x.f1).size + ByteArray.size ⟨#[59]⟩ ≤ 9223372036854775807 := by rw [size_app, size_app, size_app, o1, o2]; omega
      have s2 : S.size + x.f0.size + 1 ≤ 9223372036854775807 := by omega
      have s3 : S.size + x.f0.size + 1 + x.f1.size ≤ 9223372036854775807 := by omega
      have s4 : S.size + x.f0.size + 1 + x.f1.size + 1 ≤ 9223372036854775807 := by omega
      clear o1 o2
      clear hcl hz1 hz2 hz3
      have t1b := eq_true t1
      have t1c : (9223372036854775807 < S.size + x.f0.size) = False := eq_false (Nat.not_lt.2 t1)
      have t2b := eq_true t2
      have t2c : (9223372036854775807 < (S ++ x.f0).size + ByteArray.size ⟨#[61]⟩) = False := eq_false (Nat.not_lt.2 t2)
      have t3b := eq_true t3
      have t3c : (9223372036854775807 < (S ++ x.f0 ++ ⟨#[61]⟩).size + x.f1.size) = False := eq_false (Nat.not_lt.2 t3)
      have t4b := eq_true t4
      have t4c : (9223372036854775807 < (S ++ x.f0 ++ ⟨#[61]⟩ ++ x.f1).size + ByteArray.size ⟨#[59]⟩) = False := eq_false (Nat.not_lt.2 t4)
      have s2b := eq_true s2
      have s2c : (9223372036854775807 < S.size + x.f0.size + 1) = False := eq_false (Nat.not_lt.2 s2)
      have s3b := eq_true s3
      have s3c : (9223372036854775807 < S.size + x.f0.size + 1 + x.f1.size) = False := eq_false (Nat.not_lt.2 s3)
      have s4b := eq_true s4
      have s4c : (9223372036854775807 < S.size + x.f0.size + 1 + x.f1.size + 1) = False := eq_false (Nat.not_lt.2 s4)
      go_region_held3 (fun w' => w' = w5) (first | rfl | assumption) (fail)
      rename_i hheld
      clear hheld
      have hkb : i + 1 ≤ 1000000 := (by have := HN32.out; omega)
      go_wp2
      subst hw5
      go_roundw
      case rel => exact ⟨i + 1, by rw [HSN.out, HS.out]; rfl, by go_num, ⟨by omega⟩, ⟨Kd.R_below HRL.out HB5.out⟩, ⟨below_then HBL.out HBL.out.size HB5.out⟩⟩
      case measure => simp [intOf]; omega
    · go_wp2
      go_ret
      refine ⟨?_, HBL.out⟩
      rw [List.take_of_length_le (by rw [HN.out]; omega)]
      rfl
end Go.Proofs.Ytieodkghfceflaa.MD
namespace Go.Proofs.Ytieodkghfceflaa.MD
open Go.Proofs.Ytieodkghfceflaa.Opening Go.Proofs.Ytieodkghfceflaa.Pure
open Go.RowKit Go.Proofs.YtieodkghfceflaaW.PrintWords Go.Proofs.YtieodkghfceflaaW.PrintLast Go.Proofs.YtieodkghfceflaaW.PrintMore
attribute [local go_sem] max2_int min2_int max_two min_two
theorem goD_torn {m : DS} (hd : m.dead = false) (ha : m.armed = true) (h0 : m.after = 0) : goD m = ({ m with dead := true, armed := false }, false) := by
  unfold goD
  rw [if_neg (by rw [hd]; simp), if_pos ⟨ha, h0⟩]
theorem cut0 {m : DS} (hd : m.dead = false) {k : Int} (hk : 0 ≤ k) : cutD m 0 k = ({ m with armed := true, after := 0, keep := k }, 0) := by
  unfold cutD
  rw [if_neg (by omega), if_neg (by rw [hd]; simp)]
/-- The power has gone off in a call, or the call was refused: nothing else. -/
structure Whole (m : DS) (r : DS × Int) : Prop where
  ne0 : (r.2 == 0) = false
  d8 : (r.2 == 8) = r.1.dead
  files : r.1.files = m.files
theorem nm_cases (p : ByteArray) : nm p = 0 ∨ nm p = 2 := by
  cases hn : nameK (key p) with
  | true => exact Or.inl (nm_true hn)
  | false => exact Or.inr (nm_false hn)
theorem there_cases (m : DS) (p : ByteArray) : thereD (nm p) m p = 0 ∨ thereD (nm p) m p = 2 ∨ thereD (nm p) m p = 5 := by
  unfold thereD
  rcases nm_cases p with e | e <;> rw [e]
  · rw [if_neg (by decide)]
    split
    · exact Or.inl rfl
    · exact Or.inr (Or.inr rfl)
  · exact Or.inr (Or.inl rfl)
theorem whole_refused {m : DS} (hd : m.dead = false) {e : Int} (h1 : e ≠ 0) (h2 : e ≠ 8) : Whole m (m, e) := ⟨by simpa using h1, by rw [hd]; simpa using h2, rfl⟩
section
variable {m : DS} (hd : m.dead = false) (ha : m.armed = true) (h0 : m.after = 0)
include hd ha h0
theorem whole_dead : Whole m ((goD m).1, 8) := by
  rw [goD_torn hd ha h0]
  exact ⟨rfl, rfl, rfl⟩
theorem whole_trim (p : ByteArray) (n : Int) : Whole m (trimD (nm p) m p n) := by
  unfold trimD
  by_cases ht : thereD (nm p) m p = 0
  · rw [if_neg (by simpa using ht)]
    split
    · exact whole_refused hd (by decide) (by decide)
    · rw [if_pos (by rw [goD_torn hd ha h0])]
      exact whole_dead hd ha h0
  · rw [if_pos ht]
    exact whole_refused hd ht (by rcases there_cases m p with e | e | e <;> rw [e] <;> decide)
theorem whole_remove (p : ByteArray) : Whole m (removeD (nm p) m p) := by
  unfold removeD
  by_cases ht : thereD (nm p) m p = 0
  · rw [if_neg (by simpa using ht), if_pos (by rw [goD_torn hd ha h0])]
    exact whole_dead hd ha h0
  · rw [if_pos ht]
    exact whole_refused hd ht (by rcases there_cases m p with e | e | e <;> rw [e] <;> decide)
theorem whole_rename (p q : ByteArray) : Whole m (renameD (nm p) (nm q) m p q) := by
  unfold renameD
  by_cases hq : nm q = 0
  · rw [if_neg (by simpa using hq)]
    by_cases ht : thereD (nm p) m p = 0
    · rw [if_neg (by simpa using ht), if_pos (by rw [goD_torn hd ha h0])]
      exact whole_dead hd ha h0
    · rw [if_pos ht]
      exact whole_refused hd ht (by rcases there_cases m p with e | e | e <;> rw [e] <;> decide)
  · rw [if_pos hq]
    exact whole_refused hd hq (by rcases nm_cases q with e | e <;> rw [e] <;> decide)
end
set_option maxRecDepth 100000 in
set_option maxHeartbeats 32000000 in
theorem whole_walk (w : World) (A : Option Addr) (c : Nat) (l : List S43) (g : l.length * 88 ≤ 140737488351232 ∧ l.length ≤ 9223372036854775807 ∧ ∀ y ∈ l, gS43 y) (hr : Kd.C k43 w A l.length l) (hc : l.length ≤ c) (name : ByteArray) (h1 : name.size ≤ 140737488351232) (to_ : ByteArray) (h2 : to_.size ≤ 140737488351232) (n : Int) (hn : (Lit.int .i64 n).wf = true) (keep : Int) (hk : (Lit.int .i64 keep).wf = true) :
    Calls Try.prog 6 #[.slice A l.length c, .string name, .string to_, .int .i64 n, .int .i64 keep] w fun e w' => e = .returned (.bool true) ∧ Below w.heap.size w w' := by
  have HBT := fun W hb => built_calls W A c l g.2.2 (Kd.C_below hr hb) hc
  obtain ⟨nn, hnn⟩ : ∃ nn, l.length = nn := ⟨_, rfl⟩
  rw [hnn] at HBT ⊢
  have HBT := Aside0.mk HBT
  obtain ⟨K, hK⟩ : ∃ K, (if keep < 0 then (0 : Int) else keep) = K := ⟨_, rfl⟩
  have HK : Aside0 (0 ≤ K) := ⟨by rw [← hK]; split <;> omega⟩
  have HN1 := Aside0.mk h1
  have HN2 := Aside0.mk h2
  obtain ⟨k0, hk0⟩ : ∃ k0, name.size + to_.size + 1 = k0 := ⟨_, rfl⟩
  have HM1 : Aside0 (path_Name.f k0 name = some (nm name)) := ⟨name_f h1 k0 (by omega)⟩
  have HM2 : Aside0 (path_Name.f k0 to_ = some (nm to_)) := ⟨name_f h2 k0 (by omega)⟩
  clear g hr hc hnn h1 h2 hn hk hk0
  go_enter Try.func6, Try.ntmps6
  go_upto_region 9 with (first
    | (go_at_call 7; refine (awake_calls w).mono ?_; rintro e w1 ⟨rfl, hb⟩; have HB1 := Aside0.mk hb; clear hb)
    | (go_at_call 17; refine (HBT.out w1 HB1.out).mono ?_; rintro e w2 ⟨d, mb, O, m, rfl, hD, hI, hb⟩; have HD2 := Aside0.mk hD; have HI2 := Aside0.mk hI; have HB2 := Aside0.mk (below_then HB1.out HB1.out.size hb); clear hD hI hb)
    | (go_at_call 18; refine (restart_calls w2 HD2.out).mono ?_; rintro e w3 ⟨rfl, hA⟩; obtain ⟨O3, hD, _, _, hb⟩ := hA; have HD3 := Aside0.mk hD; have HB3 := Aside0.mk (HB2.out.trans (hb.mono HB1.out.size)); clear hD hb)
    | (go_at_call 20; refine (data_calls w3 HD3.out (c := 200) HI2.out.restart (by decide)).mono ?_; rintro e w4 ⟨rfl, hb⟩; have HD4 := Aside0.mk (HD3.out.below hb); have HB4 := Aside0.mk (below_then HB3.out HB3.out.size hb); clear hb))
  obtain ⟨S, hS⟩ : ∃ S, dataOf m.files = S := ⟨_, rfl⟩
  have HS := Aside0.mk hS
  have hS2 : dataOf ({ m with dead := false, armed := false } : DS).files = S := hS
  rw [hS2]
  clear hS hS2 hK
  go_wp2
  go_loopw [14] (fun s14 wr => ∃ (k : Nat) (O' : Nat → Prop) (m' : DS), s14 = .int .i64 k ∧ Aside0 (k ≤ 3) ∧ Aside0 (IsD wr w1.heap.size O' d mb m') ∧ Aside0 (Inv (200 + k) m') ∧ Aside0 (dataOf m'.files = S) ∧ Aside0 (m'.dead = false) ∧ Aside0 (Below w.heap.size w wr)) (fun s14 wr => 3 - (intOf s14).toNat)
  case atStart => exact ⟨0, O3, { m with dead := false, armed := false }, rfl, ⟨by omega⟩, HD4, ⟨HI2.out.restart⟩, HS, ⟨rfl⟩, HB4⟩
  case round =>
    obtain ⟨k, O', m', rfl, HK3, HD, HI, HF, HDE, HB⟩ := hrel
    obtain ⟨m1, hm1⟩ : ∃ m1, ({ m' with armed := true, after := 0, keep := K } : DS) = m1 := ⟨_, rfl⟩
    have E1 : Aside0 (cutD m' 0 K = (m1, 0)) := ⟨by rw [cut0 HDE.out HK.out, hm1]⟩
    have q1 : m1.dead = false := by rw [← hm1]; exact HDE.out
    have q2 : m1.armed = true := by rw [← hm1]
    have q3 : m1.after = 0 := by rw [← hm1]
    have HF1 : Aside0 (m1.files = m'.files) := ⟨by rw [← hm1]⟩
    have HI1 : Aside0 (Inv (200 + k) m1) := ⟨by have h := HI.out.cutD 0 K (by decide); rw [E1.out] at h; exact h⟩
    clear hm1
    rcases (by have := HK3.out; omega : k = 0 ∨ k = 1 ∨ k = 2 ∨ k = 3) with rfl | rfl | rfl | rfl
    · obtain ⟨r, hr⟩ : ∃ r, trimD (nm name) m1 name n = r := ⟨_, rfl⟩
      have HR := Aside0.mk hr
      have hw := whole_trim q1 q2 q3 name n
      rw [hr] at hw
      have HO1 := Aside0.mk (HI1.out.ok (by omega))
      have HIR : Aside0 (Inv (200 + 0 + 1) r.1) := ⟨by rw [← hr]; exact HI1.out.trimD (by omega) name n⟩
      have HFR : Aside0 (dataOf r.1.files = S) := ⟨by rw [hw.files, HF1.out]; exact HF.out⟩
      have c0 := hw.ne0
      have c8 := hw.d8
      clear hr hw q1 q2 q3
      cases hdd : r.1.dead with
      | false =>
        rw [hdd] at c8
        have HDD := Aside0.mk hdd
        clear hdd
        go_wp2_with (first
          | (go_at_call 19; refine (cut_calls wr HD.out 0 K).mono ?_; rw [E1.out]; rintro e w5 ⟨rfl, hA⟩; obtain ⟨O5, hD, _, _, hb⟩ := hA; have HD5 := Aside0.mk hD; have HB5 := Aside0.mk (HB.out.trans (hb.mono HB1.out.size)); clear hD hb)
          | (go_at_call 12; refine (trim_calls k0 w5 HD5.out (p := name) (by have := HN1.out; omega) HO1.out (nm name) HM1.out n).mono ?_; rw [HR.out]; rintro e w6 ⟨rfl, hA⟩; obtain ⟨O6, hD, _, _, hb⟩ := hA; have HD6 := Aside0.mk hD; have HB6 := Aside0.mk (HB5.out.trans (hb.mono HB1.out.size)); clear hD hb)
          | (go_at_call 21; refine (dead_calls w6 HD6.out).mono ?_; rw [HDD.out]; rintro e w7 ⟨rfl, rfl⟩)
          | (go_at_call 20; refine (data_calls _ HD6.out HIR.out (by omega)).mono ?_; rw [HFR.out]; rintro e w8 ⟨rfl, hb⟩; have HD8 := Aside0.mk (HD6.out.below hb); have HB8 := Aside0.mk (below_then HB6.out HB6.out.size hb); clear hb)
          | (go_at_call 18; refine (restart_calls w8 HD8.out).mono ?_; rintro e w9 ⟨rfl, hA⟩; obtain ⟨O9, hD, _, _, hb⟩ := hA; have HD9 := Aside0.mk hD; have HB9 := Aside0.mk (HB8.out.trans (hb.mono HB1.out.size)); clear hD hb))
        go_roundw
        case rel => exact ⟨1, O9, { r.1 with dead := false, armed := false }, rfl, ⟨by omega⟩, HD9, ⟨HIR.out.restart.le (by omega)⟩, HFR, ⟨rfl⟩, HB9⟩
        case measure => simp [intOf]
      | true =>
        rw [hdd] at c8
        have HDD := Aside0.mk hdd
        clear hdd
        go_wp2_with (first
          | (go_at_call 19; refine (cut_calls wr HD.out 0 K).mono ?_; rw [E1.out]; rintro e w5 ⟨rfl, hA⟩; obtain ⟨O5, hD, _, _, hb⟩ := hA; have HD5 := Aside0.mk hD; have HB5 := Aside0.mk (HB.out.trans (hb.mono HB1.out.size)); clear hD hb)
          | (go_at_call 12; refine (trim_calls k0 w5 HD5.out (p := name) (by have := HN1.out; omega) HO1.out (nm name) HM1.out n).mono ?_; rw [HR.out]; rintro e w6 ⟨rfl, hA⟩; obtain ⟨O6, hD, _, _, hb⟩ := hA; have HD6 := Aside0.mk hD; have HB6 := Aside0.mk (HB5.out.trans (hb.mono HB1.out.size)); clear hD hb)
          | (go_at_call 21; refine (dead_calls w6 HD6.out).mono ?_; rw [HDD.out]; rintro e w7 ⟨rfl, rfl⟩)
          | (go_at_call 20; refine (data_calls _ HD6.out HIR.out (by omega)).mono ?_; rw [HFR.out]; rintro e w8 ⟨rfl, hb⟩; have HD8 := Aside0.mk (HD6.out.below hb); have HB8 := Aside0.mk (below_then HB6.out HB6.out.size hb); clear hb)
          | (go_at_call 18; refine (restart_calls w8 HD8.out).mono ?_; rintro e w9 ⟨rfl, hA⟩; obtain ⟨O9, hD, _, _, hb⟩ := hA; have HD9 := Aside0.mk hD; have HB9 := Aside0.mk (HB8.out.trans (hb.mono HB1.out.size)); clear hD hb))
        go_roundw
        case rel => exact ⟨1, O9, { r.1 with dead := false, armed := false }, rfl, ⟨by omega⟩, HD9, ⟨HIR.out.restart.le (by omega)⟩, HFR, ⟨rfl⟩, HB9⟩
        case measure => simp [intOf]
    · obtain ⟨r, hr⟩ : ∃ r, renameD (nm name) (nm to_) m1 name to_ = r := ⟨_, rfl⟩
      have HR := Aside0.mk hr
      have hw := whole_rename q1 q2 q3 name to_
      rw [hr] at hw
      have HO1 := Aside0.mk (HI1.out.ok (by omega))
      have HIR : Aside0 (Inv (200 + 1 + 1) r.1) := ⟨by rw [← hr]; exact HI1.out.renameD (by omega) name to_⟩
      have HFR : Aside0 (dataOf r.1.files = S) := ⟨by rw [hw.files, HF1.out]; exact HF.out⟩
      have c0 := hw.ne0
      have c8 := hw.d8
      clear hr hw q1 q2 q3
      cases hdd : r.1.dead with
      | false =>
        rw [hdd] at c8
        have HDD := Aside0.mk hdd
        clear hdd
        go_wp2_with (first
          | (go_at_call 19; refine (cut_calls wr HD.out 0 K).mono ?_; rw [E1.out]; rintro e w5 ⟨rfl, hA⟩; obtain ⟨O5, hD, _, _, hb⟩ := hA; have HD5 := Aside0.mk hD; have HB5 := Aside0.mk (HB.out.trans (hb.mono HB1.out.size)); clear hD hb)
          | (go_at_call 22; refine (rename_calls k0 w5 HD5.out (p := name) (q := to_) (by have := HN1.out; omega) (by have := HN2.out; omega) HO1.out (nm name) (nm to_) HM1.out HM2.out).mono ?_; rw [HR.out]; rintro e w6 ⟨rfl, hA⟩; obtain ⟨O6, hD, _, _, hb⟩ := hA; have HD6 := Aside0.mk hD; have HB6 := Aside0.mk (HB5.out.trans (hb.mono HB1.out.size)); clear hD hb)
          | (go_at_call 21; refine (dead_calls w6 HD6.out).mono ?_; rw [HDD.out]; rintro e w7 ⟨rfl, rfl⟩)
          | (go_at_call 20; refine (data_calls _ HD6.out HIR.out (by omega)).mono ?_; rw [HFR.out]; rintro e w8 ⟨rfl, hb⟩; have HD8 := Aside0.mk (HD6.out.below hb); have HB8 := Aside0.mk (below_then HB6.out HB6.out.size hb); clear hb)
          | (go_at_call 18; refine (restart_calls w8 HD8.out).mono ?_; rintro e w9 ⟨rfl, hA⟩; obtain ⟨O9, hD, _, _, hb⟩ := hA; have HD9 := Aside0.mk hD; have HB9 := Aside0.mk (HB8.out.trans (hb.mono HB1.out.size)); clear hD hb))
        go_roundw
        case rel => exact ⟨2, O9, { r.1 with dead := false, armed := false }, rfl, ⟨by omega⟩, HD9, ⟨HIR.out.restart.le (by omega)⟩, HFR, ⟨rfl⟩, HB9⟩
        case measure => simp [intOf]
      | true =>
        rw [hdd] at c8
        have HDD := Aside0.mk hdd
        clear hdd
        go_wp2_with (first
          | (go_at_call 19; refine (cut_calls wr HD.out 0 K).mono ?_; rw [E1.out]; rintro e w5 ⟨rfl, hA⟩; obtain ⟨O5, hD, _, _, hb⟩ := hA; have HD5 := Aside0.mk hD; have HB5 := Aside0.mk (HB.out.trans (hb.mono HB1.out.size)); clear hD hb)
          | (go_at_call 22; refine (rename_calls k0 w5 HD5.out (p := name) (q := to_) (by have := HN1.out; omega) (by have := HN2.out; omega) HO1.out (nm name) (nm to_) HM1.out HM2.out).mono ?_; rw [HR.out]; rintro e w6 ⟨rfl, hA⟩; obtain ⟨O6, hD, _, _, hb⟩ := hA; have HD6 := Aside0.mk hD; have HB6 := Aside0.mk (HB5.out.trans (hb.mono HB1.out.size)); clear hD hb)
          | (go_at_call 21; refine (dead_calls w6 HD6.out).mono ?_; rw [HDD.out]; rintro e w7 ⟨rfl, rfl⟩)
          | (go_at_call 20; refine (data_calls _ HD6.out HIR.out (by omega)).mono ?_; rw [HFR.out]; rintro e w8 ⟨rfl, hb⟩; have HD8 := Aside0.mk (HD6.out.below hb); have HB8 := Aside0.mk (below_then HB6.out HB6.out.size hb); clear hb)
          | (go_at_call 18; refine (restart_calls w8 HD8.out).mono ?_; rintro e w9 ⟨rfl, hA⟩; obtain ⟨O9, hD, _, _, hb⟩ := hA; have HD9 := Aside0.mk hD; have HB9 := Aside0.mk (HB8.out.trans (hb.mono HB1.out.size)); clear hD hb))
        go_roundw
        case rel => exact ⟨2, O9, { r.1 with dead := false, armed := false }, rfl, ⟨by omega⟩, HD9, ⟨HIR.out.restart.le (by omega)⟩, HFR, ⟨rfl⟩, HB9⟩
        case measure => simp [intOf]
    · obtain ⟨r, hr⟩ : ∃ r, removeD (nm name) m1 name = r := ⟨_, rfl⟩
      have HR := Aside0.mk hr
      have hw := whole_remove q1 q2 q3 name
      rw [hr] at hw
      have HO1 := Aside0.mk (HI1.out.ok (by omega))
      have HIR : Aside0 (Inv (200 + 2 + 1) r.1) := ⟨by rw [← hr]; exact HI1.out.removeD name⟩
      have HFR : Aside0 (dataOf r.1.files = S) := ⟨by rw [hw.files, HF1.out]; exact HF.out⟩
      have c0 := hw.ne0
      have c8 := hw.d8
      clear hr hw q1 q2 q3
      cases hdd : r.1.dead with
      | false =>
        rw [hdd] at c8
        have HDD := Aside0.mk hdd
        clear hdd
        go_wp2_with (first
          | (go_at_call 19; refine (cut_calls wr HD.out 0 K).mono ?_; rw [E1.out]; rintro e w5 ⟨rfl, hA⟩; obtain ⟨O5, hD, _, _, hb⟩ := hA; have HD5 := Aside0.mk hD; have HB5 := Aside0.mk (HB.out.trans (hb.mono HB1.out.size)); clear hD hb)
          | (go_at_call 14; refine (remove_calls k0 w5 HD5.out (p := name) (by have := HN1.out; omega) HO1.out (nm name) HM1.out).mono ?_; rw [HR.out]; rintro e w6 ⟨rfl, hA⟩; obtain ⟨O6, hD, _, _, hb⟩ := hA; have HD6 := Aside0.mk hD; have HB6 := Aside0.mk (HB5.out.trans (hb.mono HB1.out.size)); clear hD hb)
          | (go_at_call 21; refine (dead_calls w6 HD6.out).mono ?_; rw [HDD.out]; rintro e w7 ⟨rfl, rfl⟩)
          | (go_at_call 20; refine (data_calls _ HD6.out HIR.out (by omega)).mono ?_; rw [HFR.out]; rintro e w8 ⟨rfl, hb⟩; have HD8 := Aside0.mk (HD6.out.below hb); have HB8 := Aside0.mk (below_then HB6.out HB6.out.size hb); clear hb)
          | (go_at_call 18; refine (restart_calls w8 HD8.out).mono ?_; rintro e w9 ⟨rfl, hA⟩; obtain ⟨O9, hD, _, _, hb⟩ := hA; have HD9 := Aside0.mk hD; have HB9 := Aside0.mk (HB8.out.trans (hb.mono HB1.out.size)); clear hD hb))
        go_roundw
        case rel => exact ⟨3, O9, { r.1 with dead := false, armed := false }, rfl, ⟨by omega⟩, HD9, ⟨HIR.out.restart.le (by omega)⟩, HFR, ⟨rfl⟩, HB9⟩
        case measure => simp [intOf]
      | true =>
        rw [hdd] at c8
        have HDD := Aside0.mk hdd
        clear hdd
        go_wp2_with (first
          | (go_at_call 19; refine (cut_calls wr HD.out 0 K).mono ?_; rw [E1.out]; rintro e w5 ⟨rfl, hA⟩; obtain ⟨O5, hD, _, _, hb⟩ := hA; have HD5 := Aside0.mk hD; have HB5 := Aside0.mk (HB.out.trans (hb.mono HB1.out.size)); clear hD hb)
          | (go_at_call 14; refine (remove_calls k0 w5 HD5.out (p := name) (by have := HN1.out; omega) HO1.out (nm name) HM1.out).mono ?_; rw [HR.out]; rintro e w6 ⟨rfl, hA⟩; obtain ⟨O6, hD, _, _, hb⟩ := hA; have HD6 := Aside0.mk hD; have HB6 := Aside0.mk (HB5.out.trans (hb.mono HB1.out.size)); clear hD hb)
          | (go_at_call 21; refine (dead_calls w6 HD6.out).mono ?_; rw [HDD.out]; rintro e w7 ⟨rfl, rfl⟩)
          | (go_at_call 20; refine (data_calls _ HD6.out HIR.out (by omega)).mono ?_; rw [HFR.out]; rintro e w8 ⟨rfl, hb⟩; have HD8 := Aside0.mk (HD6.out.below hb); have HB8 := Aside0.mk (below_then HB6.out HB6.out.size hb); clear hb)
          | (go_at_call 18; refine (restart_calls w8 HD8.out).mono ?_; rintro e w9 ⟨rfl, hA⟩; obtain ⟨O9, hD, _, _, hb⟩ := hA; have HD9 := Aside0.mk hD; have HB9 := Aside0.mk (HB8.out.trans (hb.mono HB1.out.size)); clear hD hb))
        go_roundw
        case rel => exact ⟨3, O9, { r.1 with dead := false, armed := false }, rfl, ⟨by omega⟩, HD9, ⟨HIR.out.restart.le (by omega)⟩, HFR, ⟨rfl⟩, HB9⟩
        case measure => simp [intOf]
    · clear q1 q2 q3
      go_wp2
      go_ret
      exact ⟨rfl, HB.out⟩
theorem whole_walk2 (W : World) (A : Option Addr) (c : Nat) (l : List S43) (name to_ : ByteArray) (n keep : Int) (g : l.length * 88 ≤ 140737488351232 ∧ l.length ≤ 9223372036854775807 ∧ ∀ y ∈ l, gS43 y) (hr : Kd.C k43 W A l.length l) (hc : l.length ≤ c) (h1 : name.size ≤ 140737488351232) (h2 : to_.size ≤ 140737488351232) (hn : (Lit.int .i64 n).wf = true) (hk : (Lit.int .i64 keep).wf = true) :
    Calls Try.prog 6 #[.slice A l.length c, .string name, .string to_, .int .i64 n, .int .i64 keep] W fun e W' => e = .returned (.bool true) ∧ Below W.heap.size W W' := whole_walk W A c l g hr hc name h1 to_ h2 n hn keep hk
end Go.Proofs.Ytieodkghfceflaa.MD

/- Plain facts of a disk that is full. The law DiskFull, walked. No condition. -/
import Derived.Test.YtieodkghfceflaaGG
import Derived.Laws.MakeOwn
import Derived.Laws.OwnMore
set_option linter.unusedVariables false
set_option linter.unusedSimpArgs false
namespace Go.Proofs.Ytieodkghfceflaa.MD
open Go.Proofs.Ytieodkghfceflaa.Opening Go.Proofs.Ytieodkghfceflaa.Pure
open Go.RowKit Go.Proofs.YtieodkghfceflaaW.PrintWords Go.Proofs.YtieodkghfceflaaW.PrintLast Go.Proofs.YtieodkghfceflaaW.PrintMore
theorem fileOf_put_ne (p s q : ByteArray) (hne : kB q ≠ kB p) : ∀ l : List S76, fileOf (putF l ⟨p, s⟩) q = fileOf l q
  | [] => by unfold putF; rw [fileOf_cons, if_neg (fun e => hne e.symm)]
  | x :: l => by
    unfold putF
    by_cases h1 : kB p < kB x.f0
    · rw [if_pos h1, fileOf_cons, if_neg (fun e => hne e.symm)]
    · rw [if_neg h1]
      by_cases h2 : kB p = kB x.f0
      · rw [if_pos h2, fileOf_cons, if_neg (fun e => hne e.symm), fileOf_cons, if_neg (fun e => hne (by rw [h2, e]))]
      · rw [if_neg h2, fileOf_cons, fileOf_cons, fileOf_put_ne p s q hne l]
theorem fileOf_drop_ne (p q : ByteArray) (hne : kB q ≠ kB p) : ∀ l : List S76, fileOf (dropF l p) q = fileOf l q
  | [] => rfl
  | x :: l => by
    rw [dropF_cons]
    by_cases h2 : kB x.f0 = kB p
    · rw [if_pos h2, fileOf_drop_ne p q hne l, fileOf_cons, if_neg (fun e => hne (e.symm.trans h2))]
    · rw [if_neg h2, fileOf_cons, fileOf_cons, fileOf_drop_ne p q hne l]
/-- A full disk, whose file p holds L; there is no file q. -/
structure Good (m : DS) (p q : ByteArray) (L : List Int) : Prop where
  rise : Rise m.files
  len : m.files.length = 32
  dead : m.dead = false
  armed : m.armed = false
  file : fileOf m.files p = some L
  none_ : fileOf m.files q = none
  ne : kB q ≠ kB p
section
variable {m : DS} {p q : ByteArray} {L : List Int}
theorem Good.own (h : Good m p q L) : ownOf m p = L := by unfold ownOf; rw [h.file]; rfl
theorem Good.more_full (h : Good m p q L) (more : List Int) : fullD m q [] more = true := by
  unfold fullD
  rw [h.none_, h.len]
  simp
theorem Good.put_q (h : Good m p q L) : putD 0 m q [] = (m, 7) := by
  unfold putD layD
  rw [if_neg (by decide), if_pos (h.more_full [])]
theorem Good.append_q (h : Good m p q L) : appendD 0 m q [] = (m, 7) := by
  have e : ownOf m q = [] := by unfold ownOf; rw [h.none_]; rfl
  unfold appendD layD
  rw [if_neg (by decide), e, if_pos (h.more_full [])]
theorem Good.lay_full (h : Good m p q L) (own more : List Int) (hl : own.length + more.length > 262144) : layD m p own more = (m, 7) := by
  unfold layD fullD
  rw [if_pos (by rw [decide_eq_true hl]; rfl)]
theorem Good.set (h : Good m p q L) {m' : DS} (s : List Int) (hs : Bytes s) (hf : m'.files = putF m.files ⟨p, strOfNums s⟩) (hd : m'.dead = false) (ha : m'.armed = false) : Good m' p q s := by
  refine ⟨by rw [hf]; exact putF_rise _ _ h.rise, ?_, hd, ha, ?_, ?_, h.ne⟩
  · rw [hf, putF_length _ _ h.rise, if_pos, h.len]
    obtain ⟨x, hx, e⟩ := fileOf_some (p := p) (l := m.files) (by rw [h.file]; rfl)
    exact ⟨x, hx, e⟩
  · rw [hf, fileOf_put, bytesOf_str hs]
  · rw [hf, fileOf_put_ne _ _ _ h.ne]; exact h.none_
theorem Good.lay_ok (h : Good m p q L) (own more : List Int) (hl : own.length + more.length ≤ 262144) (hb : Bytes (own ++ more)) : ∃ m', layD m p own more = (m', 0) ∧ Good m' p q (own ++ more) := by
  have hf : fullD m p own more = false := by
    unfold fullD
    rw [decide_eq_false (by omega), h.file]
    rfl
  refine ⟨{ nextD m with files := putF m.files ⟨p, strOfNums (own ++ more)⟩ }, ?_, h.set _ hb rfl h.dead h.armed⟩
  unfold layD
  rw [if_neg (by rw [hf]; simp), if_neg (by rw [h.dead]; simp), if_neg (by rw [h.armed]; simp)]
theorem Good.trim (h : Good m p q L) (hb : Bytes L) (n : Nat) (hn : n ≤ L.length) : ∃ m', trimD 0 m p (n : Int) = (m', 0) ∧ Good m' p q (L.take n) := by
  refine ⟨{ nextD m with files := putF m.files ⟨p, strOfNums (L.take n)⟩ }, ?_, h.set _ (fun x hx => hb x (List.mem_of_mem_take hx)) rfl h.dead h.armed⟩
  unfold trimD
  rw [there0 (by rw [h.file]; rfl), if_neg (by decide), h.own, if_neg (by omega), awake_go h.dead h.armed, if_neg (by simp)]
  rfl
theorem Good.remove_q (h : Good m p q L) : removeD 0 m q = (m, 5) := by
  have e : thereD 0 m q = 5 := by unfold thereD; rw [if_neg (by decide), h.none_, if_neg (by simp)]
  unfold removeD
  rw [e, if_pos (by decide)]
theorem Good.remove_put (h : Good m p q L) : ∃ m', removeD 0 m p = (m', 0) ∧ ∃ m'', putD 0 m' q [] = (m'', 0) := by
  obtain ⟨m', e, hf⟩ := awake_remove (m := m) (p := p) (by rw [h.file]; rfl) h.dead h.armed
  refine ⟨m', e, ?_⟩
  have hl := dropF_length m.files p h.rise
  obtain ⟨x, hx, e2⟩ := fileOf_some (p := p) (l := m.files) (by rw [h.file]; rfl)
  rw [if_pos ⟨x, hx, e2.symm⟩, h.len] at hl
  have hg : m' = { (goD m).1 with files := dropF m.files p } := by
    unfold removeD at e
    rw [there0 (by rw [h.file]; rfl), if_neg (by decide), awake_go h.dead h.armed, if_neg (by simp)] at e
    rw [awake_go h.dead h.armed]
    exact (Prod.mk.inj e).1.symm
  have hd : m'.dead = false := by rw [hg, awake_go h.dead h.armed]; exact h.dead
  have ha : m'.armed = false := by rw [hg, awake_go h.dead h.armed]; exact h.armed
  have hfull : fullD m' q [] [] = false := by
    unfold fullD
    rw [hf, fileOf_drop_ne _ _ h.ne, h.none_, decide_eq_false (by simp), decide_eq_false (by omega)]
    rfl
  unfold putD layD
  rw [if_neg (by decide), if_neg (by rw [hfull]; simp), if_neg (by rw [hd]; simp), if_neg (by rw [ha]; simp)]
  exact ⟨_, rfl⟩
end
def nmA (i : Nat) : ByteArray := ⟨#[102, UInt8.ofNat (97 + i % 26), UInt8.ofNat (48 + i / 26)]⟩
def one_ : ByteArray := ⟨#[111, 110, 101, 46, 109, 111, 114, 101]⟩
def mF : Nat → DS
  | 0 => newD
  | i + 1 => (appendD 0 (mF i) (nmA i) []).1
theorem nm_nmA : ∀ i, i < 32 → nm (nmA i) = 0 := by decide +kernel
theorem nm_one : nm one_ = 0 := by decide +kernel
theorem mF_code : ∀ i, i < 32 → (appendD 0 (mF i) (nmA i) []).2 = 0 := by decide +kernel
theorem mF_next (i : Nat) (hi : i < 32) : appendD 0 (mF i) (nmA i) [] = (mF (i + 1), 0) :=
  Prod.ext rfl (mF_code i hi)
theorem mF_inv : ∀ i, i ≤ 32 → Inv i (mF i)
  | 0, _ => Inv.new
  | i + 1, h => by
    have := (mF_inv i (by omega)).appendD (nmA i) []
    rw [nm_nmA i (by omega)] at this
    exact this
theorem mF_len : (mF 32).files.length = 32 := by decide +kernel
theorem mF_flags : (mF 32).dead = false ∧ (mF 32).armed = false := by decide +kernel
theorem mF_one : fileOf (mF 32).files one_ = none := by decide +kernel
theorem mF_good (q : Nat) (hq : q < (mF 32).files.length) : Good (mF 32) (mF 32).files[q].f0 one_ (bytesOf (mF 32).files[q].f1) :=
  ⟨(mF_inv 32 (by omega)).rise, mF_len, mF_flags.1, mF_flags.2, own_at (mF_inv 32 (by omega)) hq, mF_one, fun e => fileOf_none.mp mF_one _ (List.getElem_mem hq) e.symm⟩
/-- A row of zeros. -/
theorem made_C (W : World) (n : Nat) (hn : n ≤ 1000000) : ∃ W', (Instr.makeSlice 27 (.int .i64 (n : Int)) (.int .i64 (n : Int))).run Try.prog W = .ok (.slice (some ⟨W.heap.size, 0, none⟩) n n) W' ∧ Kd.C (Kd.int .u8) W' (some ⟨W.heap.size, 0, none⟩) n (List.replicate n 0) ∧ Below W.heap.size W W' := by
  obtain ⟨i0, hi, hz⟩ : ∃ i0, Try.prog.info? 5 = some i0 ∧ (i0.zero, i0.size, i0.bytes) = (some (.int .u8 0), 1, 1) := Option.map_eq_some_iff.1 (by kernel_rfl : (Try.prog.info? 5).map (fun i => (i.zero, i.size, i.bytes)) = some (some (.int .u8 0), 1, 1))
  simp only [Prod.mk.injEq] at hz
  have h := run_make (P := Try.prog) W 27 5 i0 (.int .u8 0) Try.underlying27 hi hz.1 .i64 .i64 (n : Int) (n : Int) (by omega) (by omega) (by rw [hz.2.2]; omega) (by omega)
  rw [hz.2.1] at h
  simp only [Int.toNat_natCast, Nat.mul_one] at h
  refine ⟨_, h, ?_, below_alloc (Below.refl _ _) _⟩
  have e : madeCells (Value.int .u8 0).cells n = (nums .u8 (List.replicate n 0)).toArray := by
    apply Array.toList_inj.mp
    rw [show (Value.int .u8 0).cells = #[Value.int .u8 0] from rfl, toList_madeCells_one]
    simp [nums]
  rw [e]
  have := C_new W (List.replicate n 0) (by rw [List.length_replicate]; exact hn) (0, 0)
  rw [List.length_replicate] at this
  exact this
end Go.Proofs.Ytieodkghfceflaa.MD
namespace Go.Proofs.Ytieodkghfceflaa.MD
open Go.Proofs.Ytieodkghfceflaa.Opening Go.Proofs.Ytieodkghfceflaa.Pure
open Go.RowKit Go.Proofs.YtieodkghfceflaaW.PrintWords Go.Proofs.YtieodkghfceflaaW.PrintLast Go.Proofs.YtieodkghfceflaaW.PrintMore
theorem name_A (i : Nat) (hi : i < 32) : path_Name.f 10 (nmA i) = some 0 := by
  rw [name_f (by decide +revert) 10 (by decide +revert)]
  exact congrArg some (nm_nmA i hi)
theorem name_one : path_Name.f 10 one_ = some 0 := by
  rw [name_f (by decide) 10 (by decide)]
  exact congrArg some nm_one
/-- One part without bytes, made on the spot. -/
theorem nil_parts (w : World) : ∃ p : World, w.alloc (.cells #[.slice none 0 0] 27) = p ∧ PartsV p (.slice (some ⟨w.heap.size, 0, none⟩) 1 1) [] ∧ Below w.heap.size w p :=
  ⟨_, rfl, .one _ none 0 [] (heap_alloc_new _ _) (Kd.C_nil _ _), below_alloc (Below.refl _ _) _⟩
theorem row_parts (w : World) (A : Option Addr) (c : Nat) (l : List Int) (n : Nat) (hl : l.length = n) (h : Kd.C (Kd.int .u8) w A l.length l) : ∃ p : World, w.alloc (.cells #[.slice A n c] 27) = p ∧ PartsV p (.slice (some ⟨w.heap.size, 0, none⟩) 1 1) l ∧ Below w.heap.size w p := by
  subst hl
  exact ⟨_, rfl, .one _ A c l (heap_alloc_new _ _) (Kd.C_below h (below_alloc (Below.refl _ _) _)), below_alloc (Below.refl _ _) _⟩
theorem byte_row (w : World) (x : Int) : ∃ p : World, w.alloc (.cells #[.int .u8 x] 5) = p ∧ Kd.C (Kd.int .u8) p (some ⟨w.heap.size, 0, none⟩) 1 [x] ∧ Below w.heap.size w p :=
  ⟨_, rfl, C_new w [x] (by simp) (0, 0), below_alloc (Below.refl _ _) _⟩
theorem putD0 (m : DS) (p : ByteArray) (more : List Int) : putD 0 m p more = layD m p [] more := by unfold putD; rw [if_neg (by decide)]
theorem appendD0 (m : DS) (p : ByteArray) (more : List Int) : appendD 0 m p more = layD m p (ownOf m p) more := by unfold appendD; rw [if_neg (by decide)]
theorem index_32 (n : Int) : ∃ q : Nat, wrap64 ((IntKind.u64.wrap n).tmod 32) = (q : Int) ∧ q < 32 := by
  have h0 : 0 ≤ IntKind.u64.wrap n := by
    unfold IntKind.wrap
    simp only [IntKind.signed, IntKind.bits, Bool.false_and, if_false, Bool.false_eq_true]
    exact Int.emod_nonneg _ (by decide)
  obtain ⟨u, hu⟩ := Int.eq_ofNat_of_zero_le h0
  refine ⟨u % 32, ?_, Nat.mod_lt _ (by decide)⟩
  rw [hu, Int.tmod_eq_emod_of_nonneg (by omega)]
  unfold wrap64
  omega
theorem names_kept {W W' : World} {B d mb N : Nat} {O ok : Nat → Prop} {m : DS} {v : Value} {l : List ByteArray} (h : IsD W B O d mb m) (hK : Kept W W' (fun k => k = d ∨ k = mb)) (hR : Kd.R Kd.string 9 W N ok v l) : Kd.R Kd.string 9 W' N ok v l := by
  refine Kd.R_mono (Kd.R_kept (Kd.R_bound hR) hK ?_) (fun k hk => hk.1)
  rintro k ⟨_, _, _, q, hq, cs, hc⟩
  have : q = 9 := by
    rcases List.mem_cons.1 hq with e | e
    · exact e
    · exact absurd e (by simp [Kd.string, Kd.scalar])
  subst this
  exact h.not_dm hc (by decide)
set_option maxRecDepth 100000 in
set_option maxHeartbeats 32000000 in
theorem full_walk (w : World) (n : Int) (hn : (Lit.int .i64 n).wf = true) :
    Calls Try.prog 3 #[.int .i64 n] w fun e w' => e = .returned (.bool true) ∧ Below w.heap.size w w' := by
  clear hn
  go_enter Try.func3, Try.ntmps3
  go_upto_region 4 with (first
    | (go_at_call 7; refine (awake_calls w).mono ?_; rintro e w1 ⟨rfl, hb⟩; have HB1 := Aside0.mk hb; clear hb)
    | (go_at_call 8; refine (new_calls w1 (B := w1.heap.size) (Nat.le_refl _)).mono ?_; rintro e w2 ⟨d, mb, rfl, hD, hb⟩; have HB2 := Aside0.mk (below_then HB1.out HB1.out.size hb); have HD2 := Aside0.mk hD; clear hb hD))
  go_wp2
  go_loopw [4] (fun s4 wr => ∃ (i : Nat) (O : Nat → Prop), s4 = .int .i64 i ∧ Aside0 (i ≤ 32) ∧ Aside0 (IsD wr w1.heap.size O d mb (mF i)) ∧ Aside0 (Below w.heap.size w wr)) (fun s4 wr => 32 - (intOf s4).toNat)
  case atStart => exact ⟨0, _, rfl, ⟨by omega⟩, HD2, HB2⟩
  case round =>
    obtain ⟨i, O, rfl, HI, HD, HB⟩ := hrel
    by_cases hlt : i < 32
    · have d32 : decide ((i : Int) < 32) = true := decide_eq_true (by omega)
      obtain ⟨r, hr⟩ : ∃ r, i % 26 = r := ⟨_, rfl⟩
      obtain ⟨q, hq⟩ : ∃ q, i / 26 = q := ⟨_, rfl⟩
      have n1 : Int.tmod (i : Int) 26 = (r : Int) := by rw [Int.tmod_eq_emod_of_nonneg (by omega)]; omega
      have n2 : Int.tdiv (i : Int) 26 = (q : Int) := by rw [Int.tdiv_eq_ediv_of_nonneg (by omega)]; omega
      have hr26 : r < 26 := by omega
      have hq2 : q < 2 := by omega
      obtain ⟨pa_, hpa⟩ : ∃ p, wr.alloc (.cells #[.int .u8 102, .int .u8 (97 + (r : Int)), .int .u8 (48 + (q : Int))] 5) = p := ⟨_, rfl⟩
      have hba : Below wr.heap.size wr pa_ := by rw [← hpa]; exact below_alloc (Below.refl _ _) _
      have hconv : (convert 27 9 (.slice (some ⟨wr.heap.size, 0, none⟩) 3 3)).run Try.prog pa_ = .ok (.string (nmA i)) pa_ := by
        have h := C_new wr [102, 97 + (r : Int), 48 + (q : Int)] (by simp) (0, 0)
        have h2 := Kd.C_string (c := 3) Try.underlying27 Try.underlying5 Try.underlying9 h
        have e : strOfNums [102, 97 + (r : Int), 48 + (q : Int)] = nmA i := by
          unfold nmA
          rw [hr, hq]
          rfl
        rw [e, show (nums .u8 [102, 97 + (r : Int), 48 + (q : Int)]).toArray = #[.int .u8 102, .int .u8 (97 + (r : Int)), .int .u8 (48 + (q : Int))] from rfl, hpa] at h2
        exact h2
      obtain ⟨pb_, hpb, hPV, hbb⟩ := nil_parts pa_
      have HPV := Aside0.mk hPV
      have HDP := Aside0.mk (HD.out.below (below_then hba hba.size hbb))
      have HBP := Aside0.mk (below_then HB.out HB.out.size (below_then hba hba.size hbb))
      have HOK := Aside0.mk ((mF_inv i HI.out).ok (by have := HI.out; omega))
      have hkb : i + 1 ≤ 1000000 := by omega
      clear hPV hbb hba
      go_wp2_with (first
        | (go_at_call 9; refine (append_calls 10 pb_ HDP.out HPV.out (fun x hx => by cases hx) (by simp) (by simp [nmA, ByteArray.size]) HOK.out 0 (name_A i hlt)).mono ?_; rw [mF_next i hlt]; rintro e w3 ⟨rfl, hA⟩; obtain ⟨O3, hD, _, _, hb⟩ := hA; have HD3 := Aside0.mk hD; have HB3 := Aside0.mk (HBP.out.trans (hb.mono HB1.out.size)); clear hD hb))
      go_roundw
      case rel => exact ⟨i + 1, O3, by go_num, ⟨by omega⟩, HD3, HB3⟩
      case measure => simp [intOf]; omega
    · have hi32 : i = 32 := by have := HI.out; omega
      subst hi32
      clear hlt
      go_upto_region 10 with (first
        | (go_at_call 10; refine (names_calls wr HD.out (by rw [mF_len]; decide)).mono ?_; rintro e w3 ⟨v, rfl, hR, hB⟩; obtain ⟨Al, cl, hv0⟩ := Kd.R_slice hR; have hv : v = .slice Al 32 cl := hv0.trans (by rw [List.length_map, mF_len]); clear hv0; subst hv; have HR := Aside0.mk hR; have HD3 := Aside0.mk (HD.out.below hB); have HB3 := Aside0.mk (below_then HB.out HB.out.size hB); clear hR hB))
      obtain ⟨M, hM⟩ : ∃ M, mF 32 = M := ⟨_, rfl⟩
      have HGD := Aside0.mk mF_good
      have HIV := Aside0.mk (mF_inv 32 (by omega))
      have HLEN := Aside0.mk mF_len
      rw [hM] at HGD HIV HLEN HD3 HR
      clear hM HD2
      have HOK := Aside0.mk (HIV.out.ok (by decide))
      have HG0 := HGD.out 0 (by rw [HLEN.out]; omega)
      have EP := Aside0.mk HG0.put_q
      have EA := Aside0.mk HG0.append_q
      clear HG0
      obtain ⟨p3, hp3, hPV, hb3⟩ := nil_parts w3
      have HV3 := Aside0.mk hPV
      have HDp3 := Aside0.mk (HD3.out.below hb3)
      have HBp3 := Aside0.mk (below_then HB3.out HB3.out.size hb3)
      clear hPV
      go_upto_region 12 with (first
        | (go_at_call 11; refine (put_calls 10 p3 HDp3.out HV3.out (fun x hx => by cases hx) (by simp) (by decide) HOK.out 0 name_one).mono ?_; rw [EP.out]; rintro e w4 ⟨rfl, hA⟩; obtain ⟨O4, hD, _, hK4, hb⟩ := hA; have HD4 := Aside0.mk hD; have HB4 := Aside0.mk (HBp3.out.trans (hb.mono HB1.out.size)); have HK4 := Aside0.mk hK4; clear hD hb hK4 hp3; obtain ⟨p4, hp4, hPV, hb4⟩ := nil_parts w4; have HV4 := Aside0.mk hPV; have HDp4 := Aside0.mk (HD4.out.below hb4); have HBp4 := Aside0.mk (below_then HB4.out HB4.out.size hb4); clear hPV)
        | (go_at_call 9; refine (append_calls 10 p4 HDp4.out HV4.out (fun x hx => by cases hx) (by simp) (by decide) HOK.out 0 name_one).mono ?_; rw [EA.out]; rintro e w5 ⟨rfl, hA⟩; obtain ⟨O5, hD, _, hK5, hb⟩ := hA; have HD5 := Aside0.mk hD; have HB5 := Aside0.mk (HBp4.out.trans (hb.mono HB1.out.size)); have HK5 := Aside0.mk hK5; clear hD hb hK5 hp4))
      obtain ⟨q, hq, hq32⟩ : ∃ q : Nat, wrap64 ((IntKind.u64.wrap n).tmod 32) = (q : Int) ∧ q < 32 := index_32 n
      have hqi : q < M.files.length := by rw [HLEN.out]; exact hq32
      have HR5 := Aside0.mk (names_kept HDp4.out HK5.out (Kd.R_below (names_kept HDp3.out HK4.out (Kd.R_below HR.out hb3)) hb4))
      obtain ⟨x, hx⟩ : ∃ x, M.files[q] = x := ⟨_, rfl⟩
      obtain ⟨gx, hA, hbg, hcl, hfz, hset⟩ := R_scalar_at HR5.out q (by simpa using hqi)
      subst hA
      rw [List.getElem_map, hx] at hcl
      have HG := HGD.out q hqi
      rw [hx] at HG
      have hnm : nm x.f0 = 0 := nm_true (by rw [← hx]; exact HIV.out.names _ (List.getElem_mem hqi))
      have hps : x.f0.size ≤ 140737488351232 := by
        have h := HIV.out.names _ (List.getElem_mem hqi)
        rw [hx] at h
        unfold nameK at h
        rw [Bool.and_eq_true, decide_eq_true_eq, key_len] at h
        omega
      obtain ⟨k0, hk0⟩ : ∃ k0, x.f0.size + 1 = k0 := ⟨_, rfl⟩
      have HNM : Aside0 (path_Name.f k0 x.f0 = some 0) := ⟨by rw [name_f hps k0 (by omega)]; exact congrArg some hnm⟩
      have HPS : Aside0 (x.f0.size ≤ 140737488355328) := ⟨by omega⟩
      obtain ⟨p, hp⟩ : ∃ p, x.f0 = p := ⟨_, rfl⟩
      rw [hp] at hcl HG hnm HNM HPS
      obtain ⟨Z, hZ⟩ : ∃ Z : List Int, List.replicate 262144 0 = Z := ⟨_, rfl⟩
      have hZl : Z.length = 262144 := by rw [← hZ, List.length_replicate]
      have hZb : Bytes Z := fun y hy => by rw [← hZ] at hy; rw [List.eq_of_mem_replicate hy]; omega
      obtain ⟨w6, hmk0, hC6, hb6⟩ := made_C w5 262144 (by decide)
      have hmk : (Instr.makeSlice 27 (.int .i64 262144) (.int .i64 262144)).run Try.prog w5 = .ok (.slice (some ⟨w5.heap.size, 0, none⟩) 262144 262144) w6 := hmk0
      clear hmk0
      rw [hZ] at hC6
      have HFZ : Aside0 (¬ (w5.heap.size = d ∨ w5.heap.size = mb)) := ⟨by have h1 := blk_lt HD5.out.blk; have h2 := HD5.out.files.lt; omega⟩
      have HD6 := Aside0.mk (HD5.out.below hb6)
      have HB6 := Aside0.mk (below_then HB5.out HB5.out.size hb6)
      have E2 : Aside0 (putD 0 M p (Z ++ [1]) = (M, 7)) := ⟨by rw [putD0]; exact HG.lay_full _ _ (by rw [List.length_append, hZl]; simp)⟩
      obtain ⟨M1, e3, G1⟩ := HG.lay_ok [] Z (by rw [hZl]; simp) (by simpa using hZb)
      rw [List.nil_append] at G1
      have E3 : Aside0 (putD 0 M p Z = (M1, 0)) := ⟨by rw [putD0]; exact e3⟩
      have E4 : Aside0 (appendD 0 M1 p [1] = (M1, 7)) := ⟨by rw [appendD0, G1.own]; exact G1.lay_full _ _ (by rw [hZl]; simp)⟩
      obtain ⟨M2, e5, G2⟩ := G1.lay_ok Z [] (by rw [hZl]; simp) (by simpa using hZb)
      rw [List.append_nil] at G2
      have E5 : Aside0 (appendD 0 M1 p [] = (M2, 0)) := ⟨by rw [appendD0, G1.own]; exact e5⟩
      obtain ⟨M3, e6, G3⟩ := G2.trim hZb 262143 (by rw [hZl]; decide)
      have E6 : Aside0 (trimD 0 M2 p 262143 = (M3, 0)) := ⟨e6⟩
      obtain ⟨Y, hY⟩ : ∃ Y, Z.take 262143 = Y := ⟨_, rfl⟩
      rw [hY] at G3
      have hYl : Y.length = 262143 := by rw [← hY, List.length_take, hZl]; decide
      have hYb : Bytes (Y ++ [7]) := fun y hy => by
        rcases List.mem_append.1 hy with h | h
        · rw [← hY] at h; exact hZb y (List.mem_of_mem_take h)
        · rw [List.mem_singleton.1 h]; omega
      obtain ⟨M4, e7, G4⟩ := G3.lay_ok Y [7] (by rw [hYl]; simp) hYb
      have E7 : Aside0 (appendD 0 M3 p [7] = (M4, 0)) := ⟨by rw [appendD0, G3.own]; exact e7⟩
      obtain ⟨LB, hLB⟩ : ∃ LB, Y ++ [7] = LB := ⟨_, rfl⟩
      rw [hLB] at G4
      have HLBl : Aside0 (LB.length = 262144) := ⟨by rw [← hLB, List.length_append, hYl]; rfl⟩
      have HLB7 : Aside0 (∀ h : 262143 < LB.length, LB[262143] = 7) := ⟨fun h => by
        have e : LB[262143]? = some 7 := by rw [← hLB, List.getElem?_append_right (by rw [hYl]; decide), hYl]; rfl
        rw [List.getElem?_eq_getElem h] at e
        exact Option.some.inj e⟩
      have E9 := Aside0.mk G4.remove_q
      have HF4 := Aside0.mk G4.file
      have HO4 := Aside0.mk G4.own
      obtain ⟨M5, e10, M6, e11⟩ := G4.remove_put
      have E10 := Aside0.mk e10
      have E11 := Aside0.mk e11
      have I1 : Inv 33 M1 := by have h := HIV.out.putD p Z; rw [hnm, E3.out] at h; exact h
      have I2 : Inv 34 M2 := by have h := I1.appendD p []; rw [hnm, E5.out] at h; exact h
      have I3 : Inv 35 M3 := by have h := I2.trimD (by decide) p 262143; rw [hnm, E6.out] at h; exact h
      have I4 : Inv 36 M4 := by have h := I3.appendD p [7]; rw [hnm, E7.out] at h; exact h
      have I5 : Inv 37 M5 := by have h := I4.removeD p; rw [hnm, e10] at h; exact h
      have K1 := Aside0.mk (I1.ok (by decide))
      have K2 := Aside0.mk (I2.ok (by decide))
      have K3 := Aside0.mk (I3.ok (by decide))
      have K4 := Aside0.mk (I4.ok (by decide))
      have K5 := Aside0.mk (I5.ok (by decide))
      have HZl := Aside0.mk hZl
      have HZb := Aside0.mk hZb
      have B1 : Aside0 (Bytes [1]) := ⟨by intro y hy; rw [List.mem_singleton.1 hy]; omega⟩
      have B7 : Aside0 (Bytes [7]) := ⟨by intro y hy; rw [List.mem_singleton.1 hy]; omega⟩
      have BZ1 : Aside0 (Bytes (Z ++ [1])) := ⟨fun y hy => by
        rcases List.mem_append.1 hy with h | h
        · exact hZb y h
        · exact B1.out y h⟩
      clear hset hfz hbg hx HG hnm hps hk0 hp hZ hZb e3 e5 e6 e7 e10 e11 G1 G2 G3 G4 hY hYl hYb hLB I1 I2 I3 I4 I5 hqi hb3 hb4 HR HR5
      have hqa : (0 : Int) ≤ (q : Int) := by omega
      have hqb : (q : Int) < 32 := by omega
      obtain ⟨pa_, hpa, hCa, hba⟩ := byte_row w6 1
      have hCZa := Kd.C_below hC6 hba
      obtain ⟨pb_, hpb⟩ : ∃ p, pa_.alloc (.cells #[.slice (some ⟨w5.heap.size, 0, none⟩) 262144 262144, .slice (some ⟨w6.heap.size, 0, none⟩) 1 1] 27) = p := ⟨_, rfl⟩
      have hbb : Below pa_.heap.size pa_ pb_ := by rw [← hpb]; exact below_alloc (Below.refl _ _) _
      have HVb : Aside0 (PartsV pb_ (.slice (some ⟨pa_.heap.size, 0, none⟩) 2 2) (Z ++ [1])) := ⟨.two _ _ _ 262144 1 Z [1] (by rw [hZl, ← hpb]; exact heap_alloc_new _ _) (by rw [hZl]; exact Kd.C_below hCZa hbb) (Kd.C_below hCa hbb)⟩
      have HDb := Aside0.mk ((HD6.out.below hba).below hbb)
      have HBb := Aside0.mk (below_then (below_then HB6.out HB6.out.size hba) (below_then HB6.out HB6.out.size hba).size hbb)
      have HZB := Aside0.mk (Kd.C_below hCZa hbb)
      clear hZl hCa hCZa hbb hba hC6 hb6
      have tok1 : True := trivial
      have tok2 : True := trivial
      have tok3 : True := trivial
      have tok4 : True := trivial
      have tok5 : True := trivial
      go_upto_region 16 with (first
        | (go_at_call 11; have _t := tok1; clear _t; refine (put_calls k0 pb_ HDb.out HVb.out BZ1.out (by rw [List.length_append, HZl.out]; decide) HPS.out HOK.out 0 HNM.out).mono ?_; rw [E2.out]; rintro e w7 ⟨rfl, hA⟩; obtain ⟨O7, hD, _, hK, hb⟩ := hA; have HD7 := Aside0.mk hD; have HB7 := Aside0.mk (HBb.out.trans (hb.mono HB1.out.size)); have hCZ7 := Kd.C_foot_neS (fun h => h) HZB.out (fun ad ha hn => by cases ha; exact HFZ.out) w7 hK; obtain ⟨pc_, hpc, hPV, hbc⟩ := row_parts w7 _ 262144 Z 262144 HZl.out (by rw [HZl.out]; exact hCZ7); have HVc := Aside0.mk hPV; have HDc := Aside0.mk (HD7.out.below hbc); have HBc := Aside0.mk (below_then HB7.out HB7.out.size hbc); clear hD hK hb hCZ7 hPV hbc hpa hpb tok1 HVb)
        | (go_at_call 11; have _t := tok2; clear _t; refine (put_calls k0 pc_ HDc.out HVc.out HZb.out (by rw [HZl.out]; decide) HPS.out HOK.out 0 HNM.out).mono ?_; rw [E3.out]; rintro e w8 ⟨rfl, hA⟩; obtain ⟨O8, hD, _, _, hb⟩ := hA; have HD8 := Aside0.mk hD; have HB8 := Aside0.mk (HBc.out.trans (hb.mono HB1.out.size)); clear hD hb hpc tok2; obtain ⟨pd_, hpd, hCd, hbd⟩ := byte_row w8 1; obtain ⟨pe_, hpe, hPV, hbe⟩ := row_parts pd_ _ 1 [1] 1 rfl hCd; have HVe := Aside0.mk hPV; have HDe := Aside0.mk ((HD8.out.below hbd).below hbe); have HBe := Aside0.mk (below_then (below_then HB8.out HB8.out.size hbd) (below_then HB8.out HB8.out.size hbd).size hbe); clear hPV hCd hbd hbe)
        | (go_at_call 9; have _t := tok3; clear _t; refine (append_calls k0 pe_ HDe.out HVe.out B1.out (by simp) HPS.out K1.out 0 HNM.out).mono ?_; rw [E4.out]; rintro e w9 ⟨rfl, hA⟩; obtain ⟨O9, hD, _, _, hb⟩ := hA; have HD9 := Aside0.mk hD; have HB9 := Aside0.mk (HBe.out.trans (hb.mono HB1.out.size)); clear hD hb hpd hpe tok3; obtain ⟨pf_, hpf, hPV, hbf⟩ := nil_parts w9; have HVf := Aside0.mk hPV; have HDf := Aside0.mk (HD9.out.below hbf); have HBf := Aside0.mk (below_then HB9.out HB9.out.size hbf); clear hPV hbf)
        | (go_at_call 9; have _t := tok4; clear _t; refine (append_calls k0 pf_ HDf.out HVf.out (fun x hx => by cases hx) (by simp) HPS.out K1.out 0 HNM.out).mono ?_; rw [E5.out]; rintro e w10 ⟨rfl, hA⟩; obtain ⟨O10, hD, _, _, hb⟩ := hA; have HD10 := Aside0.mk hD; have HB10 := Aside0.mk (HBf.out.trans (hb.mono HB1.out.size)); clear hD hb hpf tok4)
        | (go_at_call 12; refine (trim_calls k0 w10 HD10.out HPS.out K2.out 0 HNM.out 262143).mono ?_; rw [E6.out]; rintro e w11 ⟨rfl, hA⟩; obtain ⟨O11, hD, _, _, hb⟩ := hA; have HD11 := Aside0.mk hD; have HB11 := Aside0.mk (HB10.out.trans (hb.mono HB1.out.size)); clear hD hb; obtain ⟨pg_, hpg, hCg, hbg⟩ := byte_row w11 7; obtain ⟨ph_, hph, hPV, hbh⟩ := row_parts pg_ _ 1 [7] 1 rfl hCg; have HVh := Aside0.mk hPV; have HDh := Aside0.mk ((HD11.out.below hbg).below hbh); have HBh := Aside0.mk (below_then (below_then HB11.out HB11.out.size hbg) (below_then HB11.out HB11.out.size hbg).size hbh); clear hPV hCg hbg hbh)
        | (go_at_call 9; have _t := tok5; clear _t; refine (append_calls k0 ph_ HDh.out HVh.out B7.out (by simp) HPS.out K3.out 0 HNM.out).mono ?_; rw [E7.out]; rintro e w12 ⟨rfl, hA⟩; obtain ⟨O12, hD, _, _, hb⟩ := hA; have HD12 := Aside0.mk hD; have HB12 := Aside0.mk (HBh.out.trans (hb.mono HB1.out.size)); clear hD hb hpg hph tok5))
      have tok6 : True := trivial
      have tok7 : True := trivial
      go_wp2_with (first
        | (go_at_call 13; refine (read_calls w12 HD12.out HPS.out K4.out).mono ?_; rintro e w13 ⟨v, rfl, hR, hB⟩; rw [HF4.out]; rw [HO4.out] at hR; obtain ⟨Ab, cb, hv0⟩ := Kd.R_slice hR; have hv : v = .slice Ab 262144 cb := hv0.trans (by rw [HLBl.out]); clear hv0; subst hv; have HD13 := Aside0.mk (HD12.out.below hB); have HB13 := Aside0.mk (below_then HB12.out HB12.out.size hB); obtain ⟨gb, hA, hbg, hc7, hfz, hset⟩ := R_scalar_at hR 262143 (by rw [HLBl.out]; decide); subst hA; rw [HLB7.out] at hc7; clear hR hB hbg hfz hset)
        | (go_at_call 14; have _t := tok6; clear _t; refine (remove_calls 10 w13 HD13.out (p := one_) (by decide) K4.out 0 name_one).mono ?_; rw [E9.out]; rintro e w14 ⟨rfl, hA⟩; obtain ⟨O14, hD, _, _, hb⟩ := hA; have HD14 := Aside0.mk hD; have HB14 := Aside0.mk (HB13.out.trans (hb.mono HB1.out.size)); clear hD hb tok6)
        | (go_at_call 14; have _t := tok7; clear _t; refine (remove_calls k0 w14 HD14.out HPS.out K4.out 0 HNM.out).mono ?_; rw [E10.out]; rintro e w15 ⟨rfl, hA⟩; obtain ⟨O15, hD, _, _, hb⟩ := hA; have HD15 := Aside0.mk hD; have HB15 := Aside0.mk (HB14.out.trans (hb.mono HB1.out.size)); clear hD hb tok7; obtain ⟨pi_, hpi, hPV, hbi⟩ := nil_parts w15; have HVi := Aside0.mk hPV; have HDi := Aside0.mk (HD15.out.below hbi); have HBi := Aside0.mk (below_then HB15.out HB15.out.size hbi); clear hPV hbi)
        | (go_at_call 11; refine (put_calls 10 pi_ HDi.out HVi.out (fun x hx => by cases hx) (by simp) (by decide) K5.out 0 name_one).mono ?_; rw [E11.out]; rintro e w16 ⟨rfl, hA⟩; obtain ⟨O16, hD, _, _, hb⟩ := hA; have HB16 := Aside0.mk (HBi.out.trans (hb.mono HB1.out.size)); clear hD hb))
      go_ret
      exact ⟨rfl, HB16.out⟩
end Go.Proofs.Ytieodkghfceflaa.MD

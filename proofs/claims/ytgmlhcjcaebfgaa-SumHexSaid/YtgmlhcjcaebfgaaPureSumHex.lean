/- The plain statement of the law SumHex, without program and memory: IDs and their digits are one to one, and every other text is refused. No condition. -/
import Derived.Test.YtgmlhcjcaebfgaaMAx3
import Derived.Test.YtgmlhcjcaebfgaaPlainSum
namespace Go.Proofs.Ytgmlhcjcaebfgaa.Pure
open Go.RowKit Go.Proofs.Ytgmlhcjcaebfgaa.Opening Go.Proofs.Ytgmlhcjcaebfgaa.MA Go.Proofs.YtgmlhcjcaebfgaaW.PrintWords Go.Proofs.YtgmlhcjcaebfgaaW.PrintLast Go.Proofs.YtgmlhcjcaebfgaaW.PrintMore

/-! ### Digits and their places -/
def dig (c : Int) : Option Nat := if 48 ≤ c ∧ c ≤ 57 then some (c.toNat - 48) else if 97 ≤ c ∧ c ≤ 102 then some (c.toNat - 87) else none
theorem dig_lt {c : Int} {d : Nat} (h : dig c = some d) : d < 16 ∧ hexDig d = c := by
  unfold dig at h
  unfold hexDig
  split at h
  · injection h with h
    constructor
    · omega
    · split <;> omega
  · split at h
    · injection h with h
      constructor
      · omega
      · split <;> omega
    · cases h
theorem dig_hex : ∀ d : Nat, d < 16 → dig (hexDig d) = some d := by decide
def parseN : List Int → Nat → Option Nat
  | [], v => some v
  | c :: cs, v => match dig c with
    | some d => parseN cs (v * 16 + d)
    | none => none
def parseOf (s : ByteArray) : Int × Int := if s.size = 16 then (match parseN (bytesOf s) 0 with | some v => ((v : Int), 0) | none => (0, 9)) else (0, 9)
theorem bt_nat {s : ByteArray} {j : Nat} (h : j < s.size) : bt s (j : Int) = (bytesOf s)[j]'(by rw [bytesOf_length]; exact h) := by
  have : (j : Int).toNat < s.size := by simpa using h
  rw [bt, dif_pos this]
  simp [bytesOf]
  rfl
theorem bytesOf_range (s : ByteArray) : ∀ y ∈ bytesOf s, 0 ≤ y ∧ y < 256 := by
  intro y hy
  obtain ⟨b, _, rfl⟩ := List.mem_map.1 hy
  have := b.toNat_lt
  omega
theorem pow_mono16 {a b : Nat} (h : a ≤ b) : 16 ^ a ≤ 16 ^ b := Nat.pow_le_pow_right (by decide) h
theorem or_digit (v d : Nat) (hv : v * 16 < 18446744073709551616) (hd : d < 16) : Go.bits .or .u64 (IntKind.u64.wrap ((v : Int) * 16)) (d : Int) = ((v * 16 + d : Nat) : Int) := by
  rw [u64_id (by omega) (by omega)]
  have h := bits_join .u64 64 (by decide) (fun n h0 h1 => u64_id h0 h1) 4 ((v : Int) * 16) (d : Int) (by omega) (by omega) (by omega) (by omega) (by omega) (by omega)
  rw [h]
  omega
def outOf (o : Option Nat) : Int × Int := match o with | some v => ((v : Int), 0) | none => (0, 9)

theorem parse_l0 (s : ByteArray) (hs : s.size = 16) : ∀ (d j v : Nat), j + d = 16 → v < 16 ^ j →
    Ev (fun k => sum_Parse.l0 k s (v : Int) (s.size : Int) (j : Int)) (outOf (parseN ((bytesOf s).drop j) v)) := by
  intro d
  have hbl : (bytesOf s).length = 16 := by rw [bytesOf_length, hs]
  induction d with
  | zero =>
    intro j v hj hv
    refine Ev.step (f := fun _ => some ((v : Int), 0)) (fun k => ?_) ?_
    · simp only [sum_Parse.l0]; rw [if_neg (by omega)]
    · rw [List.drop_eq_nil_of_le (by omega)]; exact Ev.now _
  | succ d ih =>
    intro j v hj hv
    have hlt : j < s.size := by omega
    have hlt2 : j < (bytesOf s).length := by omega
    have hv16 : v * 16 < 18446744073709551616 := by
      have h1 : 16 ^ j ≤ 16 ^ 15 := pow_mono16 (by omega)
      have h2 : 16 ^ 15 = 1152921504606846976 := by decide
      omega
    have hc := bytesOf_range s ((bytesOf s)[j]) (List.getElem_mem hlt2)
    rw [List.drop_eq_getElem_cons hlt2]
    generalize hcc : (bytesOf s)[j] = c at *
    have hbt : bt s (j : Int) = c := by rw [bt_nat hlt, hcc]
    have next : ∀ d' : Nat, dig c = some d' → Ev (fun k => sum_Parse.l0 k s ((v * 16 + d' : Nat) : Int) (s.size : Int) ((j + 1 : Nat) : Int)) (outOf (parseN (c :: (bytesOf s).drop (j + 1)) v)) := by
      intro d' hd'
      have hlt' := (dig_lt hd').1
      have h := ih (j + 1) (v * 16 + d') (by omega) (by rw [Nat.pow_succ]; omega)
      simp only [parseN, hd']
      exact h
    by_cases h48 : c ≥ 48
    · by_cases h57 : c ≤ 57
      · have hd : dig c = some (c.toNat - 48) := by unfold dig; rw [if_pos ⟨by omega, h57⟩]
        refine Ev.step (f := fun k => sum_Parse.j1 k s (v : Int) c (s.size : Int) (j : Int) true) (fun k => ?_) ?_
        · simp only [sum_Parse.l0]; rw [if_pos (by omega), if_pos (by omega), if_pos (by omega), hbt, if_pos h48, decide_eq_true h57]
        · refine Ev.step (fun k => ?_) (next _ hd)
          simp only [sum_Parse.j1]
          rw [if_pos trivial, wrap_succ (by omega), show (c - 48) % 256 = ((c.toNat - 48 : Nat) : Int) by omega, or_digit _ _ hv16 (by omega)]
      · refine Ev.step (f := fun k => sum_Parse.j1 k s (v : Int) c (s.size : Int) (j : Int) false) (fun k => ?_) ?_
        · simp only [sum_Parse.l0]; rw [if_pos (by omega), if_pos (by omega), if_pos (by omega), hbt, if_pos h48, decide_eq_false h57]
        · by_cases h97 : c ≥ 97
          · by_cases h102 : c ≤ 102
            · have hd : dig c = some (c.toNat - 87) := by unfold dig; rw [if_neg (by omega), if_pos ⟨by omega, h102⟩]
              refine Ev.step (fun k => ?_) (next _ hd)
              simp only [sum_Parse.j1]
              rw [if_neg (by decide), if_pos h97, if_pos h102, wrap_succ (by omega), show ((c - 97) % 256 + 10) % 256 = ((c.toNat - 87 : Nat) : Int) by omega, or_digit _ _ hv16 (by omega)]
            · have hd : dig c = none := by unfold dig; rw [if_neg (by omega), if_neg (by omega)]
              refine Ev.step (f := fun _ => some (0, 9)) (fun k => ?_) ?_
              · simp only [sum_Parse.j1]; rw [if_neg (by decide), if_pos h97, if_neg h102]
              · simp only [parseN, hd]; exact Ev.now _
          · have hd : dig c = none := by unfold dig; rw [if_neg (by omega), if_neg (by omega)]
            refine Ev.step (f := fun _ => some (0, 9)) (fun k => ?_) ?_
            · simp only [sum_Parse.j1]; rw [if_neg (by decide), if_neg h97]
            · simp only [parseN, hd]; exact Ev.now _
    · have hd : dig c = none := by unfold dig; rw [if_neg (by omega), if_neg (by omega)]
      refine Ev.step (f := fun k => sum_Parse.j1 k s (v : Int) c (s.size : Int) (j : Int) false) (fun k => ?_) ?_
      · simp only [sum_Parse.l0]; rw [if_pos (by omega), if_pos (by omega), if_pos (by omega), hbt, if_neg h48]
      · refine Ev.step (f := fun _ => some (0, 9)) (fun k => ?_) ?_
        · simp only [sum_Parse.j1]; rw [if_neg (by decide), if_neg (by omega)]
        · simp only [parseN, hd]; exact Ev.now _
theorem parse_ev (s : ByteArray) : Ev (fun k => sum_Parse.f k s) (parseOf s) := by
  unfold parseOf
  by_cases hs : s.size = 16
  · rw [if_pos hs]
    have h := parse_l0 s hs 16 0 0 (by omega) (by decide)
    rw [List.drop_zero] at h
    refine Ev.congr (fun k => ?_) h
    unfold sum_Parse.f
    rw [if_pos (by omega)]
    rfl
  · rw [if_neg hs]
    refine Ev.congr (f := fun _ => some (0, 9)) (fun k => ?_) (Ev.now _)
    unfold sum_Parse.f
    rw [if_neg (by omega)]

/-! ### The reference's -/
theorem digit_eq (d : Nat) (h : d < 16) : forebearref01_digit.f (d : Int) = some (hexDig d) := by
  have : ∀ d : Nat, d < 16 → forebearref01_digit.f (d : Int) = some (hexDig d) := by decide
  exact this d h
def placeFrom (c : Int) (at_ : Int) (l : List Nat) : Int := l.foldl (fun (a : Int) (k : Nat) => if hexDig (k : Int) = c then (k : Int) else a) at_
theorem place_dig (c : Int) (h0 : 0 ≤ c) (h1 : c < 256) : placeFrom c 16 (List.range 16) = match dig c with | some d => (d : Int) | none => 16 := by
  have : ∀ n : Nat, n < 256 → placeFrom (n : Int) 16 (List.range 16) = match dig (n : Int) with | some d => (d : Int) | none => 16 := by decide +kernel
  obtain ⟨n, rfl⟩ := Int.eq_ofNat_of_zero_le h0
  exact this n (by omega)
theorem refparse_l1 (s : ByteArray) (v i : Int) (h0 : 0 ≤ i) (h1 : i < (s.size : Int)) (r : Int × Int) : ∀ (d m : Nat) (a : Int), m + d = 16 →
    Ev (fun k => if placeFrom (bt s i) a ((List.range 16).drop m) = 16 then some ((0 : Int), (9 : Int)) else forebearref01_Parse.l0 k s (IntKind.u64.wrap ((IntKind.u64.wrap (v * 16)) + placeFrom (bt s i) a ((List.range 16).drop m))) (wrap64 (i + 1))) r →
    Ev (fun k => forebearref01_Parse.l1 k s v i a (m : Int)) r := by
  intro d
  induction d with
  | zero =>
    intro m a hm h
    obtain rfl : m = 16 := by omega
    refine Ev.step (fun k => ?_) h
    simp only [forebearref01_Parse.l1]
    rw [if_neg (by omega)]
    rfl
  | succ d ih =>
    intro m a hm h
    have hm16 : m < (List.range 16).length := by simp; omega
    rw [List.drop_eq_getElem_cons hm16, List.getElem_range] at h
    refine Ev.step (f := fun k => forebearref01_Parse.l1 k s v i (if hexDig m = bt s i then (m : Int) else a) ((m + 1 : Nat) : Int)) (fun k => ?_) (ih (m + 1) _ (by omega) h)
    simp only [forebearref01_Parse.l1]
    rw [if_pos (by omega), digit_eq m (by omega)]
    simp only [Option.bind_some]
    rw [if_pos h0, if_pos h1, u64_id (by omega) (by omega)]
    by_cases he : hexDig m = bt s i
    · rw [if_pos he, if_pos he]; rfl
    · rw [if_neg he, if_neg he]; rfl
theorem refparse_l0 (s : ByteArray) (hs : s.size = 16) : ∀ (d j v : Nat), j + d = 16 → v < 16 ^ j →
    Ev (fun k => forebearref01_Parse.l0 k s (v : Int) (j : Int)) (outOf (parseN ((bytesOf s).drop j) v)) := by
  intro d
  have hbl : (bytesOf s).length = 16 := by rw [bytesOf_length, hs]
  induction d with
  | zero =>
    intro j v hj hv
    refine Ev.step (f := fun _ => some ((v : Int), 0)) (fun k => ?_) ?_
    · simp only [forebearref01_Parse.l0]; rw [if_neg (by omega)]
    · rw [List.drop_eq_nil_of_le (by omega)]; exact Ev.now _
  | succ d ih =>
    intro j v hj hv
    have hlt : j < s.size := by omega
    have hlt2 : j < (bytesOf s).length := by omega
    have hv16 : v * 16 < 18446744073709551616 - 15 := by
      have h1 : 16 ^ j ≤ 16 ^ 15 := pow_mono16 (by omega)
      have h2 : 16 ^ 15 = 1152921504606846976 := by decide
      omega
    have hc := bytesOf_range s ((bytesOf s)[j]) (List.getElem_mem hlt2)
    rw [List.drop_eq_getElem_cons hlt2]
    generalize hcc : (bytesOf s)[j] = c at *
    have hbt : bt s (j : Int) = c := by rw [bt_nat hlt, hcc]
    refine Ev.step (f := fun k => forebearref01_Parse.l1 k s (v : Int) (j : Int) 16 ((0 : Nat) : Int)) (fun k => ?_) ?_
    · simp only [forebearref01_Parse.l0]; rw [if_pos (by omega)]; rfl
    · refine refparse_l1 s _ _ (by omega) (by omega) _ 16 0 16 (by omega) ?_
      rw [List.drop_zero, hbt, place_dig c hc.1 hc.2]
      cases hd : dig c with
      | none =>
        simp only [parseN, hd]
        exact Ev.congr (fun k => if_pos trivial) (Ev.now _)
      | some d' =>
        have hlt' := (dig_lt hd).1
        simp only [parseN, hd]
        refine Ev.congr (fun k => ?_) (ih (j + 1) (v * 16 + d') (by omega) (by rw [Nat.pow_succ]; omega))
        rw [if_neg (by omega), wrap_succ (by omega), u64_id (n := (v : Int) * 16) (by omega) (by omega), u64_id (by omega) (by omega)]
        rfl
theorem refparse_ev (s : ByteArray) : Ev (fun k => forebearref01_Parse.f k s) (parseOf s) := by
  unfold parseOf
  by_cases hs : s.size = 16
  · rw [if_pos hs]
    have h := refparse_l0 s hs 16 0 0 (by omega) (by decide)
    rw [List.drop_zero] at h
    refine Ev.congr (fun k => ?_) h
    unfold forebearref01_Parse.f
    rw [if_pos (by omega)]
    rfl
  · rw [if_neg hs]
    refine Ev.congr (f := fun _ => some (0, 9)) (fun k => ?_) (Ev.now _)
    unfold forebearref01_Parse.f
    rw [if_neg (by omega)]

/-! ### Sixteen digits -/
def digitsN (v m : Nat) : List Int := (List.range m).map fun i => hexDig ((v / 16 ^ (m - 1 - i) % 16 : Nat) : Int)
theorem hexNums_nat (v : Nat) : hexNums (v : Int) = digitsN v 16 := by
  unfold hexNums digitsN
  refine List.map_congr_left fun i _ => ?_
  congr 1
theorem digitsN_snoc (v m : Nat) : digitsN v (m + 1) = digitsN (v / 16) m ++ [hexDig ((v % 16 : Nat) : Int)] := by
  unfold digitsN
  rw [List.range_succ, List.map_append]
  congr 1
  · refine List.map_congr_left fun i hi => ?_
    have hi' : i < m := List.mem_range.1 hi
    rw [Nat.div_div_eq_div_mul, show m + 1 - 1 - i = (m - 1 - i) + 1 by omega, Nat.pow_succ, Nat.mul_comm 16]
  all_goals simp
theorem parseN_append : ∀ (xs ys : List Int) (v : Nat), parseN (xs ++ ys) v = (parseN xs v).bind (parseN ys)
  | [], ys, v => rfl
  | c :: cs, ys, v => by
    simp only [List.cons_append, parseN]
    cases dig c with
    | none => rfl
    | some d => exact parseN_append cs ys _
theorem parse_digits : ∀ (m v : Nat), v < 16 ^ m → parseN (digitsN v m) 0 = some v
  | 0, v, h => by simp at h; subst h; rfl
  | m + 1, v, h => by
    rw [digitsN_snoc, parseN_append, parse_digits m (v / 16) (by rw [Nat.pow_succ] at h; omega)]
    simp only [Option.bind_some, parseN, dig_hex _ (Nat.mod_lt v (by decide))]
    congr 1
    omega
theorem digits_parse : ∀ (m : Nat) (xs : List Int) (v : Nat), xs.length = m → parseN xs 0 = some v → v < 16 ^ m ∧ xs = digitsN v m
  | 0, xs, v, hl, h => by
    obtain rfl := List.eq_nil_of_length_eq_zero hl
    injection h with h
    subst h
    exact ⟨by decide, rfl⟩
  | m + 1, xs, v, hl, h => by
    have hne : xs ≠ [] := by intro e; rw [e] at hl; simp at hl
    have hs := (List.dropLast_concat_getLast hne).symm
    rw [hs, parseN_append] at h
    cases hp : parseN xs.dropLast 0 with
    | none => rw [hp] at h; cases h
    | some u =>
      rw [hp] at h
      simp only [Option.bind_some, parseN] at h
      cases hd : dig (xs.getLast hne) with
      | none => rw [hd] at h; cases h
      | some d =>
        rw [hd] at h
        injection h with h
        obtain ⟨h1, h2⟩ := digits_parse m xs.dropLast u (by rw [List.length_dropLast, hl]; rfl) hp
        obtain ⟨hd1, hd2⟩ := dig_lt hd
        refine ⟨by rw [Nat.pow_succ]; omega, ?_⟩
        rw [digitsN_snoc, show v / 16 = u by omega, show v % 16 = d by omega, ← h2, hd2]
        exact hs
theorem nums_str (xs : List Int) (h : ∀ y ∈ xs, 0 ≤ y ∧ y < 256) : bytesOf (strOfNums xs) = xs := by
  unfold bytesOf
  rw [strOfNums_data, List.map_map]
  conv => rhs; rw [← List.map_id xs]
  refine List.map_congr_left fun y hy => ?_
  obtain ⟨h0, h1⟩ := h y hy
  simp only [Function.comp_apply, id_eq, UInt8.toNat_ofNat']
  omega
theorem str_nums (s : ByteArray) : strOfNums (bytesOf s) = s := by
  unfold strOfNums bytesOf
  rw [List.map_map]
  have : (s.data.toList.map ((fun n : Int => UInt8.ofNat n.toNat) ∘ fun b : UInt8 => (b.toNat : Int))) = s.data.toList := by
    conv => rhs; rw [← List.map_id s.data.toList]
    refine List.map_congr_left fun y _ => ?_
    simp
  rw [this]
theorem hexDig_range (d : Nat) (h : d < 16) : 0 ≤ hexDig d ∧ hexDig (d : Int) < 256 := by unfold hexDig; split <;> omega
theorem digitsN_range (v m : Nat) : ∀ y ∈ digitsN v m, 0 ≤ y ∧ y < 256 := by
  intro y hy
  obtain ⟨i, _, rfl⟩ := List.mem_map.1 hy
  exact hexDig_range _ (Nat.mod_lt _ (by decide))
theorem digitsN_length (v m : Nat) : (digitsN v m).length = m := by simp [digitsN]
theorem strOfNums_append (a b : List Int) : strOfNums a ++ strOfNums b = strOfNums (a ++ b) := by
  unfold strOfNums
  rw [List.map_append]
  apply ByteArray.ext
  simp
theorem refhex_l0 : ∀ (d i u : Nat), i + d = 16 → u < 18446744073709551616 → ∀ ds : List Int, ds.length = i →
    Ev (fun k => forebearref01_Hex.l0 k (u : Int) (strOfNums ds) (i : Int)) (strOfNums (digitsN u d ++ ds)) := by
  intro d
  induction d with
  | zero =>
    intro i u hi _ ds _
    refine Ev.step (f := fun _ => some (strOfNums ds)) (fun k => ?_) ?_
    · simp only [forebearref01_Hex.l0]; rw [if_neg (by omega)]
    · exact Ev.now _
  | succ d ih =>
    intro i u hi hu ds hds
    have hm : Int.tmod (u : Int) 16 = ((u % 16 : Nat) : Int) := by rw [Int.tmod_eq_emod_of_nonneg (by omega)]; omega
    have hq : IntKind.u64.wrap (Int.tdiv (u : Int) 16) = ((u / 16 : Nat) : Int) := by rw [Int.tdiv_eq_ediv_of_nonneg (by omega), u64_id (by omega) (by omega)]; omega
    refine Ev.step (f := fun k => forebearref01_Hex.l0 k ((u / 16 : Nat) : Int) (strOfNums (hexDig ((u % 16 : Nat) : Int) :: ds)) ((i + 1 : Nat) : Int)) (fun k => ?_) ?_
    · simp only [forebearref01_Hex.l0]
      rw [if_pos (by omega), hm, digit_eq _ (Nat.mod_lt u (by decide))]
      simp only [Option.bind_some]
      rw [if_pos (by rw [strOfNums_size, strOfNums_size]; simp; omega), hq, wrap_succ (by omega), strOfNums_append]
      rfl
    · rw [digitsN_snoc, List.append_assoc]
      exact ih (i + 1) (u / 16) (by omega) (by omega) _ (by simp [hds])
theorem refhex_ev (v : Nat) (hv : v < 18446744073709551616) : Ev (fun k => forebearref01_Hex.f k (v : Int)) (strOfNums (digitsN v 16)) := by
  have h := refhex_l0 16 0 v (by omega) hv [] rfl
  rw [List.append_nil] at h
  exact h
theorem hex_eq (v : Nat) (hv : v < 18446744073709551616) : sum_Hex.f (v : Int) = some (strOfNums (digitsN v 16)) := by
  unfold sum_Hex.f
  rw [if_pos (by omega), if_pos (by omega), hexNums_nat]

theorem SumHex : forebearlaw01_SumHex.Pure := by
  intro a s ha _
  have hr : 0 ≤ a ∧ a < 18446744073709551616 := by
    simp only [Lit.wf, IntKind.min, IntKind.max, IntKind.signed, IntKind.bits] at ha
    simp at ha
    omega
  obtain ⟨v, rfl⟩ := Int.eq_ofNat_of_zero_le hr.1
  have hv : v < 18446744073709551616 := by omega
  refine Ev.rounds ?_
  refine Ev.bind awake_ev ?_
  refine Ev.congr (fun k => if_pos rfl) ?_
  rw [hex_eq v hv]
  refine Ev.bind (Ev.now (strOfNums (digitsN v 16))) ?_
  refine Ev.bind (parse_ev (strOfNums (digitsN v 16))) ?_
  refine Ev.bind (parse_ev s) ?_
  refine Ev.bind (refparse_ev s) ?_
  refine Ev.bind (refhex_ev v hv) ?_
  refine Ev.congr (fun k => if_pos rfl) ?_
  have hback : parseOf (strOfNums (digitsN v 16)) = ((v : Int), 0) := by
    unfold parseOf
    rw [if_pos (by rw [strOfNums_size, digitsN_length]), nums_str _ (digitsN_range v 16), parse_digits 16 v hv]
  rw [hback]
  refine Ev.congr (fun k => if_pos rfl) ?_
  refine Ev.congr (fun k => if_pos rfl) ?_
  refine Ev.congr (fun k => if_pos rfl) ?_
  refine Ev.congr (fun k => if_pos rfl) ?_
  by_cases h0 : (parseOf s).2 = 0
  · refine Ev.congr (fun k => if_pos h0) ?_
    unfold parseOf at h0 ⊢
    split at h0
    · rename_i hs
      rw [if_pos hs]
      cases hp : parseN (bytesOf s) 0 with
      | none => rw [hp] at h0; simp at h0
      | some u =>
        obtain ⟨hu, he⟩ := digits_parse 16 (bytesOf s) u (by rw [bytesOf_length, hs]) hp
        simp only
        rw [hex_eq u hu]
        simp only [Option.bind_some]
        rw [← he, str_nums]
        have : (s.toList == s.toList) = true := beq_self_eq_true _
        rw [this]
        exact Ev.now true
    · simp at h0
  · exact Ev.congr (fun k => if_neg h0) (Ev.now true)
end Go.Proofs.Ytgmlhcjcaebfgaa.Pure

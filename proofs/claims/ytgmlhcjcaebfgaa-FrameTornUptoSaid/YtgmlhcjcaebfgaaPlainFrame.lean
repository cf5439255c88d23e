/- Plain facts of the package frame's functions: what sealing and opening come to, over lists of bytes. No condition. -/
import Derived.Test.YtgmlhcjcaebfgaaMAx0
import Derived.Test.YtgmlhcjcaebfgaaMAx10
import Derived.Test.YtgmlhcjcaebfgaaMAx11
import Derived.Test.YtgmlhcjcaebfgaaMAx12
import Derived.Test.YtgmlhcjcaebfgaaPlainSum
namespace Go.Proofs.Ytgmlhcjcaebfgaa.Pure
open Go.RowKit Go.Proofs.Ytgmlhcjcaebfgaa.Opening Go.Proofs.Ytgmlhcjcaebfgaa.MA Go.Proofs.YtgmlhcjcaebfgaaW.PrintWords Go.Proofs.YtgmlhcjcaebfgaaW.PrintLast Go.Proofs.YtgmlhcjcaebfgaaW.PrintMore

def Bytes (l : List Int) : Prop := ∀ y ∈ l, 0 ≤ y ∧ y < 256
theorem Bytes.append {a b : List Int} (ha : Bytes a) (hb : Bytes b) : Bytes (a ++ b) := fun y hy => (List.mem_append.1 hy).elim (ha y) (hb y)
theorem Bytes.take {a : List Int} (ha : Bytes a) (n : Nat) : Bytes (a.take n) := fun y hy => ha y (List.mem_of_mem_take hy)
theorem Bytes.drop {a : List Int} (ha : Bytes a) (n : Nat) : Bytes (a.drop n) := fun y hy => ha y (List.mem_of_mem_drop hy)
def four (n : Nat) : List Int := [((n / 16777216 % 256 : Nat) : Int), ((n / 65536 % 256 : Nat) : Int), ((n / 256 % 256 : Nat) : Int), ((n % 256 : Nat) : Int)]
theorem four_bytes (n : Nat) : Bytes (four n) := by
  intro y hy
  simp only [four, List.mem_cons, List.not_mem_nil, or_false] at hy
  omega
theorem four_len (n : Nat) : (four n).length = 4 := rfl
def checkN (l : List Int) : Nat := 4294967295 - crcN 4294967295 l
theorem checkN_lt (l : List Int) : checkN l < 4294967296 := by unfold checkN; omega
theorem checkOf_nat (l : List Int) : checkOf l = (checkN l : Int) := rfl
theorem frame_four_eq (n : Nat) (_h : n < 4294967296) : frame_four.f (n : Int) = some (four n) := by
  unfold frame_four.f four
  simp only [Option.some.injEq, List.cons.injEq, and_true]
  omega
/-- What is sealed, ahead of its check sum. -/
def headBody (kind : Nat) (body : List Int) : List Int := four body.length ++ [(kind : Int)] ++ body
def sealed (kind : Nat) (body : List Int) : List Int := headBody kind body ++ four (checkN (headBody kind body))
theorem headBody_len (kind : Nat) (body : List Int) : (headBody kind body).length = body.length + 5 := by simp [headBody, four]
theorem sealed_len (kind : Nat) (body : List Int) : (sealed kind body).length = body.length + 9 := by simp [sealed, headBody_len, four]
theorem headBody_bytes {kind : Nat} {body : List Int} (hk : kind < 256) (hb : Bytes body) : Bytes (headBody kind body) :=
  ((four_bytes _).append (fun y hy => by rw [List.mem_singleton.1 hy]; omega)).append hb
theorem sealed_bytes {kind : Nat} {body : List Int} (hk : kind < 256) (hb : Bytes body) : Bytes (sealed kind body) := (headBody_bytes hk hb).append (four_bytes _)
def sealOf (kind : Int) (body : List Int) : List Int × Int := if kind < 0 ∨ kind > 255 then ([], 3) else if body.length > 8192 then ([], 4) else (sealed kind.toNat body, 0)
theorem seal_ev (kind : Int) (body : List Int) (hb : Bytes body) : Ev (fun k => frame_Seal.f k kind body) (sealOf kind body) := by
  have bad : kind < 0 ∨ kind > 255 → Ev (fun k => frame_Seal.j0 k true kind body) (sealOf kind body) := fun h => by
    refine Ev.step (f := fun _ => some (([] : List Int), (3 : Int))) (fun k => ?_) ?_
    · simp only [frame_Seal.j0]; rw [if_pos trivial]
    · unfold sealOf; rw [if_pos h]; exact Ev.now _
  by_cases h0 : kind < 0
  · refine Ev.congr (fun k => ?_) (bad (.inl h0))
    unfold frame_Seal.f
    rw [if_pos h0]
  · by_cases h1 : kind > 255
    · refine Ev.congr (fun k => ?_) (bad (.inr h1))
      unfold frame_Seal.f
      rw [if_neg h0, decide_eq_true h1]
    · refine Ev.congr (f := fun k => frame_Seal.j0 k false kind body) (fun k => by unfold frame_Seal.f; rw [if_neg h0, decide_eq_false h1]) ?_
      by_cases h2 : body.length > 8192
      · refine Ev.step (f := fun _ => some (([] : List Int), (4 : Int))) (fun k => ?_) ?_
        · simp only [frame_Seal.j0]; rw [if_neg (by decide), if_pos (by omega)]
        · unfold sealOf; rw [if_neg (by omega), if_pos h2]; exact Ev.now _
      · refine Ev.step (f := fun _ => some (sealOf kind body)) (fun k => ?_) (Ev.now _)
        simp only [frame_Seal.j0]
        rw [if_neg (by decide), if_neg (by omega), show ((body.length : Int)) % 4294967296 = (body.length : Int) by omega, frame_four_eq _ (by omega)]
        simp only [Option.bind_some]
        have hk : kind % 256 = (kind.toNat : Int) := by omega
        rw [if_pos (by simp [four]), if_pos (by simp [four]; omega), hk]
        have he : four body.length ++ [(kind.toNat : Int)] ++ body = headBody kind.toNat body := rfl
        rw [he]
        unfold sum_Check_v0_1.f
        rw [check_eq [headBody kind.toNat body] (fun p hp => by rw [List.mem_singleton.1 hp]; exact headBody_bytes (by omega) hb)]
        simp only [Option.bind_some, List.flatten_cons, List.flatten_nil, List.append_nil]
        rw [checkOf_nat, frame_four_eq _ (checkN_lt _)]
        simp only [Option.bind_some]
        rw [if_pos (by rw [headBody_len, four_len]; omega)]
        unfold sealOf
        rw [if_neg (by omega), if_neg h2]
        rfl
/-! ### Reading -/
def val4 (l : List Int) : Nat := (l.getD 0 0).toNat * 16777216 + (l.getD 1 0).toNat * 65536 + (l.getD 2 0).toNat * 256 + (l.getD 3 0).toNat
theorem or_u32 (i x y : Nat) (hi : i ≤ 32) (hx : x < 4294967296) (hd : x % 2 ^ i = 0) (hy : y < 2 ^ i) : Go.bits .or .u32 (x : Int) (y : Int) = ((x + y : Nat) : Int) := by
  have hp : 2 ^ i ≤ 2 ^ 32 := Nat.pow_le_pow_right (by decide) hi
  have hm : ((x : Int) % 2 ^ i) = 0 := by exact_mod_cast hd
  have hlt : (y : Int) < 2 ^ i := by exact_mod_cast hy
  have h := bits_join .u32 32 (by decide) (fun n h0 h1 => by rw [IntKind.wrap_u32]; omega) i (x : Int) (y : Int) (by omega) hm (by omega) (by omega) hlt (by omega)
  rw [h]
  omega
theorem getD_byte {l : List Int} (hb : Bytes l) (i : Nat) : 0 ≤ l.getD i 0 ∧ l.getD i 0 < 256 := by
  rw [List.getD_eq_getElem?_getD]
  cases h : l[i]? with
  | none => simp
  | some y => exact hb y (List.mem_of_getElem? h)
theorem number_eq (l : List Int) (hb : Bytes l) (hl : 4 ≤ l.length) : frame_number.f l = some (val4 l : Int) := by
  unfold frame_number.f
  rw [if_pos (by omega), if_pos (by omega), if_pos (by omega), if_pos (by omega)]
  have e : ∀ i : Nat, rd l (i : Int) = ((l.getD i 0).toNat : Int) := fun i => by
    have := getD_byte hb i
    rw [rd, Int.toNat_natCast]; omega
  have b : ∀ i : Nat, (l.getD i 0).toNat < 256 := fun i => by have := getD_byte hb i; omega
  have e0 := e 0; have e1 := e 1; have e2 := e 2; have e3 := e 3
  have b0 := b 0; have b1 := b 1; have b2 := b 2; have b3 := b 3
  simp only [Int.natCast_zero, Int.natCast_one] at e0 e1
  rw [show ((2 : Nat) : Int) = 2 from rfl] at e2
  rw [show ((3 : Nat) : Int) = 3 from rfl] at e3
  rw [e0, e1, e2, e3]
  unfold val4
  generalize (l.getD 0 0).toNat = n0 at *
  generalize (l.getD 1 0).toNat = n1 at *
  generalize (l.getD 2 0).toNat = n2 at *
  generalize (l.getD 3 0).toNat = n3 at *
  rw [show (n0 : Int) % 4294967296 * 16777216 % 4294967296 = ((n0 * 16777216 : Nat) : Int) by omega, show (n1 : Int) % 4294967296 * 65536 % 4294967296 = ((n1 * 65536 : Nat) : Int) by omega,
    show (n2 : Int) % 4294967296 * 256 % 4294967296 = ((n2 * 256 : Nat) : Int) by omega, show (n3 : Int) % 4294967296 = (n3 : Int) by omega]
  rw [or_u32 24 _ _ (by decide) (by omega) (by omega) (by omega), or_u32 16 _ _ (by decide) (by omega) (by omega) (by omega), or_u32 8 _ _ (by decide) (by omega) (by omega) (by omega)]
def openOf (l : List Int) : Int × List Int × Int × Int :=
  if l.length < 4 then (0, [], 0, 10) else if val4 l > 8192 then (0, [], 0, 4) else if l.length < val4 l + 9 then (0, [], 0, 10) else
    if val4 (l.drop (5 + val4 l)) = checkN (l.take (5 + val4 l)) then (l.getD 4 0, (l.take (5 + val4 l)).drop 5, ((val4 l + 9 : Nat) : Int), 0) else (0, [], 0, 11)
theorem clone_eq (l : List Int) (h : l.length < 140737488355328) : slices_Clone_byte_byte.f l = some l := by
  unfold slices_Clone_byte_byte.f
  simp only [Option.bind_some, List.length_nil, Nat.zero_add, List.nil_append]
  rw [if_pos h]
theorem open_eq (l : List Int) (hb : Bytes l) : frame_Open.f l = some (openOf l) := by
  unfold frame_Open.f openOf
  by_cases h0 : l.length < 4
  · rw [if_pos (by omega), if_pos h0]
  · rw [if_neg (by omega), if_neg h0, number_eq l hb (by omega), Option.bind_some]
    generalize val4 l = n
    by_cases h1 : n > 8192
    · rw [if_pos (by omega), if_pos h1]
    · rw [if_neg (by omega), if_neg h1]
      have w1 : wrap64 (n : Int) = (n : Int) := by unfold wrap64; omega
      have w2 : wrap64 (5 + (n : Int)) = ((5 + n : Nat) : Int) := by unfold wrap64; omega
      have w3 : wrap64 (((5 + n : Nat) : Int) + 4) = ((n + 9 : Nat) : Int) := by unfold wrap64; omega
      rw [w1, w2, w3]
      by_cases h2 : l.length < n + 9
      · rw [if_pos (by omega), if_pos h2]
      · rw [if_neg (by omega), if_neg h2, if_pos (by omega), if_pos (by omega), Int.toNat_natCast, number_eq _ (hb.drop _) (by rw [List.length_drop]; omega), Option.bind_some,
          check_eq [l.take (5 + n)] (fun p hp => by rw [List.mem_singleton.1 hp]; exact hb.take _), Option.bind_some, List.flatten_cons, List.flatten_nil, List.append_nil, checkOf_nat]
        generalize val4 (l.drop (5 + n)) = m
        generalize checkN (l.take (5 + n)) = c
        by_cases h3 : m = c
        · rw [if_pos (by omega), if_pos h3, if_pos (by omega), if_pos (by omega), clone_eq _ (by rw [List.length_drop, List.length_take]; omega)]
          have hg := getD_byte hb 4
          have e4 : wrap64 (rd l 4) = l.getD 4 0 := by
            rw [rd, show (4 : Int).toNat = 4 from rfl]
            unfold wrap64
            omega
          rw [Option.bind_some, e4]
        · rw [if_neg (by omega), if_neg h3]
theorem val4_four (n : Nat) (h : n < 4294967296) (r : List Int) : val4 (four n ++ r) = n := by
  unfold val4 four
  simp only [List.cons_append, List.getD_cons_zero, List.getD_cons_succ, Int.toNat_natCast]
  omega
theorem frame_awake_ev : Ev (fun k => forebearlaw07_awake.f k) true := Ev.of (fun k => forebearlaw07_awake.mono k) (k := 40) (by decide +kernel)
/-- A frame that was sealed is opened, whatever stands behind it. -/
theorem open_sealed (kind : Nat) (body r : List Int) (hl : body.length ≤ 8192) : openOf (sealed kind body ++ r) = ((kind : Int), body, ((body.length + 9 : Nat) : Int), 0) := by
  have hv : val4 (sealed kind body ++ r) = body.length := by
    unfold sealed headBody
    rw [List.append_assoc, List.append_assoc, List.append_assoc, List.append_assoc, val4_four _ (by omega)]
  have ht : (sealed kind body ++ r).take (5 + body.length) = headBody kind body := by
    unfold sealed
    rw [List.append_assoc, List.take_append_of_le_length (by rw [headBody_len]; omega), List.take_of_length_le (by rw [headBody_len]; omega)]
  have hd : (sealed kind body ++ r).drop (5 + body.length) = four (checkN (headBody kind body)) ++ r := by
    unfold sealed
    rw [List.append_assoc, List.drop_append, List.drop_eq_nil_of_le (by rw [headBody_len]; omega), List.nil_append, headBody_len, show 5 + body.length - (body.length + 5) = 0 by omega, List.drop_zero]
  unfold openOf
  rw [hv, ht, hd, val4_four _ (checkN_lt _)]
  have hlen : (sealed kind body ++ r).length = body.length + 9 + r.length := by rw [List.length_append, sealed_len]
  rw [if_neg (by omega), if_neg (by omega), if_neg (by omega), if_pos rfl]
  have h4 : (sealed kind body ++ r).getD 4 0 = (kind : Int) := by
    unfold sealed headBody four
    simp
  have h5 : (headBody kind body).drop 5 = body := by
    unfold headBody four
    simp
  rw [h4, h5]
end Go.Proofs.Ytgmlhcjcaebfgaa.Pure

/- Plain facts of a write in which the power goes off. No condition. -/
import Derived.Test.YtieodkghfceflaaGF
set_option linter.unusedVariables false
set_option linter.unusedSimpArgs false
namespace Go.Proofs.Ytieodkghfceflaa.MD
open Go.Proofs.Ytieodkghfceflaa.Opening Go.Proofs.Ytieodkghfceflaa.Pure
open Go.RowKit Go.Proofs.YtieodkghfceflaaW.PrintWords Go.Proofs.YtieodkghfceflaaW.PrintLast Go.Proofs.YtieodkghfceflaaW.PrintMore
theorem fileOf_cons (x : S76) (l : List S76) (p : ByteArray) : fileOf (x :: l) p = if kB x.f0 = kB p then some (bytesOf x.f1) else fileOf l p := by
  unfold fileOf
  rw [List.find?_cons]
  by_cases h : kB x.f0 = kB p
  · rw [if_pos h]; simp [h]
  · rw [if_neg h]; simp [h]
theorem fileOf_put (p s : ByteArray) : ∀ l : List S76, fileOf (putF l ⟨p, s⟩) p = some (bytesOf s)
  | [] => by unfold putF; rw [fileOf_cons, if_pos rfl]
  | x :: l => by
    unfold putF
    by_cases h1 : kB p < kB x.f0
    · rw [if_pos h1, fileOf_cons, if_pos rfl]
    · rw [if_neg h1]
      by_cases h2 : kB p = kB x.f0
      · rw [if_pos h2, fileOf_cons, if_pos rfl]
      · rw [if_neg h2, fileOf_cons, if_neg (fun e => h2 e.symm)]
        exact fileOf_put p s l
theorem dropF_cons (x : S76) (l : List S76) (p : ByteArray) : dropF (x :: l) p = if kB x.f0 = kB p then dropF l p else x :: dropF l p := by
  unfold dropF
  rw [List.filter_cons]
  by_cases h : kB x.f0 = kB p
  · rw [if_pos h, decide_eq_true h]; rfl
  · rw [if_neg h, decide_eq_false h]; rfl
theorem dropF_none {p : ByteArray} : ∀ l : List S76, (∀ x ∈ l, kB x.f0 ≠ kB p) → dropF l p = l
  | [], _ => rfl
  | x :: l, h => by
    rw [dropF_cons, if_neg (h x List.mem_cons_self), dropF_none l (fun y hy => h y (List.mem_cons_of_mem _ hy))]
theorem dropF_put (p s : ByteArray) : ∀ l : List S76, (∀ x ∈ l, kB x.f0 ≠ kB p) → dropF (putF l ⟨p, s⟩) p = l
  | [], _ => by unfold putF; rw [dropF_cons, if_pos rfl]; rfl
  | x :: l, h => by
    unfold putF
    by_cases h1 : kB p < kB x.f0
    · rw [if_pos h1, dropF_cons, if_pos rfl, dropF_none _ h]
    · rw [if_neg h1]
      by_cases h2 : kB p = kB x.f0
      · exact absurd h2.symm (h x List.mem_cons_self)
      · rw [if_neg h2, dropF_cons, if_neg (h x List.mem_cons_self), dropF_put p s l (fun y hy => h y (List.mem_cons_of_mem _ hy))]
theorem str_app {a b : List Int} (ha : Bytes a) (hb : Bytes b) : strOfNums (a ++ b) = strOfNums a ++ strOfNums b := by
  rw [str_append, bytesOf_str ha, bytesOf_str hb]
/-- The disk behind a write in which the power goes off. -/
def tornM (m : DS) (p : ByteArray) (own more : List Int) : DS := { m with dead := true, armed := false, files := putF m.files ⟨p, strOfNums (own ++ more.take m.keep.toNat)⟩ }
section
variable {m : DS} {p : ByteArray} {own more : List Int}
theorem torn_cases (hd : m.dead = false) (ha : m.armed = true) (h0 : m.after = 0) (c : Int) (hc : c = 0 ∨ c = 2) :
    (if c ≠ 0 then (m, c) else layD m p own more) = (m, 2) ∨ (if c ≠ 0 then (m, c) else layD m p own more) = (m, 7) ∨ ((if c ≠ 0 then (m, c) else layD m p own more) = (tornM m p own more, 8) ∧ c = 0) := by
  rcases hc with rfl | rfl
  · rw [if_neg (by decide)]
    unfold layD
    by_cases hf : fullD m p own more = true
    · rw [if_pos hf]; exact Or.inr (Or.inl rfl)
    · rw [if_neg hf, if_neg (by rw [hd]; simp), if_pos ⟨ha, h0⟩]
      exact Or.inr (Or.inr ⟨rfl, rfl⟩)
  · rw [if_pos (by decide)]; exact Or.inl rfl
theorem torn_file (ho : Bytes own) (hm : Bytes more) : fileOf (tornM m p own more).files p = some (own ++ more.take m.keep.toNat) := by
  unfold tornM
  rw [fileOf_put, bytesOf_str (fun x hx => by
    rcases List.mem_append.1 hx with h | h
    · exact ho x h
    · exact hm x (List.mem_of_mem_take h))]
theorem dead_put (hf : (fileOf m.files p).isSome = true) (hd : m.dead = true) : putD 0 m p [] = (m, 8) := by
  unfold putD layD
  rw [if_neg (by decide), if_neg (by unfold fullD; rw [hf]; simp), if_pos hd]
theorem there0 (hf : (fileOf m.files p).isSome = true) : thereD 0 m p = 0 := by
  unfold thereD
  rw [if_neg (by decide), if_pos hf]
theorem dead_remove (hf : (fileOf m.files p).isSome = true) (hd : m.dead = true) : removeD 0 m p = (m, 8) := by
  unfold removeD goD
  rw [there0 hf, if_neg (by decide), if_pos hd, if_pos rfl]
theorem awake_go (hd : m.dead = false) (ha : m.armed = false) : goD m = (nextD m, true) := by
  unfold goD
  rw [if_neg (by rw [hd]; simp), if_neg (by rw [ha]; simp)]
theorem awake_trim (hf : (fileOf m.files p).isSome = true) (hd : m.dead = false) (ha : m.armed = false) : ∃ m', trimD 0 m p 0 = (m', 0) ∧ m'.dead = false := by
  unfold trimD
  rw [there0 hf, if_neg (by decide), if_neg (by omega), awake_go hd ha, if_neg (by simp)]
  exact ⟨_, rfl, hd⟩
theorem awake_remove (hf : (fileOf m.files p).isSome = true) (hd : m.dead = false) (ha : m.armed = false) : ∃ m', removeD 0 m p = (m', 0) ∧ m'.files = dropF m.files p := by
  unfold removeD
  rw [there0 hf, if_neg (by decide), awake_go hd ha, if_neg (by simp)]
  exact ⟨_, rfl, rfl⟩
end
end Go.Proofs.Ytieodkghfceflaa.MD

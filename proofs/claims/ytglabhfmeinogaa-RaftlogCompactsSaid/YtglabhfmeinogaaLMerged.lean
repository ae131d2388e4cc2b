/- What a log is when entries were merged into it. -/
import Derived.Test.YtglabhfmeinogaaLawLWhole
namespace Go.Proofs.Ytglabhfmeinogaa
open Go.RowKit Go.Gz

theorem termO_in {bi bt ix t : Int} {xs : List Ent} (h : termO bi bt xs ix = some t) : bi ≤ ix ∧ ix ≤ bi + xs.length := by
  unfold termO at h
  split at h
  · omega
  · split at h
    · cases hx : xs[(ix - bi - 1).toNat]? with
      | none => rw [hx] at h; cases h
      | some x =>
        have := (List.getElem?_eq_some_iff.1 hx).1
        omega
    · cases h
theorem termO_at {bi bt : Int} {xs : List Ent} {j : Nat} {x : Ent} (hx : xs[j]? = some x) : termO bi bt xs (bi + j + 1) = some x.2.1 := by
  have h1 : ¬ bi + (j : Int) + 1 = bi := by omega
  have h2 : bi < bi + (j : Int) + 1 := by omega
  have h3 : (bi + (j : Int) + 1 - bi - 1).toNat = j := by omega
  simp only [termO, h1, h2, if_false, if_true, h3, hx]
  rfl
theorem termO_left {bi bt ix : Int} {xs ys : List Ent} {p : Nat} (hp : p ≤ xs.length) (h : ix ≤ bi + p) : termO bi bt (xs.take p ++ ys) ix = termO bi bt xs ix := by
  by_cases h1 : ix = bi
  · simp [termO, h1]
  by_cases h2 : bi < ix
  · simp only [termO, h1, h2, if_false, if_true]
    rw [List.getElem?_append_left (by rw [List.length_take]; omega), List.getElem?_take, if_pos (by omega)]
  · simp [termO, h1, h2]
theorem not_fresh {bi bt : Int} {xs : List Ent} {y : Ent} (h : freshB bi bt xs y = false) : termO bi bt xs y.1 = some y.2.1 := by
  unfold freshB at h
  cases ht : termO bi bt xs y.1 with
  | none => rw [ht] at h; cases h
  | some t =>
    rw [ht] at h
    have : t = y.2.1 := by simpa using h
    rw [this]

/-- A log that has the entries. -/
def Merged (bi bt ix tm : Int) (more ys : List Ent) : Prop := Right bi ys ∧ termO bi bt ys ix = some tm ∧ ∀ y ∈ more, termO bi bt ys y.1 = some y.2.1
theorem merged_new {bi bt ix tm : Int} {xs more : List Ent} {f p : Nat} {x : Ent} (hr : Right bi xs) (hrun : runB ix tm more = true) (ht : termO bi bt xs ix = some tm) (hx : more[f]? = some x) (hU : AllNot (freshB bi bt xs) (more.take f)) (hp : p ≤ xs.length) (hA : AtLeast xs p x.1) (hUn : Under xs p x.1) :
    Merged bi bt ix tm more (xs.take p ++ more.drop f) ∧ bi + p = ix + f := by
  have hrm := right_of_run hrun
  obtain ⟨hi1, hi2⟩ := termO_in ht
  have hfl := (List.getElem?_eq_some_iff.1 hx).1
  have hx1 := hrm.2 _ _ hx
  have hif : ix + f ≤ bi + xs.length := by
    by_cases h0 : f = 0
    · omega
    · have hy := List.getElem?_eq_getElem (show f - 1 < more.length by omega)
      have hy1 := hrm.2 _ _ hy
      have hm : more[f - 1] ∈ more.take f := List.mem_of_getElem? (i := f - 1) (by rw [List.getElem?_take, if_pos (by omega)]; exact hy)
      have := (termO_in (not_fresh (hU _ hm))).2
      omega
  obtain ⟨q, hq⟩ : ∃ q : Nat, bi + q = ix + f := ⟨(ix + f - bi).toNat, by omega⟩
  have hpq : p = q := by
    have e : x.1 = bi + q + 1 := by omega
    rw [e] at hA hUn
    exact place_right hr (by omega) hp hA hUn
  subst hpq
  have hlen : (xs.take p ++ more.drop f).length = p + (more.length - f) := by rw [List.length_append, List.length_take, List.length_drop]; omega
  have htl : (xs.take p).length = p := by rw [List.length_take]; omega
  have hR : Right bi (xs.take p ++ more.drop f) := by
    refine ⟨by have := hrm.1; rw [hlen]; omega, fun j y hy => ?_⟩
    by_cases hj : j < p
    · rw [List.getElem?_append_left (by omega), List.getElem?_take, if_pos hj] at hy
      exact hr.2 _ _ hy
    · rw [List.getElem?_append_right (by omega), htl, List.getElem?_drop] at hy
      have := hrm.2 _ _ hy
      omega
  refine ⟨⟨hR, (termO_left hp (by omega)).trans ht, fun y hy => ?_⟩, hq⟩
  obtain ⟨j, hj⟩ := List.getElem?_of_mem hy
  have hy1 := hrm.2 _ _ hj
  by_cases hjf : j < f
  · rw [termO_left hp (by omega)]
    exact not_fresh (hU y (List.mem_of_getElem? (i := j) (by rw [List.getElem?_take, if_pos hjf]; exact hj)))
  · have hat : (xs.take p ++ more.drop f)[p + (j - f)]? = some y := by
      rw [List.getElem?_append_right (by omega), htl, List.getElem?_drop, ← hj]
      congr 1
      omega
    have e : y.1 = bi + ((p + (j - f) : Nat) : Int) + 1 := by omega
    rw [e]
    exact termO_at hat
/-- What Merge makes, if it takes the entries. -/
theorem merge_ok {w : World} {base : Nat} {bi bt cm ix tm : Int} {na nb nd n m : Nat} {l k z : List Int} {xs more : List Ent} {e : Ending} (hr : Right bi xs) (hxl : xs.length = n) (hml : more.length = m) (hf : ∀ x ∈ xs, Fits x) (hfm : ∀ x ∈ more, Fits x)
    (h : MergeIs w base bi bt cm ix tm na nb nd n m l k z xs more e) : MergeNo bi bt cm ix tm xs more e ∨
      (MayB bi bt cm ix tm xs more ∧ ∃ ys v cut C q cc, Merged bi bt ix tm more ys ∧ (∀ y ∈ ys, Fits y) ∧ ys.length ≤ n + m ∧ OwnLog w base bi bt na nb nd ys.length l k z ys v ∧ e = .returned (.tuple #[v, .int .u64 cut, .slice C q cc, .int .i64 0]) ∧
        q ≤ m ∧ (∃ p f : Nat, ys = xs.take p ++ more.drop f ∧ p ≤ n ∧ (cut = 0 ∧ p = n ∨ p < n ∧ cut = bi + p + 1 ∧ ∃ x, more[f]? = some x ∧ x.1 = cut ∧ freshB bi bt xs x = true))) := by
  rcases h with h | h | h
  · exact .inl h
  · obtain ⟨hmay, hU, v, hv, he⟩ := h
    refine .inr ⟨hmay, xs, v, 0, none, 0, 0, ⟨hr, hmay.2.1, fun y hy => not_fresh (hU y hy)⟩, hf, by omega, by rw [hxl]; exact hv, he, by omega, n, more.length, ?_, Nat.le_refl _, .inl ⟨rfl, rfl⟩⟩
    rw [List.take_of_length_le (by omega), List.drop_length, List.append_nil]
  · obtain ⟨hmay, f, p, x, hx, hfx, hU, hp, hA, hUn, v, C, cc, hv, hC, he⟩ := h
    have hfl := (List.getElem?_eq_some_iff.1 hx).1
    obtain ⟨hM, hpf⟩ := merged_new hr hmay.1 hmay.2.1 hx hU (by omega) hA hUn
    have hlen : (xs.take p ++ more.drop f).length = p + (m - f) := by rw [List.length_append, List.length_take, List.length_drop]; omega
    have hx1 := (right_of_run hmay.1).2 _ _ hx
    refine .inr ⟨hmay, _, v, _, C, m - f, cc, hM, fun y hy => ?_, by rw [hlen]; omega, by rw [hlen]; exact hv, he, by omega, p, f, rfl, hp, ?_⟩
    · rcases List.mem_append.1 hy with hy | hy
      · exact hf y (List.mem_of_mem_take hy)
      · exact hfm y (List.mem_of_mem_drop hy)
    · by_cases hpn : p < n
      · rw [if_pos hpn]
        exact .inr ⟨hpn, by omega, x, hx, rfl, hfx⟩
      · rw [if_neg hpn]
        exact .inl ⟨rfl, by omega⟩
/-- Merged again, nothing comes. -/
theorem twice_ok {w : World} {base : Nat} {bi bt cm ix tm : Int} {na nb nd n m : Nat} {l k z : List Int} {ys more : List Ent} {e : Ending} (hrun : runB ix tm more = true) (hM : Merged bi bt ix tm more ys)
    (h : MergeIs w base bi bt cm ix tm na nb nd n m l k z ys more e) : ∃ v, OwnLog w base bi bt na nb nd n l k z ys v ∧ e = .returned (.tuple #[v, .int .u64 0, .slice none 0 0, .int .i64 0]) := by
  have hfr : AllNot (freshB bi bt ys) more := fun y hy => by simp [freshB, hM.2.2 y hy]
  have hmay : MayB bi bt cm ix tm ys more := ⟨hrun, hM.2.1, fun y hy => by simp [heldB, otherB, hM.2.2 y hy]⟩
  rcases h with h | h | h
  · exact absurd hmay h.1
  · obtain ⟨_, _, v, hv, he⟩ := h
    exact ⟨v, hv, he⟩
  · obtain ⟨_, f, p, x, hx, hfx, _⟩ := h
    rw [hfr x (List.mem_of_getElem? hx)] at hfx
    cases hfx
end Go.Proofs.Ytglabhfmeinogaa

/- What Merge and Compact keep, in plain lists; the program's Check. -/
import Derived.Test.YtglabhfmeinogaaLCompact
import Derived.Test.YtglabhfmeinogaaLMerged
namespace Go.Proofs.Ytglabhfmeinogaa
open Go.RowKit Go.Gz

set_option maxHeartbeats 1600000 in
theorem check_any (bi bt : Int) (A : Option Addr) (na ca : Nat) (B : Option Addr) (nb cb : Nat) (D : Option Addr) (nd cd : Nat) (O : Option Addr) (n c : Nat) (xs : List Ent) (w : World) (h : IsEs w O n xs) (hf : ∀ x ∈ xs, Fits x) (hn : n ≤ 140737488355328) (hb0 : 0 ≤ bi) (hb1 : bi < 18446744073709551616) :
    Calls Try.prog 15 #[lg bi bt A na ca B nb cb D nd cd O n c] w fun e w' => e = .returned (.bool (chkB bi bt xs)) ∧ Below w.heap.size w w' := by
  have H := Lib.hid h
  have HF := Lib.hid hf
  clear h hf
  obtain ⟨r, hr⟩ : ∃ r, r = chkB bi bt xs := ⟨_, rfl⟩
  rw [← hr]
  have HR := Lib.hid hr
  clear hr
  go_enter Try.func15, Try.ntmps15
  by_cases g1 : bt < 4611686018427387904
  · go_wp2_with fail
    refine name_calls (fun w1 hw1 => ?_)
    have hb1' : Below w.heap.size w w1 := by rw [hw1]; exact (by (repeat first | refine Below.setCell ?_ (by first | omega | (dsimp only; omega) | (simp only [heap_drew, World.size_alloc, Gz.size_setCell]; omega)) _ | refine Below.alloc ?_ (by first | omega | (dsimp only; omega) | (simp only [heap_drew, World.size_alloc, Gz.size_setCell]; omega)) _ | refine Below.drew ?_); exact Below.refl _ _)
    clear hw1
    refine (run_any bi bt O n c xs w1 (H.out.below hb1') HF.out hn hb0 hb1).mono ?_
    rintro e w2 ⟨rfl, hb2⟩
    obtain ⟨b, hb⟩ : ∃ b, b = runB bi bt xs := ⟨_, rfl⟩
    rw [← hb]
    have HB := Lib.hid (show r = b by rw [HR.out, chkB, hb, decide_eq_true g1, Bool.true_and])
    clear hb
    go_wp2
    go_ret
    exact ⟨ret_bool (b := b) HB.out, hb1'.trans (hb2.mono hb1'.size)⟩
  · go_wp2
    go_ret
    exact ⟨ret_bool (b := false) (by rw [HR.out, chkB, decide_eq_false (by omega), Bool.false_and]), (by (repeat first | refine Below.setCell ?_ (by first | omega | (dsimp only; omega) | (simp only [heap_drew, World.size_alloc, Gz.size_setCell]; omega)) _ | refine Below.alloc ?_ (by first | omega | (dsimp only; omega) | (simp only [heap_drew, World.size_alloc, Gz.size_setCell]; omega)) _ | refine Below.drew ?_); exact Below.refl _ _)⟩

theorem lastT_append : ∀ (xs ys : List Ent) (tm : Int), lastT tm (xs ++ ys) = lastT (lastT tm xs) ys
  | [], _, _ => rfl
  | x :: xs, ys, tm => by rw [List.cons_append, lastT_cons, lastT_cons, lastT_append xs ys x.2.1]
theorem runL_append : ∀ (xs ys : List Ent) (ix tm : Int), runL ix tm (xs ++ ys) = (runL ix tm xs && runL (ix + xs.length) (lastT tm xs) ys)
  | [], ys, ix, tm => by simp [runL, lastT]
  | x :: xs, ys, ix, tm => by
    rw [List.cons_append, runL_cons, runL_cons, runL_append xs ys, lastT_cons, Bool.and_assoc]
    congr 3
    rw [List.length_cons]
    omega
theorem runL_terms : ∀ (xs : List Ent) (ix tm : Int), runL ix tm xs = true → ∀ x ∈ xs, x.2.1 < 4611686018427387904
  | [], _, _, _, _, hx => (by cases hx)
  | y :: ys, ix, tm, h, x, hx => by
    rw [runL_cons, Bool.and_eq_true] at h
    rcases List.mem_cons.1 hx with rfl | hx
    · have := h.1
      simp only [okE, Bool.and_eq_true, decide_eq_true_eq] at this
      exact this.1.2
    · exact runL_terms ys _ _ h.2 x hx
theorem runL_of {bi bt : Int} {xs : List Ent} (h : runB bi bt xs = true) : runL bi bt xs = true := by
  simp only [runB, Bool.and_eq_true] at h
  exact h.2
theorem runB_len {bi bt : Int} {xs : List Ent} (h : runB bi bt xs = true) : bi + xs.length < 4611686018427387904 := by
  simp only [runB, Bool.and_eq_true, decide_eq_true_eq] at h
  omega
theorem lastT_take {tm : Int} {xs : List Ent} {j : Nat} {x : Ent} (hx : xs[j]? = some x) : lastT tm (xs.take (j + 1)) = x.2.1 := by
  have hj := (List.getElem?_eq_some_iff.1 hx).1
  exact (last_at (m := j) (by rw [List.length_take]; omega) (by rw [List.getElem?_take, if_pos (by omega)]; exact hx) tm).2
theorem termO_put {bi bt : Int} {xs : List Ent} {q : Nat} (hq : q ≤ xs.length) : termO bi bt xs (bi + q) = some (lastT bt (xs.take q)) := by
  have h1 := termO_left (bi := bi) (bt := bt) (ix := bi + q) (xs := xs) (ys := []) hq (Int.le_refl _)
  rw [List.append_nil] at h1
  rw [← h1]
  have h2 := @termO_last bi bt (xs.take q)
  rwa [List.length_take, Nat.min_eq_left hq] at h2
theorem termO_right {bi bt : Int} {xs : List Ent} (hr : Right bi xs) {x : Ent} (hx : x ∈ xs) : termO bi bt xs x.1 = some x.2.1 := by
  obtain ⟨j, hj⟩ := List.getElem?_of_mem hx
  rw [hr.2 _ _ hj]
  exact termO_at hj
/-- What was merged may be a log. -/
theorem merged_run {bi bt ix tm : Int} {xs more : List Ent} {p f : Nat} (hrun : runB bi bt xs = true) (hrun' : runB ix tm more = true) (ht : termO bi bt xs ix = some tm) (hp : p ≤ xs.length) (hf : f ≤ more.length) (hU : AllNot (freshB bi bt xs) (more.take f)) (hpf : bi + p = ix + f) :
    runB bi bt (xs.take p ++ more.drop f) = true := by
  have hl : lastT bt (xs.take p) = lastT tm (more.take f) := by
    have h1 := termO_put (bi := bi) (bt := bt) hp
    cases f with
    | zero =>
      rw [show bi + (p : Int) = ix by omega, ht] at h1
      rw [← Option.some.inj h1]
      rfl
    | succ g =>
      have hx := List.getElem?_eq_getElem (show g < more.length by omega)
      have h2 := not_fresh (hU _ (List.mem_of_getElem? (i := g) (by rw [List.getElem?_take, if_pos (by omega)]; exact hx)))
      have h3 := (right_of_run hrun').2 _ _ hx
      rw [h3, show ix + (g : Int) + 1 = bi + p by omega, h1] at h2
      rw [lastT_take hx]
      exact Option.some.inj h2
  have hlen : (xs.take p ++ more.drop f).length = p + (more.length - f) := by rw [List.length_append, List.length_take, List.length_drop]; omega
  have hb := runB_len hrun'
  have hb' := runB_len hrun
  have h4 : runL bi bt (xs.take p ++ more.drop f) = true := by
    rw [runL_append, Bool.and_eq_true]
    refine ⟨runL_take _ _ _ _ (runL_of hrun), ?_⟩
    rw [List.length_take, Nat.min_eq_left hp, hpf, hl]
    exact runL_drop _ _ _ _ (runL_of hrun') hf
  simp only [runB, Bool.and_eq_true, decide_eq_true_eq]
  refine ⟨⟨by omega, by rw [hlen]; omega⟩, h4⟩
/-- What Merge makes, and what it keeps. -/
theorem keep_ok {w : World} {base : Nat} {bi bt cm ix tm : Int} {na nb nd n m : Nat} {l k z : List Int} {xs more : List Ent} {e : Ending} (hrun : runB bi bt xs = true) (hxl : xs.length = n) (hml : more.length = m) (hf : ∀ x ∈ xs, Fits x) (hfm : ∀ x ∈ more, Fits x)
    (h : MergeIs w base bi bt cm ix tm na nb nd n m l k z xs more e) : (∃ E : Int, E ≠ 0 ∧ e = .returned (.tuple #[lg 0 0 none 0 0 none 0 0 none 0 0 none 0 0, .int .u64 0, .slice none 0 0, .int .i64 E])) ∨
      ∃ ys v cut C q cc, Right bi ys ∧ (∀ y ∈ ys, Fits y) ∧ ys.length ≤ n + m ∧ OwnLog w base bi bt na nb nd ys.length l k z ys v ∧ e = .returned (.tuple #[v, .int .u64 cut, .slice C q cc, .int .i64 0]) ∧
        q ≤ m ∧ runB bi bt ys = true ∧ (cut = 0 ∨ cm < cut ∧ bi < cut) ∧ (∀ x ∈ xs, x.1 ≤ cm → termO bi bt ys x.1 = some x.2.1) ∧ (∀ y ∈ more, termO bi bt ys y.1 = some y.2.1) := by
  have hr := right_of_run hrun
  rcases h with h | h | h
  · exact .inl h.2
  · obtain ⟨hmay, hU, v, hv, he⟩ := h
    exact .inr ⟨xs, v, 0, none, 0, 0, hr, hf, by omega, by rw [hxl]; exact hv, he, by omega, hrun, .inl rfl, fun x hx _ => termO_right hr hx, fun y hy => not_fresh (hU y hy)⟩
  · obtain ⟨hmay, f, p, x, hx, hfx, hU, hp, hA, hUn, v, C, cc, hv, hC, he⟩ := h
    have hfl := (List.getElem?_eq_some_iff.1 hx).1
    obtain ⟨hM, hpf⟩ := merged_new hr hmay.1 hmay.2.1 hx hU (by omega) hA hUn
    have hlen : (xs.take p ++ more.drop f).length = p + (m - f) := by rw [List.length_append, List.length_take, List.length_drop]; omega
    have hx1 := (right_of_run hmay.1).2 _ _ hx
    have hcut : p < n → cm < x.1 := fun hpn => by
      have h1 := List.getElem?_eq_getElem (show p < xs.length by omega)
      have h2 := termO_at (bi := bi) (bt := bt) h1
      rw [show bi + (p : Int) + 1 = x.1 by omega] at h2
      have h3 := hmay.2.2 x (List.mem_of_getElem? hx)
      simp only [freshB, h2] at hfx
      simp only [heldB, otherB, h2, hfx, Bool.and_true, decide_eq_false_iff_not] at h3
      omega
    refine .inr ⟨_, v, _, C, m - f, cc, hM.1, fun y hy => ?_, by rw [hlen]; omega, by rw [hlen]; exact hv, he, by omega, merged_run hrun hmay.1 hmay.2.1 (by omega) (by omega) hU hpf, ?_, fun y hy hc => ?_, hM.2.2⟩
    · rcases List.mem_append.1 hy with hy | hy
      · exact hf y (List.mem_of_mem_take hy)
      · exact hfm y (List.mem_of_mem_drop hy)
    · by_cases hpn : p < n
      · rw [if_pos hpn]
        exact .inr ⟨hcut hpn, by omega⟩
      · rw [if_neg hpn]
        exact .inl rfl
    · obtain ⟨j, hj⟩ := List.getElem?_of_mem hy
      have hy1 := hr.2 _ _ hj
      have hjl := (List.getElem?_eq_some_iff.1 hj).1
      have hjp : j < p := by
        by_cases hpn : p < n
        · have := hcut hpn
          omega
        · omega
      rw [termO_left (by omega) (by omega)]
      exact termO_right hr hy

/-- The last change's configuration. -/
def lastC (a : List Int × List Int) (xs : List Ent) : List Int × List Int := xs.foldl (fun a x => if x.2.2.1 = 3 then (x.2.2.2.2.1, x.2.2.2.2.2) else a) a
theorem lastC_none : ∀ (xs : List Ent) (a : List Int × List Int), (∀ x ∈ xs, ¬ x.2.2.1 = 3) → lastC a xs = a
  | [], _, _ => rfl
  | x :: xs, a, h => by
    have h1 := h x (by simp)
    simp only [lastC, List.foldl_cons, h1, if_false]
    exact lastC_none xs a (fun y hy => h y (by simp [hy]))
theorem lastC_append (a : List Int × List Int) (xs ys : List Ent) : lastC a (xs ++ ys) = lastC (lastC a xs) ys := by simp [lastC]
theorem lastConf_is {xs : List Ent} {l k l' k' : List Int} {ix : Int} (h : LastConf xs l k l' k' ix) : (l', k') = lastC (l, k) xs := by
  rcases h with ⟨j, x, hx, h3, hn, rfl, rfl, _⟩ | ⟨hn, rfl, rfl, _⟩
  · obtain ⟨hj, hx⟩ := List.getElem?_eq_some_iff.1 hx
    have e : xs = xs.take j ++ x :: xs.drop (j + 1) := by rw [← hx, ← List.drop_eq_getElem_cons hj, List.take_append_drop]
    rw [e, lastC_append, show x :: xs.drop (j + 1) = [x] ++ xs.drop (j + 1) from rfl, lastC_append]
    rw [lastC_none (xs.drop (j + 1)) _ (fun y hy => ?_)]
    · simp [lastC, h3]
    · obtain ⟨i, hi⟩ := List.getElem?_of_mem hy
      rw [List.getElem?_drop] at hi
      exact hn _ y (by omega) hi
  · exact (lastC_none _ _ hn).symm
theorem lastConf_cut {xs : List Ent} {l k l1 k1 l' k' l2 k2 : List Int} {i1 i' i2 : Int} {q : Nat} (h1 : LastConf xs l k l1 k1 i1) (h : LastConf (xs.take q) l k l' k' i') (h2 : LastConf (xs.drop q) l' k' l2 k2 i2) : l2 = l1 ∧ k2 = k1 := by
  have e1 := lastConf_is h1
  have e := lastConf_is h
  have e2 := lastConf_is h2
  rw [e, ← lastC_append, List.take_append_drop, ← e1] at e2
  exact ⟨congrArg Prod.fst e2, congrArg Prod.snd e2⟩

theorem lastConf_small {xs : List Ent} {l k l' k' : List Int} {ix : Int} (h : LastConf xs l k l' k' ix) (hf : ∀ x ∈ xs, Fits x) (hl : l.length * 8 ≤ 140737488355328) (hk : k.length * 8 ≤ 140737488355328) : l'.length * 8 ≤ 140737488355328 ∧ k'.length * 8 ≤ 140737488355328 := by
  rcases h with ⟨j, x, hx, _, _, rfl, rfl, _⟩ | ⟨_, rfl, rfl, _⟩
  · have := hf x (List.mem_of_getElem? hx)
    exact ⟨this.2.1, this.2.2⟩
  · exact ⟨hl, hk⟩
theorem chkB_run {bi bt : Int} {xs : List Ent} (h : chkB bi bt xs = true) : runB bi bt xs = true := by
  simp only [chkB, Bool.and_eq_true] at h
  exact h.2

/-- What is behind the snapshot that Compact makes. -/
theorem compact_is {bi bt ix t : Int} {xs : List Ent} {p : Nat} {b : Bool} (hrun : runB bi bt xs = true) (h1 : bi < ix) (hp : p < xs.length) (hA : AtLeast xs p ix) (hU : Under xs p ix) (h2 : ix ≤ lastI bi xs) (hT : TermIs bi bt xs ix t b) :
    ix = bi + p + 1 ∧ t = lastT bt (xs.take (p + 1)) ∧ chkB ix t (xs.drop (p + 1)) = true ∧ lastI ix (xs.drop (p + 1)) = lastI bi xs ∧ lastT t (xs.drop (p + 1)) = lastT bt xs := by
  have hr := right_of_run hrun
  rw [lastI_right hr] at h2
  have he : ix = bi + p + 1 := by
    obtain ⟨q, hq⟩ : ∃ q : Nat, ix = bi + q + 1 := ⟨(ix - bi - 1).toNat, by omega⟩
    rw [hq] at hA hU
    have := place_right hr (by omega) (by omega) hA hU
    omega
  have ht : t = lastT bt (xs.take (p + 1)) := by
    have h3 := hT hr
    have h4 := termO_put (bi := bi) (bt := bt) (show p + 1 ≤ xs.length by omega)
    rw [show bi + ((p + 1 : Nat) : Int) = ix by omega, h3] at h4
    cases b with
    | true => exact Option.some.inj h4
    | false => cases h4
  have hR : Right ix (xs.drop (p + 1)) := by
    have h0 := hr.1
    refine ⟨by rw [List.length_drop]; omega, fun j x hx => ?_⟩
    rw [List.getElem?_drop] at hx
    have := hr.2 _ _ hx
    omega
  have hx := List.getElem?_eq_getElem hp
  have hrl := runL_of hrun
  have hb := runB_len hrun
  refine ⟨he, ht, ?_, ?_, ?_⟩
  · have h5 : t < 4611686018427387904 := by
      rw [ht, lastT_take hx]
      exact runL_terms _ _ _ hrl _ (List.getElem_mem hp)
    have h6 := runL_drop xs bi bt (p + 1) hrl (by omega)
    rw [← ht, show bi + ((p + 1 : Nat) : Int) = ix by omega] at h6
    simp only [chkB, runB, Bool.and_eq_true, decide_eq_true_eq]
    exact ⟨h5, ⟨by omega, by rw [List.length_drop]; omega⟩, h6⟩
  · rw [lastI_right hr, lastI_right hR, List.length_drop]
    omega
  · rw [ht, ← lastT_append, List.take_append_drop]
end Go.Proofs.Ytglabhfmeinogaa

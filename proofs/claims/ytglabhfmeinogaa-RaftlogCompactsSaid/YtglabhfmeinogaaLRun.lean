/- Contracts of run and of the document's Entries and Check, exact: what they answer. -/
import Derived.Test.YtglabhfmeinogaaLCheck
import Derived.Test.YtglabhfmeinogaaLHead
namespace Go.Proofs.Ytglabhfmeinogaa
open Go.RowKit Go.Gz
attribute [local go_sem] World.cell?_alloc_some frozen?_alloc_some

/-- The kind fits what is in it: so many voters, learners, bytes. -/
def kindB (k : Int) (v l d : Nat) : Bool := if k = 1 then decide (v = 0) && decide (l = 0) && decide (d = 0) else if k = 2 then decide (v = 0) && decide (l = 0) else if k = 3 then decide (d = 0) else false
def okE (x : Ent) (ix tm : Int) : Bool := decide (x.1 = ix) && decide (tm ≤ x.2.1) && decide (x.2.1 < 4611686018427387904) && kindB x.2.2.1 x.2.2.2.2.1.length x.2.2.2.2.2.length x.2.2.2.1.length
/-- One behind the other. -/
def runL : Int → Int → List Ent → Bool
  | _, _, [] => true
  | ix, tm, x :: xs => okE x (ix + 1) tm && runL (ix + 1) x.2.1 xs
def runB (ix tm : Int) (xs : List Ent) : Bool := decide (ix < 4611686018427387904) && decide ((xs.length : Int) < 4611686018427387904 - ix) && runL ix tm xs

set_option maxHeartbeats 1600000 in
theorem fineX_any (cs : List Value) (x : Ent) (ix tm : Int) (w : World) (h : IsE w cs x) :
    Calls Try.prog 49 #[.agg cs.toArray, .int .u64 ix, .int .u64 tm] w fun e w' => e = .returned (.bool (okE x ix tm)) ∧ Below w.heap.size w w' := by
  obtain ⟨i, t, k, ds, vs, ls⟩ := x
  obtain ⟨D, dc, V, vc, L, lc, rfl, _, _⟩ := h
  dsimp only [okE]
  generalize vs.length = v
  generalize ls.length = l
  generalize ds.length = d
  by_cases h1 : i = ix
  rotate_left 1
  · have e0 : (i != ix) = true := bne_iff_ne.2 h1
    rw [decide_eq_false h1]
    simp only [Bool.false_and]
    go_enter Try.func49, Try.ntmps49
    go_wp2
    go_ret
    exact ⟨rfl, (by (repeat first | refine Below.setCell ?_ (by first | omega | (dsimp only; omega) | (simp only [heap_drew, World.size_alloc, Gz.size_setCell]; omega)) _ | refine Below.alloc ?_ (by first | omega | (dsimp only; omega) | (simp only [heap_drew, World.size_alloc, Gz.size_setCell]; omega)) _ | refine Below.drew ?_); exact Below.refl _ _)⟩
  subst h1
  rw [decide_eq_true rfl, Bool.true_and]
  by_cases h2 : tm ≤ t
  rotate_left 1
  · have e0 : t < tm := by omega
    rw [decide_eq_false h2]
    simp only [Bool.false_and]
    go_enter Try.func49, Try.ntmps49
    go_wp2
    go_ret
    exact ⟨rfl, (by (repeat first | refine Below.setCell ?_ (by first | omega | (dsimp only; omega) | (simp only [heap_drew, World.size_alloc, Gz.size_setCell]; omega)) _ | refine Below.alloc ?_ (by first | omega | (dsimp only; omega) | (simp only [heap_drew, World.size_alloc, Gz.size_setCell]; omega)) _ | refine Below.drew ?_); exact Below.refl _ _)⟩
  have e2 : ¬ t < tm := by omega
  rw [decide_eq_true h2, Bool.true_and]
  by_cases h3 : t < 4611686018427387904
  rotate_left 1
  · have e0 : 4611686018427387904 ≤ t := by omega
    rw [decide_eq_false h3]
    simp only [Bool.false_and]
    go_enter Try.func49, Try.ntmps49
    go_wp2
    go_ret
    exact ⟨rfl, (by (repeat first | refine Below.setCell ?_ (by first | omega | (dsimp only; omega) | (simp only [heap_drew, World.size_alloc, Gz.size_setCell]; omega)) _ | refine Below.alloc ?_ (by first | omega | (dsimp only; omega) | (simp only [heap_drew, World.size_alloc, Gz.size_setCell]; omega)) _ | refine Below.drew ?_); exact Below.refl _ _)⟩
  have e3 : ¬ 4611686018427387904 ≤ t := by omega
  rw [decide_eq_true h3, Bool.true_and]
  clear h2 h3
  by_cases k1 : k = 1
  · subst k1
    by_cases hv : v = 0
    · subst hv
      by_cases hl : l = 0
      · subst hl
        by_cases hd : d = 0
        · subst hd
          go_enter Try.func49, Try.ntmps49
          go_wp2
          go_ret
          exact ⟨by simp [kindB, *], (by (repeat first | refine Below.setCell ?_ (by first | omega | (dsimp only; omega) | (simp only [heap_drew, World.size_alloc, Gz.size_setCell]; omega)) _ | refine Below.alloc ?_ (by first | omega | (dsimp only; omega) | (simp only [heap_drew, World.size_alloc, Gz.size_setCell]; omega)) _ | refine Below.drew ?_); exact Below.refl _ _)⟩
        · have hd' : ((d : Int) == 0) = false := by rw [beq_eq_false_iff_ne]; omega
          go_enter Try.func49, Try.ntmps49
          go_wp2
          go_ret
          exact ⟨by simp [kindB, *], (by (repeat first | refine Below.setCell ?_ (by first | omega | (dsimp only; omega) | (simp only [heap_drew, World.size_alloc, Gz.size_setCell]; omega)) _ | refine Below.alloc ?_ (by first | omega | (dsimp only; omega) | (simp only [heap_drew, World.size_alloc, Gz.size_setCell]; omega)) _ | refine Below.drew ?_); exact Below.refl _ _)⟩
      · have hl' : ((l : Int) == 0) = false := by rw [beq_eq_false_iff_ne]; omega
        by_cases hd : d = 0
        · subst hd
          go_enter Try.func49, Try.ntmps49
          go_wp2
          go_ret
          exact ⟨by simp [kindB, *], (by (repeat first | refine Below.setCell ?_ (by first | omega | (dsimp only; omega) | (simp only [heap_drew, World.size_alloc, Gz.size_setCell]; omega)) _ | refine Below.alloc ?_ (by first | omega | (dsimp only; omega) | (simp only [heap_drew, World.size_alloc, Gz.size_setCell]; omega)) _ | refine Below.drew ?_); exact Below.refl _ _)⟩
        · have hd' : ((d : Int) == 0) = false := by rw [beq_eq_false_iff_ne]; omega
          go_enter Try.func49, Try.ntmps49
          go_wp2
          go_ret
          exact ⟨by simp [kindB, *], (by (repeat first | refine Below.setCell ?_ (by first | omega | (dsimp only; omega) | (simp only [heap_drew, World.size_alloc, Gz.size_setCell]; omega)) _ | refine Below.alloc ?_ (by first | omega | (dsimp only; omega) | (simp only [heap_drew, World.size_alloc, Gz.size_setCell]; omega)) _ | refine Below.drew ?_); exact Below.refl _ _)⟩
    · have hv' : ((v : Int) == 0) = false := by rw [beq_eq_false_iff_ne]; omega
      by_cases hd : d = 0
      · subst hd
        go_enter Try.func49, Try.ntmps49
        go_wp2
        go_ret
        exact ⟨by simp [kindB, *], (by (repeat first | refine Below.setCell ?_ (by first | omega | (dsimp only; omega) | (simp only [heap_drew, World.size_alloc, Gz.size_setCell]; omega)) _ | refine Below.alloc ?_ (by first | omega | (dsimp only; omega) | (simp only [heap_drew, World.size_alloc, Gz.size_setCell]; omega)) _ | refine Below.drew ?_); exact Below.refl _ _)⟩
      · have hd' : ((d : Int) == 0) = false := by rw [beq_eq_false_iff_ne]; omega
        go_enter Try.func49, Try.ntmps49
        go_wp2
        go_ret
        exact ⟨by simp [kindB, *], (by (repeat first | refine Below.setCell ?_ (by first | omega | (dsimp only; omega) | (simp only [heap_drew, World.size_alloc, Gz.size_setCell]; omega)) _ | refine Below.alloc ?_ (by first | omega | (dsimp only; omega) | (simp only [heap_drew, World.size_alloc, Gz.size_setCell]; omega)) _ | refine Below.drew ?_); exact Below.refl _ _)⟩
  by_cases k2 : k = 2
  · subst k2
    by_cases hv : v = 0
    · subst hv
      by_cases hl : l = 0
      · subst hl
        by_cases hd : d = 0
        · subst hd
          go_enter Try.func49, Try.ntmps49
          go_wp2
          go_ret
          exact ⟨by simp [kindB, *], (by (repeat first | refine Below.setCell ?_ (by first | omega | (dsimp only; omega) | (simp only [heap_drew, World.size_alloc, Gz.size_setCell]; omega)) _ | refine Below.alloc ?_ (by first | omega | (dsimp only; omega) | (simp only [heap_drew, World.size_alloc, Gz.size_setCell]; omega)) _ | refine Below.drew ?_); exact Below.refl _ _)⟩
        · have hd' : ((d : Int) == 0) = false := by rw [beq_eq_false_iff_ne]; omega
          go_enter Try.func49, Try.ntmps49
          go_wp2
          go_ret
          exact ⟨by simp [kindB, *], (by (repeat first | refine Below.setCell ?_ (by first | omega | (dsimp only; omega) | (simp only [heap_drew, World.size_alloc, Gz.size_setCell]; omega)) _ | refine Below.alloc ?_ (by first | omega | (dsimp only; omega) | (simp only [heap_drew, World.size_alloc, Gz.size_setCell]; omega)) _ | refine Below.drew ?_); exact Below.refl _ _)⟩
      · have hl' : ((l : Int) == 0) = false := by rw [beq_eq_false_iff_ne]; omega
        by_cases hd : d = 0
        · subst hd
          go_enter Try.func49, Try.ntmps49
          go_wp2
          go_ret
          exact ⟨by simp [kindB, *], (by (repeat first | refine Below.setCell ?_ (by first | omega | (dsimp only; omega) | (simp only [heap_drew, World.size_alloc, Gz.size_setCell]; omega)) _ | refine Below.alloc ?_ (by first | omega | (dsimp only; omega) | (simp only [heap_drew, World.size_alloc, Gz.size_setCell]; omega)) _ | refine Below.drew ?_); exact Below.refl _ _)⟩
        · have hd' : ((d : Int) == 0) = false := by rw [beq_eq_false_iff_ne]; omega
          go_enter Try.func49, Try.ntmps49
          go_wp2
          go_ret
          exact ⟨by simp [kindB, *], (by (repeat first | refine Below.setCell ?_ (by first | omega | (dsimp only; omega) | (simp only [heap_drew, World.size_alloc, Gz.size_setCell]; omega)) _ | refine Below.alloc ?_ (by first | omega | (dsimp only; omega) | (simp only [heap_drew, World.size_alloc, Gz.size_setCell]; omega)) _ | refine Below.drew ?_); exact Below.refl _ _)⟩
    · have hv' : ((v : Int) == 0) = false := by rw [beq_eq_false_iff_ne]; omega
      by_cases hd : d = 0
      · subst hd
        go_enter Try.func49, Try.ntmps49
        go_wp2
        go_ret
        exact ⟨by simp [kindB, *], (by (repeat first | refine Below.setCell ?_ (by first | omega | (dsimp only; omega) | (simp only [heap_drew, World.size_alloc, Gz.size_setCell]; omega)) _ | refine Below.alloc ?_ (by first | omega | (dsimp only; omega) | (simp only [heap_drew, World.size_alloc, Gz.size_setCell]; omega)) _ | refine Below.drew ?_); exact Below.refl _ _)⟩
      · have hd' : ((d : Int) == 0) = false := by rw [beq_eq_false_iff_ne]; omega
        go_enter Try.func49, Try.ntmps49
        go_wp2
        go_ret
        exact ⟨by simp [kindB, *], (by (repeat first | refine Below.setCell ?_ (by first | omega | (dsimp only; omega) | (simp only [heap_drew, World.size_alloc, Gz.size_setCell]; omega)) _ | refine Below.alloc ?_ (by first | omega | (dsimp only; omega) | (simp only [heap_drew, World.size_alloc, Gz.size_setCell]; omega)) _ | refine Below.drew ?_); exact Below.refl _ _)⟩
  by_cases k3 : k = 3
  · subst k3
    by_cases hv : v = 0
    · subst hv
      by_cases hl : l = 0
      · subst hl
        by_cases hd : d = 0
        · subst hd
          go_enter Try.func49, Try.ntmps49
          go_wp2
          go_ret
          exact ⟨by simp [kindB, *], (by (repeat first | refine Below.setCell ?_ (by first | omega | (dsimp only; omega) | (simp only [heap_drew, World.size_alloc, Gz.size_setCell]; omega)) _ | refine Below.alloc ?_ (by first | omega | (dsimp only; omega) | (simp only [heap_drew, World.size_alloc, Gz.size_setCell]; omega)) _ | refine Below.drew ?_); exact Below.refl _ _)⟩
        · have hd' : ((d : Int) == 0) = false := by rw [beq_eq_false_iff_ne]; omega
          go_enter Try.func49, Try.ntmps49
          go_wp2
          go_ret
          exact ⟨by simp [kindB, *], (by (repeat first | refine Below.setCell ?_ (by first | omega | (dsimp only; omega) | (simp only [heap_drew, World.size_alloc, Gz.size_setCell]; omega)) _ | refine Below.alloc ?_ (by first | omega | (dsimp only; omega) | (simp only [heap_drew, World.size_alloc, Gz.size_setCell]; omega)) _ | refine Below.drew ?_); exact Below.refl _ _)⟩
      · have hl' : ((l : Int) == 0) = false := by rw [beq_eq_false_iff_ne]; omega
        by_cases hd : d = 0
        · subst hd
          go_enter Try.func49, Try.ntmps49
          go_wp2
          go_ret
          exact ⟨by simp [kindB, *], (by (repeat first | refine Below.setCell ?_ (by first | omega | (dsimp only; omega) | (simp only [heap_drew, World.size_alloc, Gz.size_setCell]; omega)) _ | refine Below.alloc ?_ (by first | omega | (dsimp only; omega) | (simp only [heap_drew, World.size_alloc, Gz.size_setCell]; omega)) _ | refine Below.drew ?_); exact Below.refl _ _)⟩
        · have hd' : ((d : Int) == 0) = false := by rw [beq_eq_false_iff_ne]; omega
          go_enter Try.func49, Try.ntmps49
          go_wp2
          go_ret
          exact ⟨by simp [kindB, *], (by (repeat first | refine Below.setCell ?_ (by first | omega | (dsimp only; omega) | (simp only [heap_drew, World.size_alloc, Gz.size_setCell]; omega)) _ | refine Below.alloc ?_ (by first | omega | (dsimp only; omega) | (simp only [heap_drew, World.size_alloc, Gz.size_setCell]; omega)) _ | refine Below.drew ?_); exact Below.refl _ _)⟩
    · have hv' : ((v : Int) == 0) = false := by rw [beq_eq_false_iff_ne]; omega
      by_cases hd : d = 0
      · subst hd
        go_enter Try.func49, Try.ntmps49
        go_wp2
        go_ret
        exact ⟨by simp [kindB, *], (by (repeat first | refine Below.setCell ?_ (by first | omega | (dsimp only; omega) | (simp only [heap_drew, World.size_alloc, Gz.size_setCell]; omega)) _ | refine Below.alloc ?_ (by first | omega | (dsimp only; omega) | (simp only [heap_drew, World.size_alloc, Gz.size_setCell]; omega)) _ | refine Below.drew ?_); exact Below.refl _ _)⟩
      · have hd' : ((d : Int) == 0) = false := by rw [beq_eq_false_iff_ne]; omega
        go_enter Try.func49, Try.ntmps49
        go_wp2
        go_ret
        exact ⟨by simp [kindB, *], (by (repeat first | refine Below.setCell ?_ (by first | omega | (dsimp only; omega) | (simp only [heap_drew, World.size_alloc, Gz.size_setCell]; omega)) _ | refine Below.alloc ?_ (by first | omega | (dsimp only; omega) | (simp only [heap_drew, World.size_alloc, Gz.size_setCell]; omega)) _ | refine Below.drew ?_); exact Below.refl _ _)⟩
  · have q1 : (k == 1) = false := beq_eq_false_iff_ne.2 k1
    have q2 : (k == 2) = false := beq_eq_false_iff_ne.2 k2
    have q3 : (k == 3) = false := beq_eq_false_iff_ne.2 k3
    have q : kindB k v l d = false := by simp [kindB, k1, k2, k3]
    rw [q]
    by_cases hv : v = 0
    · subst hv
      by_cases hl : l = 0
      · subst hl
        by_cases hd : d = 0
        · subst hd
          go_enter Try.func49, Try.ntmps49
          go_wp2
          go_ret
          exact ⟨by simp [kindB, *], (by (repeat first | refine Below.setCell ?_ (by first | omega | (dsimp only; omega) | (simp only [heap_drew, World.size_alloc, Gz.size_setCell]; omega)) _ | refine Below.alloc ?_ (by first | omega | (dsimp only; omega) | (simp only [heap_drew, World.size_alloc, Gz.size_setCell]; omega)) _ | refine Below.drew ?_); exact Below.refl _ _)⟩
        · have hd' : ((d : Int) == 0) = false := by rw [beq_eq_false_iff_ne]; omega
          go_enter Try.func49, Try.ntmps49
          go_wp2
          go_ret
          exact ⟨by simp [kindB, *], (by (repeat first | refine Below.setCell ?_ (by first | omega | (dsimp only; omega) | (simp only [heap_drew, World.size_alloc, Gz.size_setCell]; omega)) _ | refine Below.alloc ?_ (by first | omega | (dsimp only; omega) | (simp only [heap_drew, World.size_alloc, Gz.size_setCell]; omega)) _ | refine Below.drew ?_); exact Below.refl _ _)⟩
      · have hl' : ((l : Int) == 0) = false := by rw [beq_eq_false_iff_ne]; omega
        by_cases hd : d = 0
        · subst hd
          go_enter Try.func49, Try.ntmps49
          go_wp2
          go_ret
          exact ⟨by simp [kindB, *], (by (repeat first | refine Below.setCell ?_ (by first | omega | (dsimp only; omega) | (simp only [heap_drew, World.size_alloc, Gz.size_setCell]; omega)) _ | refine Below.alloc ?_ (by first | omega | (dsimp only; omega) | (simp only [heap_drew, World.size_alloc, Gz.size_setCell]; omega)) _ | refine Below.drew ?_); exact Below.refl _ _)⟩
        · have hd' : ((d : Int) == 0) = false := by rw [beq_eq_false_iff_ne]; omega
          go_enter Try.func49, Try.ntmps49
          go_wp2
          go_ret
          exact ⟨by simp [kindB, *], (by (repeat first | refine Below.setCell ?_ (by first | omega | (dsimp only; omega) | (simp only [heap_drew, World.size_alloc, Gz.size_setCell]; omega)) _ | refine Below.alloc ?_ (by first | omega | (dsimp only; omega) | (simp only [heap_drew, World.size_alloc, Gz.size_setCell]; omega)) _ | refine Below.drew ?_); exact Below.refl _ _)⟩
    · have hv' : ((v : Int) == 0) = false := by rw [beq_eq_false_iff_ne]; omega
      by_cases hd : d = 0
      · subst hd
        go_enter Try.func49, Try.ntmps49
        go_wp2
        go_ret
        exact ⟨by simp [kindB, *], (by (repeat first | refine Below.setCell ?_ (by first | omega | (dsimp only; omega) | (simp only [heap_drew, World.size_alloc, Gz.size_setCell]; omega)) _ | refine Below.alloc ?_ (by first | omega | (dsimp only; omega) | (simp only [heap_drew, World.size_alloc, Gz.size_setCell]; omega)) _ | refine Below.drew ?_); exact Below.refl _ _)⟩
      · have hd' : ((d : Int) == 0) = false := by rw [beq_eq_false_iff_ne]; omega
        go_enter Try.func49, Try.ntmps49
        go_wp2
        go_ret
        exact ⟨by simp [kindB, *], (by (repeat first | refine Below.setCell ?_ (by first | omega | (dsimp only; omega) | (simp only [heap_drew, World.size_alloc, Gz.size_setCell]; omega)) _ | refine Below.alloc ?_ (by first | omega | (dsimp only; omega) | (simp only [heap_drew, World.size_alloc, Gz.size_setCell]; omega)) _ | refine Below.drew ?_); exact Below.refl _ _)⟩

theorem ret_bool {b r : Bool} (h : r = b) : Ending.returned (.bool b) = .returned (.bool r) := by rw [h]
theorem runL_cons (ix tm : Int) (x : Ent) (xs : List Ent) : runL ix tm (x :: xs) = (okE x (ix + 1) tm && runL (ix + 1) x.2.1 xs) := rfl
theorem runL_at {bi tm : Int} {xs : List Ent} {j : Nat} {x : Ent} (hx : xs[j]? = some x) : runL (bi + j) tm (xs.drop j) = (okE x (bi + j + 1) tm && runL (bi + ((j + 1 : Nat) : Int)) x.2.1 (xs.drop (j + 1))) := by
  obtain ⟨hj, hx⟩ := List.getElem?_eq_some_iff.1 hx
  rw [List.drop_eq_getElem_cons hj, hx, runL_cons]
  congr 2
  omega
theorem runL_end {bi tm : Int} {xs : List Ent} {j : Nat} (hj : xs.length ≤ j) : runL (bi + j) tm (xs.drop j) = true := by
  rw [List.drop_eq_nil_of_le hj]
  rfl
theorem runB_high {ix tm : Int} {xs : List Ent} (h : 4611686018427387904 ≤ ix) : runB ix tm xs = false := by
  have : ¬ ix < 4611686018427387904 := by omega
  simp [runB, this]
theorem runB_long {ix tm : Int} {xs : List Ent} {n : Nat} (hl : xs.length = n) (h : 4611686018427387904 - ix ≤ (n : Int)) : runB ix tm xs = false := by
  have : ¬ (xs.length : Int) < 4611686018427387904 - ix := by omega
  simp [runB, this]
theorem runB_in {ix tm : Int} {xs : List Ent} {n : Nat} (hl : xs.length = n) (h1 : ¬ 4611686018427387904 ≤ ix) (h : ¬ 4611686018427387904 - ix ≤ (n : Int)) : runB ix tm xs = runL ix tm xs := by
  have e1 : ix < 4611686018427387904 := by omega
  have e2 : (xs.length : Int) < 4611686018427387904 - ix := by omega
  simp [runB, e1, e2]
theorem right_of_run {bi bt : Int} {xs : List Ent} (h : runB bi bt xs = true) : Right bi xs := by
  simp only [runB, Bool.and_eq_true, decide_eq_true_eq] at h
  refine ⟨by omega, ?_⟩
  have key : ∀ (xs : List Ent) (ix tm : Int), runL ix tm xs = true → ∀ (j : Nat) (x : Ent), xs[j]? = some x → x.1 = ix + j + 1 := by
    intro xs
    induction xs with
    | nil => intro ix tm _ j x hx; simp at hx
    | cons y ys ih =>
      intro ix tm h j x hx
      rw [runL_cons, Bool.and_eq_true] at h
      cases j with
      | zero =>
        simp at hx
        subst hx
        have := h.1
        simp only [okE, Bool.and_eq_true, decide_eq_true_eq] at this
        have := this.1.1.1
        omega
      | succ j =>
        have := ih (ix + 1) y.2.1 h.2 j x (by simpa using hx)
        omega
  exact key xs bi bt h.2

set_option maxHeartbeats 1600000 in
theorem entriesX_any (bi bt : Int) (O : Option Addr) (n c : Nat) (xs : List Ent) (w : World) (h : IsEs w O n xs) (hn : n ≤ 140737488355328) (hb0 : 0 ≤ bi) (hb1 : bi < 18446744073709551616) :
    Calls Try.prog 27 #[.int .u64 bi, .int .u64 bt, .slice O n c] w fun e w' => e = .returned (.bool (runB bi bt xs)) ∧ Below w.heap.size w w' := by
  have H := Lib.hid h
  have hxl := h.len
  have HL := Lib.hid hxl
  clear h
  obtain ⟨r, hr⟩ : ∃ r, r = runB bi bt xs := ⟨_, rfl⟩
  rw [← hr]
  have HR := Lib.hid hr
  clear hr
  go_enter Try.func27, Try.ntmps27
  by_cases g1 : 4611686018427387904 ≤ bi
  · go_wp2
    go_ret
    exact ⟨ret_bool (b := false) (by rw [HR.out, runB_high g1]), Below.refl _ _⟩
  by_cases g2 : 4611686018427387904 - bi ≤ (n : Int)
  · go_wp2
    go_ret
    exact ⟨ret_bool (b := false) (by rw [HR.out, runB_long HL.out g2]), Below.refl _ _⟩
  have HR2 := Lib.hid (show r = runL bi bt xs by rw [HR.out, runB_in HL.out g1 g2])
  go_wp2_with fail
  go_loopw [1, 7] (fun s1 s7 wr => ∃ (j : Nat) (tm : Int), s1 = .int .u64 tm ∧ s7 = .int .i64 j ∧ j ≤ n ∧ r = runL (bi + j) tm (xs.drop j) ∧ Below w.heap.size w wr) (fun _ s7 _ => (n - intOf s7).toNat)
  case atStart => exact ⟨0, bt, rfl, rfl, by omega, by rw [HR2.out]; simp, Below.refl _ _⟩
  case round =>
    obtain ⟨j, tm, rfl, rfl, hj, hU, hbr⟩ := hrel
    have HU := Lib.hid hU
    clear hU
    by_cases hlt : j < n
    · have b1 : (j : Int) < (n : Int) := by omega
      cases O with
      | none => obtain ⟨zs, _, h2, h3, _⟩ := H.out; have := h3.2.1 rfl; omega
      | some ad =>
      obtain ⟨x, D, dc, V, vc, L, lc, hx, hE, _, _, m0, m1, m2, m3, m4, m5⟩ := (H.out.below hbr).at hlt
      have HX := Lib.hid hx
      have HE := Lib.hid hE
      clear hx hE
      go_wp2_with fail
      refine (fineX_any _ x (bi + j + 1) tm wr HE.out).mono ?_
      rintro e w3 ⟨rfl, hb3⟩
      have hbr3 := hbr.trans (hb3.mono hbr.size)
      obtain ⟨b, hb⟩ : ∃ b, b = okE x (bi + j + 1) tm := ⟨_, rfl⟩
      rw [← hb]
      have HB := Lib.hid (show r = (b && runL (bi + ((j + 1 : Nat) : Int)) x.2.1 (xs.drop (j + 1))) by rw [HU.out, runL_at HX.out, ← hb])
      clear hb m0 m1 m2 m3 m4 m5
      obtain ⟨_, _, _, _, _, _, _, hx', _, _, _, m0, m1, m2, m3, m4, m5⟩ := (H.out.below hbr3).at hlt
      rw [HX.out] at hx'
      obtain rfl := Option.some.inj hx'
      cases b with
      | false =>
        go_wp2
        go_ret
        exact ⟨ret_bool (b := false) (by rw [HB.out, Bool.false_and]), hbr3⟩
      | true =>
        go_wp2
        go_roundw
        case rel => exact ⟨j + 1, _, rfl, by go_num, by omega, by rw [HB.out, Bool.true_and], hbr3⟩
        case measure => simp [intOf]; omega
    · obtain rfl : j = n := by omega
      have b1 : ¬ (j : Int) < (j : Int) := by omega
      go_wp2
      go_ret
      exact ⟨ret_bool (b := true) (by rw [HU.out, runL_end (by omega)]), hbr⟩

/-- Check of a log. -/
def chkB (bi bt : Int) (xs : List Ent) : Bool := decide (bt < 4611686018427387904) && runB bi bt xs
set_option maxHeartbeats 1600000 in
theorem checkX_any (bi bt : Int) (A : Option Addr) (na ca : Nat) (B : Option Addr) (nb cb : Nat) (D : Option Addr) (nd cd : Nat) (O : Option Addr) (n c : Nat) (xs : List Ent) (w : World) (h : IsEs w O n xs) (hn : n ≤ 140737488355328) (hb0 : 0 ≤ bi) (hb1 : bi < 18446744073709551616) :
    Calls Try.prog 10 #[lg bi bt A na ca B nb cb D nd cd O n c] w fun e w' => e = .returned (.bool (chkB bi bt xs)) ∧ Below w.heap.size w w' := by
  have H := Lib.hid h
  clear h
  obtain ⟨r, hr⟩ : ∃ r, r = chkB bi bt xs := ⟨_, rfl⟩
  rw [← hr]
  have HR := Lib.hid hr
  clear hr
  go_enter Try.func10, Try.ntmps10
  by_cases g1 : bt < 4611686018427387904
  · go_wp2_with fail
    refine name_calls (fun w1 hw1 => ?_)
    have hb1' : Below w.heap.size w w1 := by rw [hw1]; exact (by (repeat first | refine Below.setCell ?_ (by first | omega | (dsimp only; omega) | (simp only [heap_drew, World.size_alloc, Gz.size_setCell]; omega)) _ | refine Below.alloc ?_ (by first | omega | (dsimp only; omega) | (simp only [heap_drew, World.size_alloc, Gz.size_setCell]; omega)) _ | refine Below.drew ?_); exact Below.refl _ _)
    clear hw1
    refine (entriesX_any bi bt O n c xs w1 (H.out.below hb1') hn hb0 hb1).mono ?_
    rintro e w2 ⟨rfl, hb2⟩
    obtain ⟨b, hb⟩ : ∃ b, b = runB bi bt xs := ⟨_, rfl⟩
    rw [← hb]
    have HB := Lib.hid (show r = b by rw [HR.out, chkB, hb, decide_eq_true g1, Bool.true_and])
    clear hb
    go_wp2
    go_ret
    exact ⟨ret_bool (b := b) HB.out, hb1'.trans (hb2.mono hb1'.size)⟩
  · go_wp2
    go_ret
    exact ⟨ret_bool (b := false) (by rw [HR.out, chkB, decide_eq_false (by omega), Bool.false_and]), (by (repeat first | refine Below.setCell ?_ (by first | omega | (dsimp only; omega) | (simp only [heap_drew, World.size_alloc, Gz.size_setCell]; omega)) _ | refine Below.alloc ?_ (by first | omega | (dsimp only; omega) | (simp only [heap_drew, World.size_alloc, Gz.size_setCell]; omega)) _ | refine Below.drew ?_); exact Below.refl _ _)⟩

theorem emptyX_any (V L : Option Addr) (v vc l lc : Nat) (w : World) (hv : v ≤ 140737488355328) (hl : l ≤ 140737488355328) : Calls Try.prog 57 #[.agg #[.slice V v vc, .slice L l lc]] w fun e w' => e = .returned (.bool (decide (v = 0) && decide (l = 0))) ∧ Below w.heap.size w w' := by
  have e0 : (((v : Int) + (l : Int)) == 0) = (decide (v = 0) && decide (l = 0)) := by
    rw [Bool.eq_iff_iff]
    simp
    omega
  go_enter Try.func57, Try.ntmps57
  go_wp2
  go_ret
  first
    | exact ⟨rfl, (by (repeat first | refine Below.setCell ?_ (by first | omega | (dsimp only; omega) | (simp only [heap_drew, World.size_alloc, Gz.size_setCell]; omega)) _ | refine Below.alloc ?_ (by first | omega | (dsimp only; omega) | (simp only [heap_drew, World.size_alloc, Gz.size_setCell]; omega)) _ | refine Below.drew ?_); exact Below.refl _ _)⟩
    | exact ⟨by rw [e0], (by (repeat first | refine Below.setCell ?_ (by first | omega | (dsimp only; omega) | (simp only [heap_drew, World.size_alloc, Gz.size_setCell]; omega)) _ | refine Below.alloc ?_ (by first | omega | (dsimp only; omega) | (simp only [heap_drew, World.size_alloc, Gz.size_setCell]; omega)) _ | refine Below.drew ?_); exact Below.refl _ _)⟩
    | skip

set_option maxHeartbeats 1600000 in
theorem follows_any (cs : List Value) (x : Ent) (ix tm : Int) (w : World) (h : IsE w cs x) (hf : Fits x) (h0 : 0 ≤ ix) (h1 : ix < 4611686018427387904) :
    Calls Try.prog 53 #[.agg cs.toArray, .int .u64 ix, .int .u64 tm] w fun e w' => e = .returned (.bool (okE x (ix + 1) tm)) ∧ Below w.heap.size w w' := by
  obtain ⟨i, t, k, ds, vs, ls⟩ := x
  obtain ⟨D, dc, V, vc, L, lc, rfl, _, _⟩ := h
  obtain ⟨f1, f2, f3⟩ := hf
  dsimp only [okE] at f1 f2 f3 ⊢
  generalize vs.length = v at *
  generalize ls.length = l at *
  generalize ds.length = d at *
  by_cases h2 : i = ix + 1
  rotate_left 1
  · have e0 : (i != ix + 1) = true := bne_iff_ne.2 h2
    rw [decide_eq_false h2]
    simp only [Bool.false_and]
    go_enter Try.func53, Try.ntmps53
    go_wp2
    go_ret
    exact ⟨ret_bool rfl, (by (repeat first | refine Below.setCell ?_ (by first | omega | (dsimp only; omega) | (simp only [heap_drew, World.size_alloc, Gz.size_setCell]; omega)) _ | refine Below.alloc ?_ (by first | omega | (dsimp only; omega) | (simp only [heap_drew, World.size_alloc, Gz.size_setCell]; omega)) _ | refine Below.drew ?_); exact Below.refl _ _)⟩
  subst h2
  rw [decide_eq_true rfl, Bool.true_and]
  by_cases h2 : tm ≤ t
  rotate_left 1
  · have e0 : t < tm := by omega
    rw [decide_eq_false h2]
    simp only [Bool.false_and]
    go_enter Try.func53, Try.ntmps53
    go_wp2
    go_ret
    exact ⟨ret_bool rfl, (by (repeat first | refine Below.setCell ?_ (by first | omega | (dsimp only; omega) | (simp only [heap_drew, World.size_alloc, Gz.size_setCell]; omega)) _ | refine Below.alloc ?_ (by first | omega | (dsimp only; omega) | (simp only [heap_drew, World.size_alloc, Gz.size_setCell]; omega)) _ | refine Below.drew ?_); exact Below.refl _ _)⟩
  have e2 : ¬ t < tm := by omega
  rw [decide_eq_true h2, Bool.true_and]
  by_cases h3 : t < 4611686018427387904
  rotate_left 1
  · have e0 : 4611686018427387904 ≤ t := by omega
    rw [decide_eq_false h3]
    simp only [Bool.false_and]
    go_enter Try.func53, Try.ntmps53
    go_wp2
    go_ret
    exact ⟨ret_bool rfl, (by (repeat first | refine Below.setCell ?_ (by first | omega | (dsimp only; omega) | (simp only [heap_drew, World.size_alloc, Gz.size_setCell]; omega)) _ | refine Below.alloc ?_ (by first | omega | (dsimp only; omega) | (simp only [heap_drew, World.size_alloc, Gz.size_setCell]; omega)) _ | refine Below.drew ?_); exact Below.refl _ _)⟩
  have e3 : ¬ 4611686018427387904 ≤ t := by omega
  rw [decide_eq_true h3, Bool.true_and]
  clear h2 h3
  by_cases k1 : k = 1
  · subst k1
    go_enter Try.func53, Try.ntmps53
    go_wp2_with fail
    refine name_calls (fun w1 hw1 => ?_)
    have c1 := (show Blk w1 w.heap.size [.int .u64 (ix + 1), .int .u64 t, .int .i64 _, .slice D d dc, .slice V v vc, .slice L l lc] by rw [hw1]; exact Blk.new _ _ _ _ rfl)
    have hb1 : Below w.heap.size w w1 := by rw [hw1]; exact (by (repeat first | refine Below.setCell ?_ (by first | omega | (dsimp only; omega) | (simp only [heap_drew, World.size_alloc, Gz.size_setCell]; omega)) _ | refine Below.alloc ?_ (by first | omega | (dsimp only; omega) | (simp only [heap_drew, World.size_alloc, Gz.size_setCell]; omega)) _ | refine Below.drew ?_); exact Below.refl _ _)
    clear hw1
    refine (emptyX_any V L v vc l lc w1 (by omega) (by omega)).mono ?_
    rintro e w2 ⟨rfl, hb2⟩
    have c2 := (c1.ext hb2).cell
    by_cases hv : v = 0
    · subst hv
      by_cases hl : l = 0
      · subst hl
        by_cases hd : d = 0
        · subst hd
          go_wp2
          go_ret
          exact ⟨ret_bool (by simp [kindB, *]), hb1.trans (hb2.mono hb1.size)⟩
        · have hd' : ((d : Int) == 0) = false := by rw [beq_eq_false_iff_ne]; omega
          go_wp2
          go_ret
          exact ⟨ret_bool (by simp [kindB, *]), hb1.trans (hb2.mono hb1.size)⟩
      · rw [decide_eq_false hl, Bool.and_false]
        go_wp2
        go_ret
        exact ⟨ret_bool (by simp [kindB, *]), hb1.trans (hb2.mono hb1.size)⟩
    · rw [decide_eq_false hv, Bool.false_and]
      go_wp2
      go_ret
      exact ⟨ret_bool (by simp [kindB, *]), hb1.trans (hb2.mono hb1.size)⟩
  by_cases k2 : k = 2
  · subst k2
    go_enter Try.func53, Try.ntmps53
    go_wp2_with fail
    refine name_calls (fun w1 hw1 => ?_)
    have c1 := (show Blk w1 w.heap.size [.int .u64 (ix + 1), .int .u64 t, .int .i64 _, .slice D d dc, .slice V v vc, .slice L l lc] by rw [hw1]; exact Blk.new _ _ _ _ rfl)
    have hb1 : Below w.heap.size w w1 := by rw [hw1]; exact (by (repeat first | refine Below.setCell ?_ (by first | omega | (dsimp only; omega) | (simp only [heap_drew, World.size_alloc, Gz.size_setCell]; omega)) _ | refine Below.alloc ?_ (by first | omega | (dsimp only; omega) | (simp only [heap_drew, World.size_alloc, Gz.size_setCell]; omega)) _ | refine Below.drew ?_); exact Below.refl _ _)
    clear hw1
    refine (emptyX_any V L v vc l lc w1 (by omega) (by omega)).mono ?_
    rintro e w2 ⟨rfl, hb2⟩
    have c2 := (c1.ext hb2).cell
    go_wp2
    go_ret
    exact ⟨ret_bool (by simp [kindB]), hb1.trans (hb2.mono hb1.size)⟩
  by_cases k3 : k = 3
  · subst k3
    by_cases hd : d = 0
    · subst hd
      go_enter Try.func53, Try.ntmps53
      go_wp2
      go_ret
      exact ⟨ret_bool (by simp [kindB, *]), (by (repeat first | refine Below.setCell ?_ (by first | omega | (dsimp only; omega) | (simp only [heap_drew, World.size_alloc, Gz.size_setCell]; omega)) _ | refine Below.alloc ?_ (by first | omega | (dsimp only; omega) | (simp only [heap_drew, World.size_alloc, Gz.size_setCell]; omega)) _ | refine Below.drew ?_); exact Below.refl _ _)⟩
    · have hd' : ((d : Int) == 0) = false := by rw [beq_eq_false_iff_ne]; omega
      go_enter Try.func53, Try.ntmps53
      go_wp2
      go_ret
      exact ⟨ret_bool (by simp [kindB, *]), (by (repeat first | refine Below.setCell ?_ (by first | omega | (dsimp only; omega) | (simp only [heap_drew, World.size_alloc, Gz.size_setCell]; omega)) _ | refine Below.alloc ?_ (by first | omega | (dsimp only; omega) | (simp only [heap_drew, World.size_alloc, Gz.size_setCell]; omega)) _ | refine Below.drew ?_); exact Below.refl _ _)⟩
  · have q1 : (k == 1) = false := beq_eq_false_iff_ne.2 k1
    have q2 : (k == 2) = false := beq_eq_false_iff_ne.2 k2
    have q3 : (k == 3) = false := beq_eq_false_iff_ne.2 k3
    have q : kindB k v l d = false := by simp [kindB, k1, k2, k3]
    rw [q]
    go_enter Try.func53, Try.ntmps53
    go_wp2
    go_ret
    exact ⟨ret_bool rfl, (by (repeat first | refine Below.setCell ?_ (by first | omega | (dsimp only; omega) | (simp only [heap_drew, World.size_alloc, Gz.size_setCell]; omega)) _ | refine Below.alloc ?_ (by first | omega | (dsimp only; omega) | (simp only [heap_drew, World.size_alloc, Gz.size_setCell]; omega)) _ | refine Below.drew ?_); exact Below.refl _ _)⟩

set_option maxHeartbeats 1600000 in
theorem run_any (bi bt : Int) (O : Option Addr) (n c : Nat) (xs : List Ent) (w : World) (h : IsEs w O n xs) (hf : ∀ x ∈ xs, Fits x) (hn : n ≤ 140737488355328) (hb0 : 0 ≤ bi) (hb1 : bi < 18446744073709551616) :
    Calls Try.prog 31 #[.int .u64 bi, .int .u64 bt, .slice O n c] w fun e w' => e = .returned (.bool (runB bi bt xs)) ∧ Below w.heap.size w w' := by
  have H := Lib.hid h
  have hxl := h.len
  have HL := Lib.hid hxl
  have HF := Lib.hid hf
  clear h hf
  obtain ⟨r, hr⟩ : ∃ r, r = runB bi bt xs := ⟨_, rfl⟩
  rw [← hr]
  have HR := Lib.hid hr
  clear hr
  go_enter Try.func31, Try.ntmps31
  by_cases g1 : 4611686018427387904 ≤ bi
  · go_wp2
    go_ret
    exact ⟨ret_bool (b := false) (by rw [HR.out, runB_high g1]), Below.refl _ _⟩
  by_cases g2 : 4611686018427387904 - bi ≤ (n : Int)
  · go_wp2
    go_ret
    exact ⟨ret_bool (b := false) (by rw [HR.out, runB_long HL.out g2]), Below.refl _ _⟩
  have HR2 := Lib.hid (show r = runL bi bt xs by rw [HR.out, runB_in HL.out g1 g2])
  go_wp2_with fail
  go_loopw [0, 1, 21] (fun s0 s1 s21 wr => ∃ (j : Nat) (tm : Int), s0 = .int .u64 (bi + j) ∧ s1 = .int .u64 tm ∧ s21 = .int .i64 j ∧ j ≤ n ∧ r = runL (bi + j) tm (xs.drop j) ∧ Below w.heap.size w wr) (fun _ _ s21 _ => (n - intOf s21).toNat)
  case atStart => exact ⟨0, bt, by simp, rfl, rfl, by omega, by rw [HR2.out]; simp, Below.refl _ _⟩
  case round =>
    obtain ⟨j, tm, rfl, rfl, rfl, hj, hU, hbr⟩ := hrel
    have HU := Lib.hid hU
    clear hU
    by_cases hlt : j < n
    · have b1 : (j : Int) < (n : Int) := by omega
      cases O with
      | none => obtain ⟨zs, _, h2, h3, _⟩ := H.out; have := h3.2.1 rfl; omega
      | some ad =>
      obtain ⟨x, D, dc, V, vc, L, lc, hx, hE, _, _, m0, m1, m2, m3, m4, m5⟩ := (H.out.below hbr).at hlt
      have hxm : x ∈ xs := List.mem_of_getElem? hx
      have HX := Lib.hid hx
      have HE := Lib.hid hE
      clear hx hE
      go_wp2_with fail
      refine name_calls (fun w2 hw2 => ?_)
      have k8 : Blk w2 wr.heap.size [.int .u64 x.1, .int .u64 x.2.1, .int .i64 x.2.2.1, .slice D x.2.2.2.1.length dc, .slice V x.2.2.2.2.1.length vc, .slice L x.2.2.2.2.2.length lc] := by rw [hw2]; exact Blk.new _ _ _ _ rfl
      have hb2 : Below wr.heap.size wr w2 := by rw [hw2]; exact below_alloc_one _ _
      clear hw2 m0 m1 m2 m3 m4 m5
      refine (follows_any _ x (bi + j) tm w2 (HE.out.below hb2) (HF.out x hxm) (by omega) (by omega)).mono ?_
      rintro e w3 ⟨rfl, hb3⟩
      have hbr3 := hbr.trans ((hb2.trans (hb3.mono hb2.size)).mono hbr.size)
      obtain ⟨b, hb⟩ : ∃ b, b = okE x (bi + j + 1) tm := ⟨_, rfl⟩
      rw [← hb]
      have HB := Lib.hid (show r = (b && runL (bi + ((j + 1 : Nat) : Int)) x.2.1 (xs.drop (j + 1))) by rw [HU.out, runL_at HX.out, ← hb])
      have HI := Lib.hid (show b = true → x.1 = bi + ((j + 1 : Nat) : Int) from fun h => by
        rw [h] at hb
        have := hb.symm
        simp only [okE, Bool.and_eq_true, decide_eq_true_eq] at this
        have := this.1.1.1
        omega)
      clear hb
      have c8 := (k8.ext hb3).cell
      cases b with
      | false =>
        go_wp2
        go_ret
        exact ⟨ret_bool (b := false) (by rw [HB.out, Bool.false_and]), hbr3⟩
      | true =>
        go_wp2_with fail
        refine wp_region_held_drew (S := Ext w3) (by kernel_rfl) Ext.start (fun hS => ?_)
        simp only [List.size_toArray, List.length_cons, List.length_nil]
        refine take_at (i := 0) (oi := _) (dst := some 30) (v := ?_) rfl rfl (by kernel_rfl) (by kernel_rfl) (by kernel_rfl) (fun _ _ _ h => h) (Or.inl ⟨by rfl, by intro w hSw; (try dsimp only at hSw); go_simp; (try with_reducible rfl)⟩) (by assumption) ?_; (try simp only [Act.put, List.setIfInBounds_toArray, List.set_cons_zero, List.set_cons_succ])
        refine take_at (i := 1) (oi := _) (dst := some 31) (v := ?_) rfl rfl (by kernel_rfl) (by kernel_rfl) (by kernel_rfl) (fun _ _ _ h => h) (Or.inl ⟨by rfl, by intro w hSw; (try dsimp only at hSw); go_simp; (try with_reducible rfl)⟩) (by assumption) ?_; (try simp only [Act.put, List.setIfInBounds_toArray, List.set_cons_zero, List.set_cons_succ])
        refine take_at (i := 2) (oi := _) (dst := some 32) (v := ?_) rfl rfl (by kernel_rfl) (by kernel_rfl) (by kernel_rfl) (fun _ _ _ h => h) (Or.inl ⟨by rfl, by intro w hSw; (try dsimp only at hSw); go_simp; (try with_reducible rfl)⟩) (by assumption) ?_; (try simp only [Act.put, List.setIfInBounds_toArray, List.set_cons_zero, List.set_cons_succ])
        refine take_at (i := 3) (oi := _) (dst := some 33) (v := ?_) rfl rfl (by kernel_rfl) (by kernel_rfl) (by kernel_rfl) (fun _ _ _ h => h) (Or.inl ⟨by rfl, by intro w hSw; (try dsimp only at hSw); go_simp; (try with_reducible rfl)⟩) (by assumption) ?_; (try simp only [Act.put, List.setIfInBounds_toArray, List.set_cons_zero, List.set_cons_succ])
        refine take_at (i := 4) (oi := _) (dst := some 0) (v := ?_) rfl rfl (by kernel_rfl) (by kernel_rfl) (by kernel_rfl) (fun _ _ _ h => h) (Or.inl ⟨by rfl, by intro w hSw; (try dsimp only at hSw); go_simp; (try with_reducible rfl)⟩) (by assumption) ?_; (try simp only [Act.put, List.setIfInBounds_toArray, List.set_cons_zero, List.set_cons_succ])
        refine take_at (i := 5) (oi := _) (dst := some 1) (v := ?_) rfl rfl (by kernel_rfl) (by kernel_rfl) (by kernel_rfl) (fun _ _ _ h => h) (Or.inl ⟨by rfl, by intro w hSw; (try dsimp only at hSw); go_simp; (try with_reducible rfl)⟩) (by assumption) ?_; (try simp only [Act.put, List.setIfInBounds_toArray, List.set_cons_zero, List.set_cons_succ])
        refine wpAnyH_done (by kernel_rfl) ?_ _
        go_wp2
        go_roundw
        case rel => exact ⟨j + 1, _, by rw [HI.out (by trivial)], rfl, by go_num, by omega, by rw [HB.out, Bool.true_and], hbr3.drew⟩
        case measure => simp [intOf]; omega
    · obtain rfl : j = n := by omega
      have b1 : ¬ (j : Int) < (j : Int) := by omega
      go_wp2
      go_ret
      exact ⟨ret_bool (b := true) (by rw [HU.out, runL_end (by omega)]), hbr⟩
end Go.Proofs.Ytglabhfmeinogaa

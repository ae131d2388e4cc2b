/- Contracts of keyrange's functions and of the document's: Check, Has, least. -/
import Derived.Test.YtbpmpnifelbaaaaRows
import Derived.Test.YtbpmpnifelbaaaaBase
import Derived.Test.YtbpmpnifelbaaaaPhase
import Derived.Test.YtbpmpnifelbaaaaKLaw
import Derived.Laws.Cover1
namespace Go.Proofs.Ytbpmpnifelbaaaa
open Go.RowKit Go.Gz Go.Lib
attribute [local go_sem] World.cell?_alloc_some frozen?_alloc_some

/-- A range, as a value. -/
abbrev rg (lo hi : ByteArray) : Value := .agg #[.string lo, .string hi]

theorem check_any (lo hi : ByteArray) (w : World) : Calls Try.prog 17 #[rg lo hi] w fun e w' => e = .returned (.int .i64 (chk lo hi)) ∧ Below w.heap.size w w' := by
  go_enter Try.func17, Try.ntmps17
  by_cases h1 : 32 < lo.size
  · have i1 : (32 : Int) < (lo.size : Int) := by omega
    have e : chk lo hi = 131 := by unfold chk; rw [if_pos (.inl h1)]
    rw [e]
    go_wp2
    go_ret
    exact ⟨rfl, (by (repeat first | refine Below.setCell ?_ (by first | omega | (dsimp only; omega) | (simp only [heap_drew, World.size_alloc, Gz.size_setCell]; omega)) _ | refine Below.alloc ?_ (by first | omega | (dsimp only; omega) | (simp only [heap_drew, World.size_alloc, Gz.size_setCell]; omega)) _ | refine Below.drew ?_); exact Below.refl _ _)⟩
  have i1 : ¬ (32 : Int) < (lo.size : Int) := by omega
  by_cases h2 : 32 < hi.size
  · have i2 : (32 : Int) < (hi.size : Int) := by omega
    have e : chk lo hi = 131 := by unfold chk; rw [if_pos (.inr h2)]
    rw [e]
    go_wp2
    go_ret
    exact ⟨rfl, (by (repeat first | refine Below.setCell ?_ (by first | omega | (dsimp only; omega) | (simp only [heap_drew, World.size_alloc, Gz.size_setCell]; omega)) _ | refine Below.alloc ?_ (by first | omega | (dsimp only; omega) | (simp only [heap_drew, World.size_alloc, Gz.size_setCell]; omega)) _ | refine Below.drew ?_); exact Below.refl _ _)⟩
  have i2 : ¬ (32 : Int) < (hi.size : Int) := by omega
  by_cases h3 : bl hi = []
  · have e3 := emT (a := hi) h3
    have e : chk lo hi = 0 := by rw [chk_zero]; exact ⟨by omega, by omega, .inl h3⟩
    rw [e]
    go_wp2
    go_ret
    exact ⟨rfl, (by (repeat first | refine Below.setCell ?_ (by first | omega | (dsimp only; omega) | (simp only [heap_drew, World.size_alloc, Gz.size_setCell]; omega)) _ | refine Below.alloc ?_ (by first | omega | (dsimp only; omega) | (simp only [heap_drew, World.size_alloc, Gz.size_setCell]; omega)) _ | refine Below.drew ?_); exact Below.refl _ _)⟩
  have e3 := emF (a := hi) h3
  by_cases h4 : bl lo < bl hi
  · have e4 := leF h4
    have e : chk lo hi = 0 := by rw [chk_zero]; exact ⟨by omega, by omega, .inr h4⟩
    rw [e]
    go_wp2
    go_ret
    exact ⟨rfl, (by (repeat first | refine Below.setCell ?_ (by first | omega | (dsimp only; omega) | (simp only [heap_drew, World.size_alloc, Gz.size_setCell]; omega)) _ | refine Below.alloc ?_ (by first | omega | (dsimp only; omega) | (simp only [heap_drew, World.size_alloc, Gz.size_setCell]; omega)) _ | refine Below.drew ?_); exact Below.refl _ _)⟩
  · have e4 := leT h4
    have e : chk lo hi = 132 := by unfold chk; rw [if_neg (by omega), if_pos ⟨h3, h4⟩]
    rw [e]
    go_wp2
    go_ret
    exact ⟨rfl, (by (repeat first | refine Below.setCell ?_ (by first | omega | (dsimp only; omega) | (simp only [heap_drew, World.size_alloc, Gz.size_setCell]; omega)) _ | refine Below.alloc ?_ (by first | omega | (dsimp only; omega) | (simp only [heap_drew, World.size_alloc, Gz.size_setCell]; omega)) _ | refine Below.drew ?_); exact Below.refl _ _)⟩
theorem checkRef_any (lo hi : ByteArray) (w : World) : Calls Try.prog 18 #[rg lo hi] w fun e w' => e = .returned (.int .i64 (chk lo hi)) ∧ Below w.heap.size w w' := by
  go_enter Try.func18, Try.ntmps18
  by_cases h1 : 32 < lo.size
  · have i1 : (32 : Int) < (lo.size : Int) := by omega
    have e : chk lo hi = 131 := by unfold chk; rw [if_pos (.inl h1)]
    rw [e]
    go_wp2
    go_ret
    exact ⟨rfl, (by (repeat first | refine Below.setCell ?_ (by first | omega | (dsimp only; omega) | (simp only [heap_drew, World.size_alloc, Gz.size_setCell]; omega)) _ | refine Below.alloc ?_ (by first | omega | (dsimp only; omega) | (simp only [heap_drew, World.size_alloc, Gz.size_setCell]; omega)) _ | refine Below.drew ?_); exact Below.refl _ _)⟩
  have i1 : ¬ (32 : Int) < (lo.size : Int) := by omega
  by_cases h2 : 32 < hi.size
  · have i2 : (32 : Int) < (hi.size : Int) := by omega
    have e : chk lo hi = 131 := by unfold chk; rw [if_pos (.inr h2)]
    rw [e]
    go_wp2
    go_ret
    exact ⟨rfl, (by (repeat first | refine Below.setCell ?_ (by first | omega | (dsimp only; omega) | (simp only [heap_drew, World.size_alloc, Gz.size_setCell]; omega)) _ | refine Below.alloc ?_ (by first | omega | (dsimp only; omega) | (simp only [heap_drew, World.size_alloc, Gz.size_setCell]; omega)) _ | refine Below.drew ?_); exact Below.refl _ _)⟩
  have i2 : ¬ (32 : Int) < (hi.size : Int) := by omega
  by_cases h3 : bl hi = []
  · have e3 := emT (a := hi) h3
    have e : chk lo hi = 0 := by rw [chk_zero]; exact ⟨by omega, by omega, .inl h3⟩
    rw [e]
    go_wp2
    go_ret
    exact ⟨rfl, (by (repeat first | refine Below.setCell ?_ (by first | omega | (dsimp only; omega) | (simp only [heap_drew, World.size_alloc, Gz.size_setCell]; omega)) _ | refine Below.alloc ?_ (by first | omega | (dsimp only; omega) | (simp only [heap_drew, World.size_alloc, Gz.size_setCell]; omega)) _ | refine Below.drew ?_); exact Below.refl _ _)⟩
  have e3 := emF (a := hi) h3
  by_cases h4 : bl lo < bl hi
  · have e4 := leF h4
    have e : chk lo hi = 0 := by rw [chk_zero]; exact ⟨by omega, by omega, .inr h4⟩
    rw [e]
    go_wp2
    go_ret
    exact ⟨rfl, (by (repeat first | refine Below.setCell ?_ (by first | omega | (dsimp only; omega) | (simp only [heap_drew, World.size_alloc, Gz.size_setCell]; omega)) _ | refine Below.alloc ?_ (by first | omega | (dsimp only; omega) | (simp only [heap_drew, World.size_alloc, Gz.size_setCell]; omega)) _ | refine Below.drew ?_); exact Below.refl _ _)⟩
  · have e4 := leT h4
    have e : chk lo hi = 132 := by unfold chk; rw [if_neg (by omega), if_pos ⟨h3, h4⟩]
    rw [e]
    go_wp2
    go_ret
    exact ⟨rfl, (by (repeat first | refine Below.setCell ?_ (by first | omega | (dsimp only; omega) | (simp only [heap_drew, World.size_alloc, Gz.size_setCell]; omega)) _ | refine Below.alloc ?_ (by first | omega | (dsimp only; omega) | (simp only [heap_drew, World.size_alloc, Gz.size_setCell]; omega)) _ | refine Below.drew ?_); exact Below.refl _ _)⟩

theorem has_any (lo hi k : ByteArray) (w : World) : Calls Try.prog 11 #[rg lo hi, .string k] w fun e w' => e = .returned (.bool (has lo hi k)) ∧ Below w.heap.size w w' := by
  obtain ⟨r, hr⟩ : ∃ r, r = has lo hi k := ⟨_, rfl⟩
  rw [← hr]
  have HR := hide hr
  clear hr
  go_enter Try.func11, Try.ntmps11
  go_wp2_with fail
  refine name_calls (fun w1 hw1 => ?_)
  have k1 : Blk w1 w.heap.size [.string lo, .string hi] := by rw [hw1]; exact Blk.new _ _ _ _ rfl
  have hb1 : Below w.heap.size w w1 := by rw [hw1]; exact (by (repeat first | refine Below.setCell ?_ (by first | omega | (dsimp only; omega) | (simp only [heap_drew, World.size_alloc, Gz.size_setCell]; omega)) _ | refine Below.alloc ?_ (by first | omega | (dsimp only; omega) | (simp only [heap_drew, World.size_alloc, Gz.size_setCell]; omega)) _ | refine Below.drew ?_); exact Below.refl _ _)
  clear hw1
  refine (check_any lo hi w1).mono ?_
  rintro e w2 ⟨rfl, hb2⟩
  have c1 := (k1.ext hb2).cell
  have hb2 := hb1.trans (hb2.mono hb1.size)
  clear k1 hb1
  by_cases h0 : chk lo hi = 0
  · have e0 : has lo hi k = decide (k.size ≤ 32 ∧ ¬ bl k < bl lo ∧ (bl hi = [] ∨ bl k < bl hi)) := by simp [has, h0]
    rw [h0]
    have HC := Lib.hid h0
    have E0 := Lib.hid e0
    clear h0 e0
    by_cases h1 : k.size ≤ 32
    · have i1 : (k.size : Int) ≤ 32 := by omega
      by_cases h2 : bl k < bl lo
      · have e2 := ltT h2
        have e2' := leF h2
        have HE := Lib.hid (show r = false by rw [HR.out, E0.out]; simp [h2])
        go_wp2
        go_ret
        exact ⟨by rw [HE.out]; rfl, hb2⟩
      · have e2 := ltF h2
        have e2' := leT h2
        by_cases h3 : bl hi = []
        · have e3 := emT (a := hi) h3
          have HE := Lib.hid (show r = true by rw [HR.out, E0.out]; simp [h1, h2, h3])
          go_wp2
          go_ret
          exact ⟨by rw [HE.out]; rfl, hb2⟩
        · have e3 := emF (a := hi) h3
          by_cases h4 : bl k < bl hi
          · have e4 := ltT h4
            have HE := Lib.hid (show r = true by rw [HR.out, E0.out]; simp [h1, h2, h4])
            go_wp2
            go_ret
            exact ⟨by rw [HE.out]; rfl, hb2⟩
          · have e4 := ltF h4
            have HE := Lib.hid (show r = false by rw [HR.out, E0.out]; simp [h3, h4])
            go_wp2
            go_ret
            exact ⟨by rw [HE.out]; rfl, hb2⟩
    · have i1 : ¬ (k.size : Int) ≤ 32 := by omega
      have HE := Lib.hid (show r = false by rw [HR.out, E0.out]; simp [h1])
      go_wp2
      go_ret
      exact ⟨by rw [HE.out]; rfl, hb2⟩
  · have HE := Lib.hid (show r = false by rw [HR.out]; simp [has, h0])
    have e0 : (chk lo hi == 0) = false := by simp [h0]
    go_wp2
    go_ret
    exact ⟨by rw [HE.out]; rfl, hb2⟩
theorem hasRef_any (lo hi k : ByteArray) (w : World) : Calls Try.prog 19 #[rg lo hi, .string k] w fun e w' => e = .returned (.bool (has lo hi k)) ∧ Below w.heap.size w w' := by
  obtain ⟨r, hr⟩ : ∃ r, r = has lo hi k := ⟨_, rfl⟩
  rw [← hr]
  have HR := hide hr
  clear hr
  go_enter Try.func19, Try.ntmps19
  go_wp2_with fail
  refine name_calls (fun w1 hw1 => ?_)
  have k1 : Blk w1 w.heap.size [.string lo, .string hi] := by rw [hw1]; exact Blk.new _ _ _ _ rfl
  have hb1 : Below w.heap.size w w1 := by rw [hw1]; exact (by (repeat first | refine Below.setCell ?_ (by first | omega | (dsimp only; omega) | (simp only [heap_drew, World.size_alloc, Gz.size_setCell]; omega)) _ | refine Below.alloc ?_ (by first | omega | (dsimp only; omega) | (simp only [heap_drew, World.size_alloc, Gz.size_setCell]; omega)) _ | refine Below.drew ?_); exact Below.refl _ _)
  clear hw1
  refine (checkRef_any lo hi w1).mono ?_
  rintro e w2 ⟨rfl, hb2⟩
  have c1 := (k1.ext hb2).cell
  have hb2 := hb1.trans (hb2.mono hb1.size)
  clear k1 hb1
  by_cases h0 : chk lo hi = 0
  · have e0 : has lo hi k = decide (k.size ≤ 32 ∧ ¬ bl k < bl lo ∧ (bl hi = [] ∨ bl k < bl hi)) := by simp [has, h0]
    rw [h0]
    have HC := Lib.hid h0
    have E0 := Lib.hid e0
    clear h0 e0
    by_cases h1 : k.size ≤ 32
    · have i1 : (k.size : Int) ≤ 32 := by omega
      by_cases h2 : bl k < bl lo
      · have e2 := ltT h2
        have e2' := leF h2
        have HE := Lib.hid (show r = false by rw [HR.out, E0.out]; simp [h2])
        go_wp2
        go_ret
        exact ⟨by rw [HE.out]; rfl, hb2⟩
      · have e2 := ltF h2
        have e2' := leT h2
        by_cases h3 : bl hi = []
        · have e3 := emT (a := hi) h3
          have HE := Lib.hid (show r = true by rw [HR.out, E0.out]; simp [h1, h2, h3])
          go_wp2
          go_ret
          exact ⟨by rw [HE.out]; rfl, hb2⟩
        · have e3 := emF (a := hi) h3
          by_cases h4 : bl k < bl hi
          · have e4 := ltT h4
            have HE := Lib.hid (show r = true by rw [HR.out, E0.out]; simp [h1, h2, h4])
            go_wp2
            go_ret
            exact ⟨by rw [HE.out]; rfl, hb2⟩
          · have e4 := ltF h4
            have HE := Lib.hid (show r = false by rw [HR.out, E0.out]; simp [h3, h4])
            go_wp2
            go_ret
            exact ⟨by rw [HE.out]; rfl, hb2⟩
    · have i1 : ¬ (k.size : Int) ≤ 32 := by omega
      have HE := Lib.hid (show r = false by rw [HR.out, E0.out]; simp [h1])
      go_wp2
      go_ret
      exact ⟨by rw [HE.out]; rfl, hb2⟩
  · have HE := Lib.hid (show r = false by rw [HR.out]; simp [has, h0])
    have e0 : (chk lo hi == 0) = false := by simp [h0]
    go_wp2
    go_ret
    exact ⟨by rw [HE.out]; rfl, hb2⟩

theorem least_any (a b : ByteArray) (w : World) : Calls Try.prog 24 #[.string a, .string b] w fun e w' => e = .returned (.string (least a b)) ∧ w' = w := by
  go_enter Try.func24, Try.ntmps24
  by_cases h1 : bl a = []
  · have e1 := emT (a := a) h1
    have e : least a b = b := by unfold least; rw [if_pos (.inl h1)]
    rw [e]
    go_wp2
    go_ret
    exact ⟨rfl, rfl⟩
  have e1 := emF (a := a) h1
  by_cases h2 : bl b = []
  · have e2 := emT (a := b) h2
    have e : least a b = a := by unfold least; rw [if_neg (by simp [h1, h2])]
    rw [e]
    go_wp2
    go_ret
    exact ⟨rfl, rfl⟩
  have e2 := emF (a := b) h2
  by_cases h3 : bl b < bl a
  · have e3 := ltT h3
    have e : least a b = b := by unfold least; rw [if_pos (.inr ⟨h2, h3⟩)]
    rw [e]
    go_wp2
    go_ret
    exact ⟨rfl, rfl⟩
  · have e3 := ltF h3
    have e : least a b = a := by unfold least; rw [if_neg (fun h => h.elim h1 (fun h => h3 h.2))]
    rw [e]
    go_wp2
    go_ret
    exact ⟨rfl, rfl⟩
end Go.Proofs.Ytbpmpnifelbaaaa

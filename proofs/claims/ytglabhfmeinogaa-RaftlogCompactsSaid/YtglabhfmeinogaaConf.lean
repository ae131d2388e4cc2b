/- Contracts of the functions on configurations: conf, CloneConf (a copy in new memory), SameConf (of equal ones). -/
import Derived.Test.YtglabhfmeinogaaLeaf
namespace Go.Proofs.Ytglabhfmeinogaa
open Go.RowKit Go.Gz

/-- Two lists of numbers in the cells of a configuration. -/
def IsConf (w : World) (A B : Option Addr) (n m : Nat) (l k : List Int) : Prop := SlA w 1 A n (nums .i64 l) ∧ SlA w 1 B m (nums .i64 k)
theorem IsConf.below {w w' : World} {A B : Option Addr} {n m : Nat} {l k : List Int} (h : IsConf w A B n m l k) (hb : Below w.heap.size w w') : IsConf w' A B n m l k := ⟨h.1.below hb, h.2.below hb⟩
/-- ... in new memory, from block 'base' on. -/
def OwnConf (w : World) (base : Nat) (A B : Option Addr) (n c m d : Nat) (l k : List Int) : Prop :=
  Own w base 3 1 A n c (nums .i64 l) ∧ Own w base 3 1 B m d (nums .i64 k)
theorem OwnConf.is {w : World} {base : Nat} {A B : Option Addr} {n c m d : Nat} {l k : List Int} (h : OwnConf w base A B n c m d l k) : IsConf w A B n m l k := ⟨h.1.sl, h.2.sl⟩
theorem OwnConf.below {w w' : World} {base : Nat} {A B : Option Addr} {n c m d : Nat} {l k : List Int} (h : OwnConf w base A B n c m d l k) (hb : Below w.heap.size w w') : OwnConf w' base A B n c m d l k := ⟨h.1.below hb, h.2.below hb⟩
theorem OwnConf.lower {w : World} {base base' : Nat} {A B : Option Addr} {n c m d : Nat} {l k : List Int} (h : OwnConf w base A B n c m d l k) (hb : base' ≤ base) : OwnConf w base' A B n c m d l k := ⟨h.1.lower hb, h.2.lower hb⟩

set_option maxHeartbeats 800000 in
theorem conf_any (A B : Option Addr) (n c m d : Nat) (l k : List Int) (w : World) (h : IsConf w A B n m l k) (hn : n * 8 ≤ 140737488355328) (hm : m * 8 ≤ 140737488355328) :
    Calls Try.prog 40 #[.agg #[.slice A n c, .slice B m d]] w fun e w' => Below w.heap.size w w' ∧ ∃ A' c' B' d', e = .returned (.agg #[.slice A' n c', .slice B' m d']) ∧ OwnConf w' w.heap.size A' B' n c' m d' l k := by
  have HA := Lib.hid h.1
  have HB := Lib.hid h.2
  clear h
  go_enter Try.func40, Try.ntmps40
  go_wp2_with fail
  refine name_world (fun w1 hw1 => ?_)
  have hbw : Below w.heap.size w w1 := by rw [hw1]; exact ((Below.refl _ _).alloc (Nat.le_refl _) _).alloc (by simp) _
  have HT : Hid (There w1 (w.heap.size + 1) (1 + 1)) := by rw [hw1]; refine ⟨fun j hj => ?_, fun j => ?_⟩ <;> simp [go_sem]; omega
  have cb : ∀ j, w1.cell? ⟨w.heap.size, j, none⟩ = (#[.slice A n c, .slice B m d] : Array Value)[j]? := by intro j; rw [hw1]; simp [go_sem]
  have hz1 : w.heap.size + 2 ≤ w1.heap.size := by rw [hw1]; simp
  have HW := Lib.hid hw1
  clear hw1
  go_region_held3 (Held w1 (w.heap.size + 1) 2)
    (first
      | exact Held.start HT.out
      | exact Held.below (by assumption) (by assumption)
      | exact Held.set 1 _ (Held.set 0 _ (by assumption)))
    ((first
      | (go_at_call 55; have hx := HA.out.below (hbw.trans (Held.toBelow (B := w.heap.size) (w1 := w1) (g := w.heap.size + 1) (n := 2) (by assumption) (by omega))); with_reducible refine (clone_ints A n c l _ hx hn).mono ?_; clear hx; rintro e w2 ⟨hb2, A2, c2, rfl, ho2⟩)
      | (go_at_call 55; have hx := HB.out.below (hbw.trans (Held.toBelow (B := w.heap.size) (w1 := w1) (g := w.heap.size + 1) (n := 2) (by assumption) (by omega))); with_reducible refine (clone_ints B m d k _ hx hm).mono ?_; clear hx; rintro e w3 ⟨hb3, A3, c3, rfl, ho3⟩)))
  rename_i hHeld
  have HH := Held.toBelow (B := w.heap.size) (w1 := w1) (g := w.heap.size + 1) (n := 2) hHeld (by omega)
  have hz2 := hb2.size
  have hz3 := hb3.size
  simp only [heap_drew] at hz2 hz3
  have q1 := (There.below hb3 (There.below hb2 HT.out)).1
  clear hHeld
  go_wp2
  refine bodyPost_ret (v := .agg #[.slice A2 n c2, .slice A3 m c3]) (by simp [results, Try.results40, go_sem, q1]) rfl ⟨hbw.trans HH, _, _, _, _, rfl, ?_, ?_⟩
  · exact (((ho2.below hb3).set _ _ (by first | omega | (dsimp only; omega) | (simp only [heap_drew, World.size_alloc, Gz.size_setCell]; omega))).set _ _ (by first | omega | (dsimp only; omega) | (simp only [heap_drew, World.size_alloc, Gz.size_setCell]; omega))).lower (by first | omega | (dsimp only; omega) | (simp only [heap_drew, World.size_alloc, Gz.size_setCell]; omega))
  · exact ((ho3.set _ _ (by first | omega | (dsimp only; omega) | (simp only [heap_drew, World.size_alloc, Gz.size_setCell]; omega))).set _ _ (by first | omega | (dsimp only; omega) | (simp only [heap_drew, World.size_alloc, Gz.size_setCell]; omega))).lower (by omega)

set_option maxHeartbeats 1600000 in
theorem cloneConf_any (A B : Option Addr) (n c m d : Nat) (l k : List Int) (w : World) (h : IsConf w A B n m l k) (hn : n * 8 ≤ 140737488355328) (hm : m * 8 ≤ 140737488355328) :
    Calls Try.prog 56 #[.agg #[.slice A n c, .slice B m d]] w fun e w' => Below w.heap.size w w' ∧ ∃ A' c' B' d', e = .returned (.agg #[.slice A' n c', .slice B' m d']) ∧ OwnConf w' w.heap.size A' B' n c' m d' l k := by
  obtain ⟨i0, hi, hz0, hz1', hz2'⟩ := info_parts infoInt
  have HA := Lib.hid h.1
  have HB := Lib.hid h.2
  clear h
  go_enter Try.func56, Try.ntmps56
  go_wp2_with fail
  refine name_world (fun w1 hw1 => ?_)
  have hbw : Below w.heap.size w w1 := by rw [hw1]; exact ((Below.refl _ _).alloc (Nat.le_refl _) _).alloc (by simp) _
  have HT : Hid (There w1 (w.heap.size + 1) (1 + 1)) := by rw [hw1]; refine ⟨fun j hj => ?_, fun j => ?_⟩ <;> simp [go_sem]; omega
  have cb : ∀ j, w1.cell? ⟨w.heap.size, j, none⟩ = (#[.slice A n c, .slice B m d] : Array Value)[j]? := by intro j; rw [hw1]; simp [go_sem]
  have hz1 : w.heap.size + 2 ≤ w1.heap.size := by rw [hw1]; simp
  have HW := Lib.hid hw1
  clear hw1
  go_region_held3 (Held w1 (w.heap.size + 1) 2)
    (first
      | exact Held.start HT.out
      | exact Held.alloc (by assumption) _
      | exact Held.below (by assumption) (by assumption)
      | exact Held.set 1 _ (Held.set 0 _ (by assumption)))
    ((first
      | (have hx := HA.out.below (hbw.trans (Held.toBelow (B := w.heap.size) (w1 := w1) (g := w.heap.size + 1) (n := 2) (by assumption) (by omega))); refine step_append_empty (some 6) rfl rfl (.tmp 3) (.tmp 5) _ rfl 3 i0 (.int .i64 0) 1 8 Try.underlying23 hi hz0 hz1' hz2' rfl _ rfl A n c (nums .i64 l) rfl hx (by omega) (by omega) ?_; clear hx; intro A2 c2 w2 ho2 hb2)
      | (have hx := HB.out.below (hbw.trans (Held.toBelow (B := w.heap.size) (w1 := w1) (g := w.heap.size + 1) (n := 2) (by assumption) (by omega))); refine step_append_empty (some 10) rfl rfl (.tmp 7) (.tmp 9) _ rfl 3 i0 (.int .i64 0) 1 8 Try.underlying23 hi hz0 hz1' hz2' rfl _ rfl B m d (nums .i64 k) rfl hx (by omega) (by omega) ?_; clear hx; intro A3 c3 w3 ho3 hb3)))
  all_goals
    rename_i hHeld
    have HH := Held.toBelow (B := w.heap.size) (w1 := w1) (g := w.heap.size + 1) (n := 2) hHeld (by omega)
    have hz2 := hb2.size
    have hz3 := hb3.size
    simp only [heap_drew, World.size_alloc] at hz2 hz3
    have q1 := (There.unset (There.unset (Held.there hHeld))).1
    clear hHeld
    go_wp2
    refine bodyPost_ret (v := .agg #[.slice A2 n c2, .slice A3 m c3]) (by simp [results, Try.results56, go_sem, q1]) rfl ⟨hbw.trans HH, _, _, _, _, rfl, ?_, ?_⟩
    · have h2 := ho2.lower (base' := w.heap.size + 2) (by first | omega | (dsimp only; omega) | (simp only [heap_drew, World.size_alloc, Gz.size_setCell]; omega))
      have h3 : Own w3 (w.heap.size + 2) 3 1 A2 n c2 (nums .i64 l) := by first | exact h2.below hb3 | exact (h2.alloc _).below hb3
      exact ((h3.set _ _ (by first | omega | (dsimp only; omega) | (simp only [heap_drew, World.size_alloc, Gz.size_setCell]; omega))).set _ _ (by first | omega | (dsimp only; omega) | (simp only [heap_drew, World.size_alloc, Gz.size_setCell]; omega))).lower (by first | omega | (dsimp only; omega) | (simp only [heap_drew, World.size_alloc, Gz.size_setCell]; omega))
    · exact ((ho3.set _ _ (by first | omega | (dsimp only; omega) | (simp only [heap_drew, World.size_alloc, Gz.size_setCell]; omega))).set _ _ (by first | omega | (dsimp only; omega) | (simp only [heap_drew, World.size_alloc, Gz.size_setCell]; omega))).lower (by first | omega | (dsimp only; omega) | (simp only [heap_drew, World.size_alloc, Gz.size_setCell]; omega))
end Go.Proofs.Ytglabhfmeinogaa

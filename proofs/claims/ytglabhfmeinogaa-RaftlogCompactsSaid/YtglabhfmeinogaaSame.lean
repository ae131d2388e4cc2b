/- Contracts of the comparisons, of equal ones: SameConf, SameSnap; and CloneSnap. -/
import Derived.Test.YtglabhfmeinogaaConf
namespace Go.Proofs.Ytglabhfmeinogaa
open Go.RowKit Go.Gz
attribute [local go_sem] World.cell?_alloc_some frozen?_alloc_some

set_option maxHeartbeats 800000 in
theorem sameConf_any (A B A' B' : Option Addr) (n c c' m d d' : Nat) (l k : List Int) (w : World) (h : IsConf w A B n m l k) (h' : IsConf w A' B' n m l k) (hn : n ≤ 140737488355328) (hm : m ≤ 140737488355328) :
    Calls Try.prog 19 #[.agg #[.slice A n c, .slice B m d], .agg #[.slice A' n c', .slice B' m d']] w fun e w' => e = .returned (.bool true) ∧ Below w.heap.size w w' := by
  have H := Lib.hid h
  have H' := Lib.hid h'
  clear h h'
  go_enter Try.func19, Try.ntmps19
  go_wp2_with fail
  refine name_calls (fun w1 hw1 => ?_)
  have hb1 : Below w.heap.size w w1 := by rw [hw1]; exact ((Below.refl _ _).alloc (Nat.le_refl _) _).alloc (by simp) _
  have c1 : ∀ j, w1.cell? ⟨w.heap.size, j, none⟩ = (#[.slice A n c, .slice B m d] : Array Value)[j]? := by intro j; rw [hw1]; simp [go_sem]
  have c2 : ∀ j, w1.cell? ⟨w.heap.size + 1, j, none⟩ = (#[.slice A' n c', .slice B' m d'] : Array Value)[j]? := by intro j; rw [hw1]; simp [go_sem]
  clear hw1
  refine (same_ints A A' n c c' l w1 (H.out.1.below hb1) (H'.out.1.below hb1) hn).mono ?_
  rintro e w2 ⟨rfl, hb2⟩
  obtain ⟨r2, f2⟩ := ext_rule hb2
  have hb12 := hb1.trans (hb2.mono hb1.size)
  go_wp2_with fail
  refine (same_ints B B' m d d' k w2 (H.out.2.below hb12) (H'.out.2.below hb12) hm).mono ?_
  rintro e w3 ⟨rfl, hb3⟩
  go_wp2
  go_ret
  exact ⟨rfl, hb12.trans (hb3.mono hb12.size)⟩

/-- The lists of a snapshot. -/
def IsSnap (w : World) (A B D : Option Addr) (n m p : Nat) (l k z : List Int) : Prop := IsConf w A B n m l k ∧ SlA w 1 D p (nums .u8 z)
theorem IsSnap.below {w w' : World} {A B D : Option Addr} {n m p : Nat} {l k z : List Int} (h : IsSnap w A B D n m p l k z) (hb : Below w.heap.size w w') : IsSnap w' A B D n m p l k z := ⟨h.1.below hb, h.2.below hb⟩

set_option maxHeartbeats 800000 in
theorem sameSnap_any (i t : Int) (A B A' B' D D' : Option Addr) (n c c' m d d' p f f' : Nat) (l k z : List Int) (w : World) (h : IsSnap w A B D n m p l k z) (h' : IsSnap w A' B' D' n m p l k z) (hn : n ≤ 140737488355328) (hm : m ≤ 140737488355328) :
    Calls Try.prog 28 #[.agg #[.int .u64 i, .int .u64 t, .slice A n c, .slice B m d, .slice D p f], .agg #[.int .u64 i, .int .u64 t, .slice A' n c', .slice B' m d', .slice D' p f']] w fun e w' => e = .returned (.bool true) ∧ Below w.heap.size w w' := by
  have H := Lib.hid h
  have H' := Lib.hid h'
  clear h h'
  go_enter Try.func28, Try.ntmps28
  go_wp2_with fail
  refine name_calls (fun w1 hw1 => ?_)
  have hb1 : Below w.heap.size w w1 := by rw [hw1]; exact ((Below.refl _ _).alloc (Nat.le_refl _) _).alloc (by simp) _
  have c1 : ∀ j, w1.cell? ⟨w.heap.size, j, none⟩ = (#[.int .u64 i, .int .u64 t, .slice A n c, .slice B m d, .slice D p f] : Array Value)[j]? := by intro j; rw [hw1]; simp [go_sem]
  have c2 : ∀ j, w1.cell? ⟨w.heap.size + 1, j, none⟩ = (#[.int .u64 i, .int .u64 t, .slice A' n c', .slice B' m d', .slice D' p f'] : Array Value)[j]? := by intro j; rw [hw1]; simp [go_sem]
  clear hw1
  refine (sameConf_any A B A' B' n c c' m d d' l k w1 (H.out.1.below hb1) (H'.out.1.below hb1) hn hm).mono ?_
  rintro e w2 ⟨rfl, hb2⟩
  obtain ⟨r2, f2⟩ := ext_rule hb2
  have hb12 := hb1.trans (hb2.mono hb1.size)
  have v1 := run_convert_sl (P := Try.prog) 26 5 9 Try.underlying26 Try.underlying5 Try.underlying9 (H.out.2.below hb12)
  have v2 := run_convert_sl (P := Try.prog) 26 5 9 Try.underlying26 Try.underlying5 Try.underlying9 (H'.out.2.below hb12)
  go_wp2
  go_ret
  exact ⟨rfl, hb12⟩

/-- ... in new memory. -/
def OwnSnap (w : World) (base : Nat) (A B D : Option Addr) (n c m d p f : Nat) (l k z : List Int) : Prop := OwnConf w base A B n c m d l k ∧ Own w base 5 1 D p f (nums .u8 z)
theorem OwnSnap.is {w : World} {base : Nat} {A B D : Option Addr} {n c m d p f : Nat} {l k z : List Int} (h : OwnSnap w base A B D n c m d p f l k z) : IsSnap w A B D n m p l k z := ⟨h.1.is, h.2.sl⟩
theorem OwnSnap.below {w w' : World} {base : Nat} {A B D : Option Addr} {n c m d p f : Nat} {l k z : List Int} (h : OwnSnap w base A B D n c m d p f l k z) (hb : Below w.heap.size w w') : OwnSnap w' base A B D n c m d p f l k z := ⟨h.1.below hb, h.2.below hb⟩

set_option maxHeartbeats 800000 in
theorem cloneSnap_any (i t : Int) (A B D : Option Addr) (n c m d p f : Nat) (l k z : List Int) (w : World) (h : IsSnap w A B D n m p l k z) (hn : n * 8 ≤ 140737488355328) (hm : m * 8 ≤ 140737488355328) (hp : p ≤ 140737488355328) :
    Calls Try.prog 42 #[.agg #[.int .u64 i, .int .u64 t, .slice A n c, .slice B m d, .slice D p f]] w fun e w' => Below w.heap.size w w' ∧ ∃ A' c' B' d' D' f', e = .returned (.agg #[.int .u64 i, .int .u64 t, .slice A' n c', .slice B' m d', .slice D' p f']) ∧ OwnSnap w' w.heap.size A' B' D' n c' m d' p f' l k z := by
  obtain ⟨i0, hi, hz0, hz1', hz2'⟩ := info_parts infoU8
  have H := Lib.hid h
  clear h
  go_enter Try.func42, Try.ntmps42
  go_wp2_with fail
  refine name_calls (fun w1 hw1 => ?_)
  have hb1 : Below w.heap.size w w1 := by rw [hw1]; exact ((Below.refl _ _).alloc (Nat.le_refl _) _).alloc (by simp) _
  have k1 : Blk w1 w.heap.size [.int .u64 i, .int .u64 t, .slice A n c, .slice B m d, .slice D p f] := by rw [hw1]; exact (Blk.new w _ _ _ rfl).alloc _
  have k2 : Blk w1 (w.heap.size + 1) [.int .u64 0, .int .u64 0, .slice none 0 0, .slice none 0 0, .slice none 0 0] := by rw [hw1]; exact Blk.new _ _ _ _ (by simp)
  have hz1 : w.heap.size + 2 ≤ w1.heap.size := by rw [hw1]; simp
  clear hw1
  refine (cloneConf_any A B n c m d l k w1 (H.out.1.below hb1) hn hm).mono ?_
  rintro e w2 ⟨hb2, A2, c2', B2, d2, rfl, ho2⟩
  have k1 := k1.ext hb2
  have k2 := k2.ext hb2
  have hb12 := hb1.trans (hb2.mono hb1.size)
  have hz2 := hb2.size
  have c1 := k1.cell
  have f1 := k1.frozen
  go_wp2_with (at_builtin; refine Hid.out ?_)
  refine hide (name_list (fun w3 hw3 => ?_))
  have hb23 : Below w.heap.size w2 w3 := by rw [hw3]; exact (by (repeat first | refine Below.setCell ?_ (by first | omega | (dsimp only; omega) | (simp only [heap_drew, World.size_alloc, Gz.size_setCell]; omega)) _ | refine Below.alloc ?_ (by first | omega | (dsimp only; omega) | (simp only [heap_drew, World.size_alloc, Gz.size_setCell]; omega)) _ | refine Below.drew ?_); exact Below.refl _ _)
  have ho3 : OwnConf w3 w1.heap.size A2 B2 n c2' m d2 l k := by rw [hw3]; exact ⟨(by (repeat first | refine Own.set ?_ _ _ (by first | omega | (dsimp only; omega) | (simp only [heap_drew, World.size_alloc, Gz.size_setCell]; omega)) | refine Own.alloc ?_ _); exact ho2.1), (by (repeat first | refine Own.set ?_ _ _ (by first | omega | (dsimp only; omega) | (simp only [heap_drew, World.size_alloc, Gz.size_setCell]; omega)) | refine Own.alloc ?_ _); exact ho2.2)⟩
  have k1 : Blk w3 w.heap.size [.int .u64 i, .int .u64 t, .slice A2 n c2', .slice B2 m d2, .slice D p f] := by rw [hw3]; exact ((k1.set 2 _).set 3 _).alloc _
  have k2 : Blk w3 (w.heap.size + 1) [.int .u64 0, .int .u64 0, .slice none 0 0, .slice none 0 0, .slice none 0 0] := by rw [hw3]; exact ((k2.far (p := ⟨w.heap.size, 2, none⟩) (by first | omega | (dsimp only; omega) | (simp only [heap_drew, World.size_alloc, Gz.size_setCell]; omega)) _).far (p := ⟨w.heap.size, 3, none⟩) (by first | omega | (dsimp only; omega) | (simp only [heap_drew, World.size_alloc, Gz.size_setCell]; omega)) _).alloc _
  have hz3 := hb23.size
  clear hw3 c1 f1 hb2
  refine wpList_append_empty rfl (.tmp 7) (.tmp 9) _ rfl 5 i0 (.int .u8 0) 1 1 Try.underlying26 hi hz0 hz1' hz2' rfl _ rfl D p f (nums .u8 z) rfl (H.out.2.below (hb12.trans hb23)) (by omega) (by omega) ?_
  intro D4 c4 w4 ho4 hb4
  have k1 := k1.ext hb4
  have k2 := k2.ext hb4
  have c1 := k1.cell
  have f1 := k1.frozen
  have c2 := k2.cell
  have f2 := k2.frozen
  have e1 : ¬ w.heap.size = w.heap.size + 1 := by omega
  go_wp2
  have k2 := (((((k2.far (p := ⟨w.heap.size, 4, none⟩) (by first | omega | (dsimp only; omega) | (simp only [heap_drew, World.size_alloc, Gz.size_setCell]; omega)) (.slice D4 p c4)).set 0 (.int .u64 i)).set 1 (.int .u64 t)).set 2 (.slice A2 n c2')).set 3 (.slice B2 m d2)).set 4 (.slice D4 p c4)
  have hz4 := hb4.size
  have ho3 := ho3.below hb4
  refine bodyPost_ret (v := .agg #[.int .u64 i, .int .u64 t, .slice A2 n c2', .slice B2 m d2, .slice D4 p c4]) (by simp [results, Try.results42, go_sem, k2.cell]) rfl ⟨?_, A2, c2', B2, d2, D4, c4, rfl, ⟨?_, ?_⟩, ?_⟩
  · exact (by (repeat first | refine Below.setCell ?_ (by first | omega | (dsimp only; omega) | (simp only [heap_drew, World.size_alloc, Gz.size_setCell]; omega)) _ | refine Below.alloc ?_ (by first | omega | (dsimp only; omega) | (simp only [heap_drew, World.size_alloc, Gz.size_setCell]; omega)) _ | refine Below.drew ?_); exact (hb12.trans hb23).trans (hb4.mono (by omega)))
  · refine Own.lower (base := w.heap.size + 2) ?_ (by omega); exact (by (repeat first | refine Own.set ?_ _ _ (by first | omega | (dsimp only; omega) | (simp only [heap_drew, World.size_alloc, Gz.size_setCell]; omega)) | refine Own.alloc ?_ _); exact ho3.1.lower (base' := w.heap.size + 2) (by omega))
  · refine Own.lower (base := w.heap.size + 2) ?_ (by omega); exact (by (repeat first | refine Own.set ?_ _ _ (by first | omega | (dsimp only; omega) | (simp only [heap_drew, World.size_alloc, Gz.size_setCell]; omega)) | refine Own.alloc ?_ _); exact ho3.2.lower (base' := w.heap.size + 2) (by omega))
  · refine Own.lower (base := w.heap.size + 2) ?_ (by omega); exact (by (repeat first | refine Own.set ?_ _ _ (by first | omega | (dsimp only; omega) | (simp only [heap_drew, World.size_alloc, Gz.size_setCell]; omega)) | refine Own.alloc ?_ _); exact ho4.lower (base' := w.heap.size + 2) (by omega))
end Go.Proofs.Ytglabhfmeinogaa

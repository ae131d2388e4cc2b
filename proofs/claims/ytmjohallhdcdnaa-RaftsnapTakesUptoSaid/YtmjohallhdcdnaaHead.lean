/- The live question of layer 9 answers true. -/
import Derived.Test.YtmjohallhdcdnaaMsg
namespace Go.Proofs.Ytmjohallhdcdnaa
open Go.RowKit Go.Gz
attribute [local go_sem] World.cell?_alloc_some frozen?_alloc_some

theorem head_any (w : World) : Calls Try.prog 7 #[] w fun e w' => e = .returned (.bool true) ∧ Below w.heap.size w w' := by
  obtain ⟨i0, hi, hz0, hz1', hz2'⟩ := info_parts infoU8
  have hmk : ∀ W, (Instr.makeSlice 26 (.int .i64 100) (.int .i64 100)).run Try.prog W = .ok (.slice (some ⟨W.heap.size, 0, none⟩) 100 100) (W.alloc (.cells (nums .u8 (List.replicate 100 0)).toArray 5)) := fun W => by
    have h := run_make_n (P := Try.prog) 26 5 i0 _ Try.underlying26 hi hz0 .i64 .i64 100 (by rw [hz2']; omega) (by omega) W
    rw [hz1'] at h
    simpa [madeCells_list, nums, Value.cells] using h
  obtain ⟨Z, hZ⟩ : ∃ Z : List Value, Z = nums .u8 (List.replicate 100 0) := ⟨_, rfl⟩
  rw [← hZ] at hmk
  have HZ := hide hZ
  clear hZ
  go_enter Try.func7, Try.ntmps7
  go_wp2_with fail
  refine name_calls (fun w1 hw1 => ?_)
  have hb1 : Below w.heap.size w w1 := by rw [hw1]; exact (by (repeat first | refine Below.setCell ?_ (by first | omega | (dsimp only; omega) | (simp only [heap_drew, World.size_alloc, Gz.size_setCell]; omega)) _ | refine Below.alloc ?_ (by first | omega | (dsimp only; omega) | (simp only [heap_drew, World.size_alloc, Gz.size_setCell]; omega)) _ | refine Below.drew ?_); exact Below.refl _ _)
  have hs1 : SlA w1 1 (some ⟨w.heap.size, 0, none⟩) 100 (nums .u8 (List.replicate 100 0)) := by
    refine ⟨by simp [nums], fun e => (by cases e), fun ad e j u hu => ?_⟩
    injection e with e
    subst e
    have hc := (Blk.new w 5 Z _ rfl).cell j
    rw [hw1, HZ.out, Addr.add_lit]
    rw [HZ.out] at hc
    simpa using hc.trans hu
  clear hw1
  refine (piece_any 5 2 none none (some ⟨w.heap.size, 0, none⟩) 0 0 0 0 100 100 64 36 [] [] (List.replicate 100 0) w1 ⟨⟨⟨rfl, fun _ => rfl, fun ad e => (by cases e)⟩, ⟨rfl, fun _ => rfl, fun ad e => (by cases e)⟩⟩, hs1⟩ (by omega) (by omega) (by omega) (by omega) (by omega) (by omega) (by omega) (.inr (by omega))).mono ?_
  rintro e w2 ⟨hb2, A2, c2, B2, d2, D2, f2, rfl, ho2⟩
  clear hs1
  have hz1 := hb1.size
  have hz2 := hb2.size
  unfold msgCells
  go_wp2
  go_ret
  exact ⟨rfl, (by (repeat first | refine Below.setCell ?_ (by first | omega | (dsimp only; omega) | (simp only [heap_drew, World.size_alloc, Gz.size_setCell]; omega)) _ | refine Below.alloc ?_ (by first | omega | (dsimp only; omega) | (simp only [heap_drew, World.size_alloc, Gz.size_setCell]; omega)) _ | refine Below.drew ?_); exact hb1.trans (hb2.mono hb1.size))⟩
end Go.Proofs.Ytmjohallhdcdnaa

/- The live question of layer 13 answers true. -/
import Derived.Test.YtbpmpnifelbaaaaKJoin
import Derived.Test.YtbpmpnifelbaaaaKMeet
namespace Go.Proofs.Ytbpmpnifelbaaaa
open Go.RowKit Go.Gz Go.Lib
attribute [local go_sem] World.cell?_alloc_some frozen?_alloc_some

theorem lives_any (w : World) : Calls Try.prog 9 #[] w fun e w' => e = .returned (.bool true) ∧ Below w.heap.size w w' := by
  have hx : splitE { data := #[98] } es { data := #[107] } = 0 := by decide +kernel
  have HX := Lib.hid (splitV_ok hx)
  go_enter Try.func9, Try.ntmps9
  go_wp2_with fail
  refine (split_any { data := #[98] } es { data := #[107] } w).mono ?_
  rintro e w1 ⟨rfl, hb1⟩
  rw [HX.out]
  have hz1 := hb1.size
  go_wp2
  go_ret
  exact ⟨rfl, (by (repeat first | refine Below.setCell ?_ (by first | omega | (dsimp only; omega) | (simp only [heap_drew, World.size_alloc, Gz.size_setCell]; omega)) _ | refine Below.alloc ?_ (by first | omega | (dsimp only; omega) | (simp only [heap_drew, World.size_alloc, Gz.size_setCell]; omega)) _ | refine Below.drew ?_); exact hb1)⟩
end Go.Proofs.Ytbpmpnifelbaaaa

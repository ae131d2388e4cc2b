/- SameMsg of two messages that read alike; the live question. -/
import Derived.Test.YtmjohallhdcdnaaPiece
namespace Go.Proofs.Ytmjohallhdcdnaa
open Go.RowKit Go.Gz

theorem sameEntries_nil (w : World) : Calls Try.prog 22 #[.slice none 0 0, .slice none 0 0] w fun e w' => e = .returned (.bool true) ∧ Below w.heap.size w w' := by
  go_enter Try.func22, Try.ntmps22
  go_wp2
  refine wp_loop_rounds 1 ?_
  rw [rounds_succ]
  go_wp2
  go_ret
  exact ⟨rfl, Below.refl _ _⟩

/-- A message's cells. -/
def msgG (kd i t : Int) (k : Nat) (A B D : Option Addr) (n c m d q f : Nat) (done : Bool) : List Value :=
  [.int .i64 kd, .int .i64 0, .int .i64 0, .int .u64 0, .int .u64 i, .int .u64 t, .slice none 0 0, .int .u64 0, .bool false, .int .u64 k, .slice A n c, .slice B m d, .slice D q f, .bool done]

set_option maxHeartbeats 4000000 in
theorem sameMsg_any (kd i t : Int) (k : Nat) (A B D A' B' D' : Option Addr) (n c m d q f c' d' f' : Nat) (done : Bool) (l k' z : List Int) (w : World) (h : IsSnap w A B D n m q l k' z) (h' : IsSnap w A' B' D' n m q l k' z) (hn : n ≤ 140737488355328) (hm : m ≤ 140737488355328) :
    Calls Try.prog 11 #[.agg (msgG kd i t k A B D n c m d q f done).toArray, .agg (msgG kd i t k A' B' D' n c' m d' q f' done).toArray] w fun e w' => e = .returned (.bool true) ∧ Below w.heap.size w w' := by
  have H := Lib.hid h
  have H' := Lib.hid h'
  clear h h'
  unfold msgG
  go_enter Try.func11, Try.ntmps11
  go_wp2_with fail
  refine name_calls (fun w1 hw1 => ?_)
  have hb1 : Below w.heap.size w w1 := by rw [hw1]; exact (by (repeat first | refine Below.setCell ?_ (by first | omega | (dsimp only; omega) | (simp only [heap_drew, World.size_alloc, Gz.size_setCell]; omega)) _ | refine Below.alloc ?_ (by first | omega | (dsimp only; omega) | (simp only [heap_drew, World.size_alloc, Gz.size_setCell]; omega)) _ | refine Below.drew ?_); exact Below.refl _ _)
  have k1 : Blk w1 w.heap.size (msgG kd i t k A B D n c m d q f done) := by rw [hw1]; exact (Blk.new w _ _ _ rfl).alloc _
  have k2 : Blk w1 (w.heap.size + 1) (msgG kd i t k A' B' D' n c' m d' q f' done) := by rw [hw1]; exact Blk.new _ _ _ _ (by simp)
  clear hw1
  refine (sameConf_any A B A' B' n c c' m d d' l k' w1 (H.out.1.below hb1) (H'.out.1.below hb1) hn hm).mono ?_
  rintro e w2 ⟨rfl, hb2⟩
  have hb12 := hb1.trans (hb2.mono hb1.size)
  have k1 := k1.ext hb2
  have k2 := k2.ext hb2
  have c1 := k1.cell
  have c2 := k2.cell
  unfold msgG at c1 c2
  go_wp2_with fail
  refine (sameEntries_nil _).mono ?_
  rintro e w3 ⟨rfl, hb3⟩
  have hb13 := hb12.trans (hb3.mono hb12.size)
  have k1 := k1.ext hb3
  have k2 := k2.ext hb3
  clear c1 c2
  have c1 := k1.cell
  have c2 := k2.cell
  unfold msgG at c1 c2
  have v1 := run_convert_sl (P := Try.prog) 26 5 9 Try.underlying26 Try.underlying5 Try.underlying9 (H.out.2.below hb13)
  have v2 := run_convert_sl (P := Try.prog) 26 5 9 Try.underlying26 Try.underlying5 Try.underlying9 (H'.out.2.below hb13)
  go_wp2
  go_ret
  exact ⟨rfl, hb13⟩
end Go.Proofs.Ytmjohallhdcdnaa

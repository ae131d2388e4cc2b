/- Deliver: what it answers where there is no packet is the zero packet. -/
import Derived.Test.YtjihiohmemmabaaNDeliver
namespace Go.Proofs.Ytjihiohmemmabaa
open Go.RowKit Go.Gz
attribute [local go_sem] World.cell?_alloc_some frozen?_alloc_some

def DelZ (w w' : World) (F : Nat → Prop) (g : Nat) (nodes : Int) (N : Nat) (f : Int → Int → List Pkt) (S : Int → Bool) (a b k : Int) (e : Ending) : Prop := Beside F w w' ∧
  ∃ (cs : List Value) (E : Int) (f' : Int → Int → List Pkt), (cs.length = 4 ∧ ∀ v ∈ cs, v.oneCell' = true) ∧ e = .returned (.tuple #[.agg cs.toArray, .int .i64 E]) ∧ DelF nodes w' (grow F w w') f a b k cs E f' ∧ (¬ E = 0 → cs = [.int .i64 0, .int .i64 0, .int .i64 0, .slice none 0 0]) ∧ NetIs w' (grow F w w') g nodes (N + 1) f' S
set_option maxHeartbeats 4000000 in
theorem deliver_z (w : World) (F : Nat → Prop) (g : Nat) (nodes : Int) (N : Nat) (f : Int → Int → List Pkt) (S : Int → Bool) (a b k : Int) (h : NetIs w F g nodes N f S) (hF : ∀ b, F b → b < w.heap.size) (hn : nodes ≤ 7) (hN : N < maxLen) (hlen : (f a b).length ≤ 140737488355328) :
    Calls Try.prog 15 #[.pointer (some ⟨g, 0, none⟩), .int .i64 a, .int .i64 b, .int .i64 k] w fun e w' => DelZ w w' F g nodes N f S a b k e := by
  by_cases hgood : okWay nodes a b ∧ ¬ (k < 0 ∨ (f a b).length ≤ k)
  · refine (deliver_any w F g nodes N f S a b k h hF hn hN hlen).mono ?_
    rintro e w' ⟨hb, cs, E, f', h1, rfl, hd, hnet⟩
    refine ⟨hb, cs, E, f', h1, rfl, hd, fun hE => ?_, hnet⟩
    rcases hd with ⟨hno, _⟩ | ⟨_, ho, _⟩ | ⟨_, m, x, _, _, _, h0, _⟩
    · exact absurd hgood.1 hno
    · exact absurd ho hgood.2
    · exact absurd h0 hE
  have HGOOD := Lib.hid hgood
  have H := Lib.hid h
  clear h hgood
  go_enter Try.func15, Try.ntmps15
  go_wp2_with fail
  refine name_calls (fun w1 hw1 => ?_)
  have k8 : Blk w1 w.heap.size [.int .i64 0, .int .i64 0, .int .i64 0, .slice none 0 0] := by rw [hw1]; exact Blk.new _ _ _ _ rfl
  have hb1 : Below w.heap.size w w1 := by rw [hw1]; exact (by (repeat first | refine Below.setCell ?_ (by first | omega | (dsimp only; omega) | (simp only [heap_drew, World.size_alloc, Gz.size_setCell]; omega)) _ | refine Below.alloc ?_ (by first | omega | (dsimp only; omega) | (simp only [heap_drew, World.size_alloc, Gz.size_setCell]; omega)) _ | refine Below.drew ?_); exact Below.refl _ _)
  clear hw1
  refine (at_any w1 F g nodes N f S a b k (H.out.below hb1) hn hlen).mono ?_
  rintro e w2 ⟨hb2, hat⟩
  have k8 := k8.ext hb2
  have k8lt := k8.lt
  have hb2 := hb1.trans (hb2.mono hb1.size)
  rcases hat with ⟨hno, rfl⟩ | ⟨hok, hout, rfl⟩ | ⟨hok, m, x, D, dc, hkm, hx, hrd, rfl⟩
  · have HNO := Lib.hid hno
    clear hno
    go_wp2_with (with_reducible refine stop_store ?_)
    refine hide (name_list (fun w3 hw3 => ?_))
    have hb23 : Below w2.heap.size w2 w3 := by rw [hw3]; exact (by (repeat first | refine Below.setCell ?_ (by first | omega | (dsimp only; omega) | (simp only [heap_drew, World.size_alloc, Gz.size_setCell]; omega)) _ | refine Below.alloc ?_ (by first | omega | (dsimp only; omega) | (simp only [heap_drew, World.size_alloc, Gz.size_setCell]; omega)) _ | refine Below.drew ?_); exact Below.refl _ _)
    have k8 := k8.ext hb23
    have k10 : Blk w3 w2.heap.size [.int .i64 0, .int .i64 0] := by rw [hw3]; exact (Blk.new _ _ _ _ rfl).alloc _
    have k11 : Blk w3 (w2.heap.size + 1) [.int .i64 0, .int .i64 0, .int .i64 0, .slice none 0 0] := by rw [hw3]; exact Blk.new _ _ _ _ (by simp)
    have hz3 : w3.heap.size = w2.heap.size + 2 := by rw [hw3]; simp
    clear hw3
    refine hide (wpList_store_blk rfl 60 (.tmp 10) (.tmp 19) rfl w2.heap.size [.int .i64 0, .int .i64 0] rfl rfl _ k10 rfl (by kernel_rfl) rfl ?_)
    intro w4 k10 hg4 hz4
    have hb24 := below_grown hb23 hg4 (Nat.le_refl _) (by omega)
    have k8 := blk_grown k8 hg4 (by omega)
    have k11 := blk_grown k11 hg4 (by omega)
    go_wp2_with (with_reducible refine stop_store ?_)
    refine hide (wpList_store_blk rfl 29 (.tmp 11) (.tmp 20) rfl (w2.heap.size + 1) [.int .i64 0, .int .i64 0, .int .i64 0, .slice none 0 0] rfl rfl _ k11 rfl (by kernel_rfl) rfl ?_)
    intro w5 k11 hg5 hz5
    have hb25 := below_grown hb24 hg5 (by omega) (by omega)
    have k8 := blk_grown k8 hg5 (by omega)
    have k10 := blk_grown k10 hg5 (by omega)
    have hb5 := hb2.trans (hb25.mono hb2.size)
    have hz25 := hb25.size
    clear hg4 hg5 hz4 hb23 hb24
    have c11 := k11.cell
    go_wp2_with (with_reducible refine stop_store ?_)
    refine hide (wpList_store_blk rfl 29 (.tmp 8) (.tmp 39) rfl w.heap.size [.int .i64 0, .int .i64 0, .int .i64 0, .slice none 0 0] rfl rfl _ k8 rfl (by kernel_rfl) rfl ?_)
    intro wf k8' hgf hzf
    have hbf := below_grown hb5 hgf (Nat.le_refl _) k8.lt
    go_wp2
    refine bodyPost_ret (v := .tuple #[.agg #[.int .i64 0, .int .i64 0, .int .i64 0, .slice none 0 0], .int .i64 31]) ?_ rfl ⟨Beside.of_below hbf, [.int .i64 0, .int .i64 0, .int .i64 0, .slice none 0 0], 31, f, ⟨rfl, zero_one⟩, rfl, .inl ⟨HNO.out, rfl, rfl⟩, (fun _ => rfl), (H.out.below hbf).mono (fun b hb => .inl hb) (by omega)⟩
    simp [results, Try.results15, go_sem, k8'.cell]
  · have HOK := Lib.hid hok
    have HOUT := Lib.hid hout
    clear hok hout
    go_wp2_with (with_reducible refine stop_store ?_)
    refine hide (name_list (fun w3 hw3 => ?_))
    have hb23 : Below w2.heap.size w2 w3 := by rw [hw3]; exact (by (repeat first | refine Below.setCell ?_ (by first | omega | (dsimp only; omega) | (simp only [heap_drew, World.size_alloc, Gz.size_setCell]; omega)) _ | refine Below.alloc ?_ (by first | omega | (dsimp only; omega) | (simp only [heap_drew, World.size_alloc, Gz.size_setCell]; omega)) _ | refine Below.drew ?_); exact Below.refl _ _)
    have k8 := k8.ext hb23
    have k10 : Blk w3 w2.heap.size [.int .i64 0, .int .i64 0] := by rw [hw3]; exact (Blk.new _ _ _ _ rfl).alloc _
    have k11 : Blk w3 (w2.heap.size + 1) [.int .i64 0, .int .i64 0, .int .i64 0, .slice none 0 0] := by rw [hw3]; exact Blk.new _ _ _ _ (by simp)
    have hz3 : w3.heap.size = w2.heap.size + 2 := by rw [hw3]; simp
    clear hw3
    refine hide (wpList_store_blk rfl 60 (.tmp 10) (.tmp 19) rfl w2.heap.size [.int .i64 a, .int .i64 b] rfl rfl _ k10 rfl (by kernel_rfl) rfl ?_)
    intro w4 k10 hg4 hz4
    have hb24 := below_grown hb23 hg4 (Nat.le_refl _) (by omega)
    have k8 := blk_grown k8 hg4 (by omega)
    have k11 := blk_grown k11 hg4 (by omega)
    go_wp2_with (with_reducible refine stop_store ?_)
    refine hide (wpList_store_blk rfl 29 (.tmp 11) (.tmp 20) rfl (w2.heap.size + 1) [.int .i64 0, .int .i64 0, .int .i64 0, .slice none 0 0] rfl rfl _ k11 rfl (by kernel_rfl) rfl ?_)
    intro w5 k11 hg5 hz5
    have hb25 := below_grown hb24 hg5 (by omega) (by omega)
    have k8 := blk_grown k8 hg5 (by omega)
    have k10 := blk_grown k10 hg5 (by omega)
    have hb5 := hb2.trans (hb25.mono hb2.size)
    have hz25 := hb25.size
    clear hg4 hg5 hz4 hb23 hb24
    have c11 := k11.cell
    go_wp2_with (with_reducible refine stop_store ?_)
    refine hide (wpList_store_blk rfl 29 (.tmp 8) (.tmp 39) rfl w.heap.size [.int .i64 0, .int .i64 0, .int .i64 0, .slice none 0 0] rfl rfl _ k8 rfl (by kernel_rfl) rfl ?_)
    intro wf k8' hgf hzf
    have hbf := below_grown hb5 hgf (Nat.le_refl _) k8.lt
    go_wp2
    refine bodyPost_ret (v := .tuple #[.agg #[.int .i64 0, .int .i64 0, .int .i64 0, .slice none 0 0], .int .i64 33]) ?_ rfl ⟨Beside.of_below hbf, [.int .i64 0, .int .i64 0, .int .i64 0, .slice none 0 0], 33, f, ⟨rfl, zero_one⟩, rfl, .inr (.inl ⟨HOK.out, HOUT.out, rfl, rfl⟩), (fun _ => rfl), (H.out.below hbf).mono (fun b hb => .inl hb) (by omega)⟩
    simp [results, Try.results15, go_sem, k8'.cell]
  · have hml := (List.getElem?_eq_some_iff.1 hx).1
    exact absurd ⟨hok, fun h => by omega⟩ HGOOD.out
end Go.Proofs.Ytjihiohmemmabaa

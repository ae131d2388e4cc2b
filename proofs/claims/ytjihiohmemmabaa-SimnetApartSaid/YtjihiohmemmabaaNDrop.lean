/- Drop, Double. -/
import Derived.Test.YtjihiohmemmabaaNDeliver
namespace Go.Proofs.Ytjihiohmemmabaa
open Go.RowKit Go.Gz
attribute [local go_sem] World.cell?_alloc_some frozen?_alloc_some

/-- What Drop answers, and the bags then. -/
def DropF (nodes : Int) (f : Int → Int → List Pkt) (a b k : Int) (E : Int) (f' : Int → Int → List Pkt) : Prop :=
  (¬ okWay nodes a b ∧ E = 31 ∧ f' = f) ∨ (okWay nodes a b ∧ (k < 0 ∨ (f a b).length ≤ k) ∧ E = 33 ∧ f' = f) ∨
  (okWay nodes a b ∧ ∃ m : Nat, k = m ∧ m < (f a b).length ∧ E = 0 ∧ f' = updF f a b ((f a b).eraseIdx m))
def DropIs (w w' : World) (F : Nat → Prop) (g : Nat) (nodes : Int) (N : Nat) (f : Int → Int → List Pkt) (S : Int → Bool) (a b k : Int) (e : Ending) : Prop := Beside F w w' ∧
  ∃ (E : Int) (f' : Int → Int → List Pkt), e = .returned (.int .i64 E) ∧ DropF nodes f a b k E f' ∧ NetIs w' (grow F w w') g nodes (N + 1) f' S

set_option maxHeartbeats 1600000 in
theorem drop_any (w : World) (F : Nat → Prop) (g : Nat) (nodes : Int) (N : Nat) (f : Int → Int → List Pkt) (S : Int → Bool) (a b k : Int) (h : NetIs w F g nodes N f S) (hF : ∀ b, F b → b < w.heap.size) (hn : nodes ≤ 7) (hN : N < maxLen) (hlen : (f a b).length ≤ 140737488355328) :
    Calls Try.prog 13 #[.pointer (some ⟨g, 0, none⟩), .int .i64 a, .int .i64 b, .int .i64 k] w fun e w' => DropIs w w' F g nodes N f S a b k e := by
  have H := Lib.hid h
  clear h
  go_enter Try.func13, Try.ntmps13
  go_wp2_with fail
  refine (deliver_any w F g nodes N f S a b k H.out hF hn hN hlen).mono ?_
  rintro e w1 ⟨hbes, cs, E, f', ⟨hl, hone⟩, rfl, hdel, hnet⟩
  have HD := Lib.hid hdel
  have HNT := Lib.hid hnet
  have HONE := Lib.hid hone
  clear hdel hnet hone
  match cs, hl with
  | [c0, c1, c2, c3], _ =>
  go_wp2_with (with_reducible refine stop_store ?_)
  refine hide (name_list (fun w2 hw2 => ?_))
  have hb12 : Below w1.heap.size w1 w2 := by rw [hw2]; exact (by (repeat first | refine Below.setCell ?_ (by first | omega | (dsimp only; omega) | (simp only [heap_drew, World.size_alloc, Gz.size_setCell]; omega)) _ | refine Below.alloc ?_ (by first | omega | (dsimp only; omega) | (simp only [heap_drew, World.size_alloc, Gz.size_setCell]; omega)) _ | refine Below.drew ?_); exact Below.refl _ _)
  have k9 : Blk w2 w1.heap.size [.int .i64 0, .int .i64 0, .int .i64 0, .slice none 0 0] := by rw [hw2]; exact Blk.new _ _ _ _ rfl
  have hz2 : w2.heap.size = w1.heap.size + 1 := by rw [hw2]; simp
  clear hw2
  refine hide (wpList_store_blk rfl 29 (.tmp 9) (.tmp 17) rfl w1.heap.size [c0, c1, c2, c3] rfl rfl _ k9 rfl (by kernel_rfl) (List.all_eq_true.2 HONE.out) ?_)
  intro w3 k9' hg3 hz3
  have hb13 := below_grown hb12 hg3 (Nat.le_refl _) (by omega)
  have hz13 := hb13.size
  clear hg3 hz3 k9 k9'
  go_wp2
  go_ret
  have hmono : ∀ q, grow F w w1 q → grow F w w3 q := fun q hq => hq.imp id (fun hh => ⟨hh.1, by omega⟩)
  refine ⟨hbes.trans (Beside.of_below hb13), E, f', rfl, ?_, (HNT.out.below hb13).mono hmono (Nat.le_refl _)⟩
  rcases HD.out with h | h | ⟨h1, m, x, h2, h3, _, h4, h5⟩
  · exact .inl h
  · exact .inr (.inl h)
  · exact .inr (.inr ⟨h1, m, h2, (List.getElem?_eq_some_iff.1 h3).1, h4, h5⟩)

/-- What Double answers, and the bags then. -/
def DoubF (nodes : Int) (f : Int → Int → List Pkt) (a b k : Int) (E : Int) (f' : Int → Int → List Pkt) : Prop :=
  (¬ okWay nodes a b ∧ E = 31 ∧ f' = f) ∨ (okWay nodes a b ∧ (k < 0 ∨ (f a b).length ≤ k) ∧ E = 33 ∧ f' = f) ∨
  (okWay nodes a b ∧ ∃ (m : Nat) (x : Pkt), k = m ∧ (f a b)[m]? = some x ∧ ((64 ≤ (f a b).length ∧ E = 32 ∧ f' = f) ∨ ((f a b).length < 64 ∧ E = 0 ∧ f' = updF f a b (f a b ++ [x]))))
def DoubIs (w w' : World) (F : Nat → Prop) (g : Nat) (nodes : Int) (N : Nat) (f : Int → Int → List Pkt) (S : Int → Bool) (a b k : Int) (e : Ending) : Prop := Beside F w w' ∧
  ∃ (E : Int) (f' : Int → Int → List Pkt), e = .returned (.int .i64 E) ∧ DoubF nodes f a b k E f' ∧ NetIs w' (grow F w w') g nodes (N + 1) f' S

set_option maxHeartbeats 1600000 in
theorem double_any (w : World) (F : Nat → Prop) (g : Nat) (nodes : Int) (N : Nat) (f : Int → Int → List Pkt) (S : Int → Bool) (a b k : Int) (h : NetIs w F g nodes N f S) (hF : ∀ b, F b → b < w.heap.size) (hn : nodes ≤ 7) (hN : N < maxLen) (hlen : (f a b).length ≤ 140737488355328) (hfit : ∀ x ∈ f a b, x.2.2.2.length ≤ 140737488355328) :
    Calls Try.prog 11 #[.pointer (some ⟨g, 0, none⟩), .int .i64 a, .int .i64 b, .int .i64 k] w fun e w' => DoubIs w w' F g nodes N f S a b k e := by
  have H := Lib.hid h
  have HFIT := Lib.hid hfit
  clear h hfit
  go_enter Try.func11, Try.ntmps11
  go_wp2_with fail
  refine (at_any w F g nodes N f S a b k H.out hn hlen).mono ?_
  rintro e w2 ⟨hb2, hat⟩
  rcases hat with ⟨hno, rfl⟩ | ⟨hok, hout, rfl⟩ | ⟨hok, m, x, D, dc, hkm, hx, hrd, rfl⟩
  · have HNO := Lib.hid hno
    clear hno
    go_wp2_with (with_reducible refine stop_store ?_)
    refine hide (name_list (fun w3 hw3 => ?_))
    have hb23 : Below w2.heap.size w2 w3 := by rw [hw3]; exact (by (repeat first | refine Below.setCell ?_ (by first | omega | (dsimp only; omega) | (simp only [heap_drew, World.size_alloc, Gz.size_setCell]; omega)) _ | refine Below.alloc ?_ (by first | omega | (dsimp only; omega) | (simp only [heap_drew, World.size_alloc, Gz.size_setCell]; omega)) _ | refine Below.drew ?_); exact Below.refl _ _)
    have k9 : Blk w3 w2.heap.size [.int .i64 0, .int .i64 0] := by rw [hw3]; exact (Blk.new _ _ _ _ rfl).alloc _
    have k10 : Blk w3 (w2.heap.size + 1) [.int .i64 0, .int .i64 0, .int .i64 0, .slice none 0 0] := by rw [hw3]; exact Blk.new _ _ _ _ (by simp)
    have hz3 : w3.heap.size = w2.heap.size + 2 := by rw [hw3]; simp
    clear hw3
    refine hide (wpList_store_blk rfl 60 (.tmp 9) (.tmp 18) rfl w2.heap.size [.int .i64 0, .int .i64 0] rfl rfl _ k9 rfl (by kernel_rfl) rfl ?_)
    intro w4 k9 hg4 hz4
    have hb24 := below_grown hb23 hg4 (Nat.le_refl _) (by omega)
    have k10 := blk_grown k10 hg4 (by omega)
    go_wp2_with (with_reducible refine stop_store ?_)
    refine hide (wpList_store_blk rfl 29 (.tmp 10) (.tmp 19) rfl (w2.heap.size + 1) [.int .i64 0, .int .i64 0, .int .i64 0, .slice none 0 0] rfl rfl _ k10 rfl (by kernel_rfl) rfl ?_)
    intro w5 k10 hg5 hz5
    have hb25 := below_grown hb24 hg5 (by omega) (by omega)
    have k9 := blk_grown k9 hg5 (by omega)
    have hb5 := hb2.trans (hb25.mono hb2.size)
    clear hg4 hg5 hz4 hz5 hb23 hb24 hz3
    go_wp2
    go_ret
    exact ⟨Beside.of_below hb5, 31, f, rfl, .inl ⟨HNO.out, rfl, rfl⟩, (H.out.below hb5).mono (fun q hq => .inl hq) (by omega)⟩
  · have HOK := Lib.hid hok
    have HOUT := Lib.hid hout
    clear hok hout
    go_wp2_with (with_reducible refine stop_store ?_)
    refine hide (name_list (fun w3 hw3 => ?_))
    have hb23 : Below w2.heap.size w2 w3 := by rw [hw3]; exact (by (repeat first | refine Below.setCell ?_ (by first | omega | (dsimp only; omega) | (simp only [heap_drew, World.size_alloc, Gz.size_setCell]; omega)) _ | refine Below.alloc ?_ (by first | omega | (dsimp only; omega) | (simp only [heap_drew, World.size_alloc, Gz.size_setCell]; omega)) _ | refine Below.drew ?_); exact Below.refl _ _)
    have k9 : Blk w3 w2.heap.size [.int .i64 0, .int .i64 0] := by rw [hw3]; exact (Blk.new _ _ _ _ rfl).alloc _
    have k10 : Blk w3 (w2.heap.size + 1) [.int .i64 0, .int .i64 0, .int .i64 0, .slice none 0 0] := by rw [hw3]; exact Blk.new _ _ _ _ (by simp)
    have hz3 : w3.heap.size = w2.heap.size + 2 := by rw [hw3]; simp
    clear hw3
    refine hide (wpList_store_blk rfl 60 (.tmp 9) (.tmp 18) rfl w2.heap.size [.int .i64 a, .int .i64 b] rfl rfl _ k9 rfl (by kernel_rfl) rfl ?_)
    intro w4 k9 hg4 hz4
    have hb24 := below_grown hb23 hg4 (Nat.le_refl _) (by omega)
    have k10 := blk_grown k10 hg4 (by omega)
    go_wp2_with (with_reducible refine stop_store ?_)
    refine hide (wpList_store_blk rfl 29 (.tmp 10) (.tmp 19) rfl (w2.heap.size + 1) [.int .i64 0, .int .i64 0, .int .i64 0, .slice none 0 0] rfl rfl _ k10 rfl (by kernel_rfl) rfl ?_)
    intro w5 k10 hg5 hz5
    have hb25 := below_grown hb24 hg5 (by omega) (by omega)
    have k9 := blk_grown k9 hg5 (by omega)
    have hb5 := hb2.trans (hb25.mono hb2.size)
    clear hg4 hg5 hz4 hz5 hb23 hb24 hz3
    go_wp2
    go_ret
    exact ⟨Beside.of_below hb5, 33, f, rfl, .inr (.inl ⟨HOK.out, HOUT.out, rfl, rfl⟩), (H.out.below hb5).mono (fun q hq => .inl hq) (by omega)⟩
  · subst hkm
    have HOK := Lib.hid hok
    have HS1 := Lib.hid (show Small a from ⟨by have := hok.1.1; omega, by have := hok.1.2; omega⟩)
    have HS2 := Lib.hid (show Small b from ⟨by have := hok.2.1.1; omega, by have := hok.2.1.2; omega⟩)
    have HX := Lib.hid hx
    have HRD := Lib.hid hrd.is
    clear hok hx hrd
    go_wp2_with (with_reducible refine stop_store ?_)
    refine hide (name_list (fun w3 hw3 => ?_))
    have hb23 : Below w2.heap.size w2 w3 := by rw [hw3]; exact (by (repeat first | refine Below.setCell ?_ (by first | omega | (dsimp only; omega) | (simp only [heap_drew, World.size_alloc, Gz.size_setCell]; omega)) _ | refine Below.alloc ?_ (by first | omega | (dsimp only; omega) | (simp only [heap_drew, World.size_alloc, Gz.size_setCell]; omega)) _ | refine Below.drew ?_); exact Below.refl _ _)
    have k9 : Blk w3 w2.heap.size [.int .i64 0, .int .i64 0] := by rw [hw3]; exact (Blk.new _ _ _ _ rfl).alloc _
    have k10 : Blk w3 (w2.heap.size + 1) [.int .i64 0, .int .i64 0, .int .i64 0, .slice none 0 0] := by rw [hw3]; exact Blk.new _ _ _ _ (by simp)
    have hz3 : w3.heap.size = w2.heap.size + 2 := by rw [hw3]; simp
    clear hw3
    refine hide (wpList_store_blk rfl 60 (.tmp 9) (.tmp 18) rfl w2.heap.size [.int .i64 a, .int .i64 b] rfl rfl _ k9 rfl (by kernel_rfl) rfl ?_)
    intro w4 k9 hg4 hz4
    have hb24 := below_grown hb23 hg4 (Nat.le_refl _) (by omega)
    have k10 := blk_grown k10 hg4 (by omega)
    go_wp2_with (with_reducible refine stop_store ?_)
    refine hide (wpList_store_blk rfl 29 (.tmp 10) (.tmp 19) rfl (w2.heap.size + 1) [.int .i64 x.1, .int .i64 x.2.1, .int .i64 x.2.2.1, .slice D x.2.2.2.length dc] rfl rfl _ k10 rfl (by kernel_rfl) rfl ?_)
    intro w5 k10 hg5 hz5
    have hb25 := below_grown hb24 hg5 (by omega) (by omega)
    have k9 := blk_grown k9 hg5 (by omega)
    have hb5 := hb2.trans (hb25.mono hb2.size)
    clear hg4 hg5 hz4 hz5 hb23 hb24 hz3
    have c9 := k9.cell
    have c10 := k10.cell
    go_wp2_with fail
    refine (put_any w5 F g nodes N f S a b _ x (H.out.below hb5) (fun q hq => Nat.lt_of_lt_of_le (hF q hq) hb5.size) HS1.out HS2.out hN (HRD.out.below hb25) (HFIT.out x (List.mem_of_getElem? HX.out))).mono ?_
    rintro e w6 ⟨hbes, hp⟩
    have hbes' : Beside F w w6 := Beside.after hb5 hbes
    rcases hp with ⟨hge, rfl, hnet⟩ | ⟨hlt, rfl, hnet⟩
    · have HNT := Lib.hid hnet
      have HGE := Lib.hid hge
      clear hnet hge
      go_wp2
      go_ret
      exact ⟨hbes', 32, f, rfl, .inr (.inr ⟨HOK.out, m, x, rfl, HX.out, .inl ⟨HGE.out, rfl, rfl⟩⟩), HNT.out.mono (grow_after hb5) (Nat.le_refl _)⟩
    · have HNT := Lib.hid hnet
      have HLT := Lib.hid hlt
      clear hnet hlt
      go_wp2
      go_ret
      exact ⟨hbes', 0, _, rfl, .inr (.inr ⟨HOK.out, m, x, rfl, HX.out, .inr ⟨HLT.out, rfl, rfl⟩⟩), HNT.out.mono (grow_after hb5) (Nat.le_refl _)⟩
end Go.Proofs.Ytjihiohmemmabaa

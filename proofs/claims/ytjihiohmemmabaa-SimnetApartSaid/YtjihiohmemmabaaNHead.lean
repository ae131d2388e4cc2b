/- The live question of layer 3 answers true. -/
import Derived.Lib.SlBytesConst
import Derived.Test.YtjihiohmemmabaaNLen
namespace Go.Proofs.Ytjihiohmemmabaa
open Go.RowKit Go.Gz
attribute [local go_sem] World.cell?_alloc_some frozen?_alloc_some

/-- A net of the call's own. -/
def Live (w0 w : World) (F : Nat → Prop) (g : Nat) (nodes : Int) (N : Nat) (f : Int → Int → List Pkt) (S : Int → Bool) : Prop := NetIs w F g nodes N f S ∧ (∀ b, F b → w0.heap.size ≤ b ∧ b < w.heap.size) ∧ Below w0.heap.size w0 w
section
variable {w0 w w' : World} {F : Nat → Prop} {g : Nat} {nodes : Int} {N N' : Nat} {f f' : Int → Int → List Pkt} {S S' : Int → Bool}
theorem Live.step (h : Live w0 w F g nodes N f S) (hb : Beside F w w') (hn : NetIs w' (grow F w w') g nodes N' f' S') : Live w0 w' (grow F w w') g nodes N' f' S' := by
  obtain ⟨_, h2, h3⟩ := h
  have hz := hb.size
  have hz0 := h3.size
  refine ⟨hn, fun b hh => ?_, h3.trans (hb.below (fun b hh => (h2 b hh).1) hz0)⟩
  rcases hh with hh | hh
  · have := h2 b hh; exact ⟨this.1, by omega⟩
  · exact ⟨by omega, hh.2⟩
theorem Live.below (h : Live w0 w F g nodes N f S) (hb : Below w.heap.size w w') : Live w0 w' F g nodes N f S :=
  ⟨h.1.below hb, fun b hh => ⟨(h.2.1 b hh).1, Nat.lt_of_lt_of_le (h.2.1 b hh).2 hb.size⟩, h.2.2.trans (hb.mono h.2.2.size)⟩
theorem Live.lt (h : Live w0 w F g nodes N f S) : ∀ b, F b → b < w.heap.size := fun b hh => (h.2.1 b hh).2
theorem Live.start (hb : Below w0.heap.size w0 w) (hn : NetIs w (fun b => w0.heap.size ≤ b ∧ b < w.heap.size) g nodes N f S) : Live w0 w (fun b => w0.heap.size ≤ b ∧ b < w.heap.size) g nodes N f S := ⟨hn, fun _ hh => hh, hb⟩
/-- A block of the call's own that is no part of the net. -/
theorem Live.apart (h : Live w0 w F g nodes N f S) {q : Nat} {cs : List Value} (k : Blk w q cs) (hq : ¬ F q) (hb : Beside F w w') : Blk w' q cs := hb.blk k hq
end
theorem updF_same (f : Int → Int → List Pkt) (i j : Int) (l : List Pkt) : updF f i j l i j = l := by simp [updF]
theorem updF_upd (f : Int → Int → List Pkt) (i j : Int) (l l' : List Pkt) : updF (updF f i j l) i j l' = updF f i j l' := by
  funext a b
  simp only [updF]
  split <;> rfl
theorem total_upd {i j : Int} (hi : Small i) (hj : Small j) (l : List Pkt) : total (fun a b => (updF (fun _ _ => []) i j l a b).length) = l.length := by
  have h0 : total (fun _ _ => 0) = 0 := by decide +kernel
  have h1 := total_step (h := fun _ _ => 0) (h' := fun a b => (updF (fun _ _ => []) i j l a b).length) (n := l.length) hi hj rfl (by simp [updF]) (fun a b _ _ hne => by simp [updF, hne])
  rw [h1, h0, Nat.zero_add]

set_option maxHeartbeats 4000000 in
theorem head_any (w : World) : Calls Try.prog 8 #[] w fun e w' => e = .returned (.bool true) ∧ Below w.heap.size w w' := by
  go_enter Try.func8, Try.ntmps8
  go_wp2_with fail
  refine (new_any 2 w).mono ?_
  rintro e w1 ⟨hb1, hnew⟩
  rcases hnew with ⟨hno, _⟩ | ⟨_, g, rfl, hnet⟩
  · exact absurd ⟨by decide, by decide⟩ hno
  have HL := Lib.hid (Live.start hb1 hnet)
  clear hnet hb1
  have hcv := Go.Lib.run_convert_bytes_const (P := Try.prog) w1 22 5 #[.int .u8 97] 1 1 Try.underlying22 Try.underlying5
  go_wp2_with fail
  refine name_calls (fun w2 hw2 => ?_)
  clear hcv
  have hb2 : Below w1.heap.size w1 w2 := by rw [hw2]; exact (by (repeat first | refine Below.setCell ?_ (by first | omega | (dsimp only; omega) | (simp only [heap_drew, World.size_alloc, Gz.size_setCell]; omega)) _ | refine Below.alloc ?_ (by first | omega | (dsimp only; omega) | (simp only [heap_drew, World.size_alloc, Gz.size_setCell]; omega)) _ | refine Below.drew ?_); exact Below.refl _ _)
  have kd : SlA w2 1 (some ⟨w1.heap.size, 0, none⟩) 1 (nums .u8 [97]) := by
    refine ⟨rfl, fun e => (by cases e), fun ad e j u hu => ?_⟩
    injection e with e
    subst e
    match j, hu with
    | 0, hu =>
      simp [nums] at hu
      subst hu
      rw [hw2]
      have h1 := heap_at w1 (.cells #[.int .u8 97] 5 (1, 2)) _ rfl
      rw [show (⟨w1.heap.size, 0, none⟩ : Addr).add 0 = ⟨w1.heap.size, 0, none⟩ from rfl]
      unfold World.cell?
      dsimp only
      rw [h1]
      rfl
  clear hw2
  have HL := Lib.hid (HL.out.below hb2)
  have hip : IsP w2 [.int .i64 1, .int .i64 2, .int .i64 0, .slice (some ⟨w1.heap.size, 0, none⟩) 1 1] (1, 2, 0, [97]) := ⟨_, 1, rfl, kd⟩
  refine (send_any w2 _ g 2 0 _ _ _ (1, 2, 0, [97]) HL.out.1 HL.out.lt (by decide) (by decide) hip (by decide)).mono ?_
  rintro e w3 ⟨hbes, f', hsf, hnet⟩
  have hok : okWay 2 1 2 := by unfold okWay; decide
  have HL := Lib.hid (HL.out.step hbes hnet)
  clear hnet hbes kd hip hb2
  rcases hsf with ⟨hno, _⟩ | ⟨_, hs, _⟩ | ⟨_, _, hge, _⟩ | ⟨_, _, _, rfl, hf'⟩
  · exact absurd hok hno
  · exact absurd rfl hs
  · simp at hge
  dsimp only at hf'
  subst hf'
  go_wp2_with fail
  refine (deliver_any w3 _ g 2 1 _ _ 1 2 0 HL.out.1 HL.out.lt (by decide) (by decide) (by rw [updF_same]; decide)).mono ?_
  rintro e w4 ⟨hbes, cs, E, f', ⟨hl4, hone⟩, rfl, hdel, hnet⟩
  have HL := Lib.hid (HL.out.step hbes hnet)
  clear hnet hbes
  rcases hdel with ⟨hno, _⟩ | ⟨_, hout, _⟩ | ⟨_, m, x, hm, hx, hrd, rfl, hf'⟩
  · exact absurd hok hno
  · rw [updF_same] at hout
    simp at hout
  obtain rfl : m = 0 := by omega
  rw [updF_same] at hx hf'
  rw [updF_upd] at hf'
  simp only [List.nil_append, List.getElem?_cons_zero, Option.some.injEq] at hx
  subst hx
  subst hf'
  obtain ⟨D, dc, rfl, hd⟩ := hrd
  have HD := Lib.hid hd.sl
  clear hd hone hl4 hm
  dsimp only [List.length_cons, List.length_nil] at HD ⊢
  go_wp2_with (with_reducible refine stop_store ?_)
  refine hide (name_list (fun w5 hw5 => ?_))
  have hb45 : Below w4.heap.size w4 w5 := by rw [hw5]; exact (by (repeat first | refine Below.setCell ?_ (by first | omega | (dsimp only; omega) | (simp only [heap_drew, World.size_alloc, Gz.size_setCell]; omega)) _ | refine Below.alloc ?_ (by first | omega | (dsimp only; omega) | (simp only [heap_drew, World.size_alloc, Gz.size_setCell]; omega)) _ | refine Below.drew ?_); exact Below.refl _ _)
  have k4 : Blk w5 w4.heap.size [.int .i64 0, .int .i64 0, .int .i64 0, .slice none 0 0] := by rw [hw5]; exact Blk.new _ _ _ _ rfl
  have hz5 : w5.heap.size = w4.heap.size + 1 := by rw [hw5]; simp
  clear hw5
  refine hide (wpList_store_blk rfl 29 (.tmp 4) (.tmp 24) rfl w4.heap.size [.int .i64 1, .int .i64 2, .int .i64 0, .slice D 1 dc] rfl rfl _ k4 rfl (by kernel_rfl) rfl ?_)
  intro w6 k4 hg6 hz6
  have hb46 := below_grown hb45 hg6 (Nat.le_refl _) (by omega)
  clear hg6 hz6 hz5 hb45
  have HL := Lib.hid (HL.out.below hb46)
  have v1 := run_convert_sl (P := Try.prog) 22 5 9 Try.underlying22 Try.underlying5 Try.underlying9 (HD.out.below hb46)
  have e97 : strOfNums [97] = { data := #[97] } := by rfl
  rw [e97] at v1
  have c4 := k4.cell
  go_wp2_with fail
  refine (len_any w6 _ g 2 2 _ _ HL.out.1 (fun i j _ _ => by simp only [updF]; split <;> decide)).mono ?_
  rintro e w7 ⟨rfl, hb7⟩
  have HL := Lib.hid (HL.out.below hb7)
  rw [total_upd ⟨by decide, by decide⟩ ⟨by decide, by decide⟩]
  dsimp only [List.eraseIdx_cons_zero, List.length_nil]
  go_wp2
  go_ret
  exact ⟨rfl, HL.out.2.2⟩
end Go.Proofs.Ytjihiohmemmabaa

/- RaftsnapOther: the law's walk. -/
import Derived.Test.YtmjohallhdcdnaaTakeRef
namespace Go.Proofs.Ytmjohallhdcdnaa
open Go.RowKit Go.Gz
attribute [local go_sem] World.cell?_alloc_some frozen?_alloc_some

/-- A piece that goes on where what has come of its snapshot ends. -/
theorem take_fits (x0 x1 x2 x3 x6 x7 x8 x10 x11 : Value) (pi pt i t k : Int) (D M : Option Addr) (p f q e : Nat) (done : Bool) (z y had : List Int) (w : World) (h : SlA w 1 D p (nums .u8 z)) (hm : SlA w 1 M q (nums .u8 y)) (hpf : p ≤ f) (hs : had.length + q ≤ 140737488355328)
    (hh : hadL pi pt i t z = had) (hk : k = had.length) :
    Calls Try.prog 15 #[.agg #[.int .u64 pi, .int .u64 pt, .slice D p f], .agg (msgV x0 x1 x2 x3 x6 x7 x8 x10 x11 i t k M q e done).toArray] w fun r w' => Below w.heap.size w w' ∧
      ∃ D' n' f', r = .returned (.tuple #[.agg #[.int .u64 i, .int .u64 t, .slice D' n' f'], .bool done]) ∧ n' = had.length + q ∧ Own w' w.heap.size 5 1 D' n' f' (nums .u8 (had ++ y)) := by
  have hy := hm.len
  refine (take_any x0 x1 x2 x3 x6 x7 x8 x10 x11 pi pt i t k D M p f q e done z y w h hm hpf (by rw [hh]; exact hs)).mono ?_
  rintro r w2 ⟨hb, D2, n2, f2, hr, ho⟩
  have e : taken pi pt i t k z y = had ++ y := by unfold taken tookL; rw [hh, if_pos hk]
  rw [e] at ho
  refine ⟨hb, D2, n2, f2, by rw [hr, hh]; simp [hk], ?_, ho⟩
  have := ho.length
  simp only [length_nums, List.length_append, Nat.mul_one] at this
  omega

theorem pieces_le (p : Nat) : pieces p ≤ p + 1 ∧ 1 ≤ pieces p := by
  unfold pieces
  split <;> omega

/-- What a round of the pieces keeps. -/
def Come (w4 : World) (gp : Nat) (si ti : Int) (z : List Int) (wr : World) : Prop :=
  Below gp w4 wr ∧ w4.heap.size ≤ wr.heap.size ∧ ∃ ci ct D r f, Blk wr gp [.int .u64 ci, .int .u64 ct, .slice D r f] ∧ Own wr (gp + 1) 5 1 D r f (nums .u8 (z.take r)) ∧ r ≤ z.length ∧ (r = 0 ∨ (ci = si ∧ ct = ti))

set_option maxHeartbeats 4000000 in
theorem lawOther_1 (si ti oi ot many : Int) (A B D A' B' D' : Option Addr) (n c m d p f n' c' m' d' p' f' : Nat) (l k' z l' k'' z' : List Int) (w : World) (h : IsSnap w A B D n m p l k' z) (hn : n * 8 ≤ 140737488355328) (hm : m * 8 ≤ 140737488355328)
    (hpf : p ≤ f) (hf : p ≤ 140737488355328) (h' : IsSnap w A' B' D' n' m' p' l' k'' z') (hn' : n' * 8 ≤ 140737488355328) (hm' : m' * 8 ≤ 140737488355328) (hpf' : p' ≤ f') (hf' : p' ≤ 140737488355328) (h1 : ¬ si = oi) (hN : -9223372036854775808 ≤ many) (hN2 : many ≤ 9223372036854775807) :
    Calls Try.prog 5 #[.agg #[.int .u64 si, .int .u64 ti, .slice A n c, .slice B m d, .slice D p f], .agg #[.int .u64 oi, .int .u64 ot, .slice A' n' c', .slice B' m' d', .slice D' p' f'], .int .i64 many] w fun e w' => e = .returned (.bool true) ∧ Below w.heap.size w w' := by
  obtain ⟨q', hq1, hq2, hq3⟩ : ∃ q, q ≤ 64 ∧ q ≤ p' - 0 ∧ (q = 64 ∨ q = p' - 0) := by
    by_cases e : 64 ≤ p' - 0
    · exact ⟨64, by omega, e, .inl rfl⟩
    · exact ⟨p' - 0, by omega, by omega, .inr rfl⟩
  obtain ⟨qs, hs1, hs2, hs3⟩ : ∃ q, q ≤ 64 ∧ q ≤ p - 0 ∧ (q = 64 ∨ q = p - 0) := by
    by_cases e : 64 ≤ p - 0
    · exact ⟨64, by omega, e, .inl rfl⟩
    · exact ⟨p - 0, by omega, by omega, .inr rfl⟩
  have HQ := hide hq3
  have HS := hide hs3
  have H := Lib.hid h
  have HO := Lib.hid h'
  clear h h' hq3 hs3
  have hzl : z.length = p := H.out.2.len
  obtain ⟨hpc, hpc1⟩ := pieces_le p
  go_enter Try.func5, Try.ntmps5
  go_wp2_with fail
  refine name_calls (fun w1 hw1 => ?_)
  have k3 : Blk w1 w.heap.size [.int .u64 si, .int .u64 ti, .slice A n c, .slice B m d, .slice D p f] := by rw [hw1]; exact (Blk.new w _ _ _ rfl).alloc _
  have k4 : Blk w1 (w.heap.size + 1) [.int .u64 oi, .int .u64 ot, .slice A' n' c', .slice B' m' d', .slice D' p' f'] := by rw [hw1]; exact Blk.new _ _ _ _ (by simp)
  have hb1 : Below w.heap.size w w1 := by rw [hw1]; exact (by (repeat first | refine Below.setCell ?_ (by first | omega | (dsimp only; omega) | (simp only [heap_drew, World.size_alloc, Gz.size_setCell]; omega)) _ | refine Below.alloc ?_ (by first | omega | (dsimp only; omega) | (simp only [heap_drew, World.size_alloc, Gz.size_setCell]; omega)) _ | refine Below.drew ?_); exact Below.refl _ _)
  have hz1 : w.heap.size + 2 ≤ w1.heap.size := by rw [hw1]; simp
  clear hw1
  refine (head_any w1).mono ?_
  rintro e w2 ⟨rfl, hb2⟩
  have k3 := k3.ext hb2
  have k4 := k4.ext hb2
  have c3 := k3.cell
  have c4 := k4.cell
  have hz2 := hb2.size
  have hb2 := hb1.trans (hb2.mono hb1.size)
  go_wp2_with fail
  refine name_world (fun w4 hw4 => ?_)
  have k3 : Blk w4 w.heap.size [.int .u64 si, .int .u64 ti, .slice A n c, .slice B m d, .slice D p f] := by rw [hw4]; exact k3.alloc _
  have k4 : Blk w4 (w.heap.size + 1) [.int .u64 oi, .int .u64 ot, .slice A' n' c', .slice B' m' d', .slice D' p' f'] := by rw [hw4]; exact k4.alloc _
  have k8 : Blk w4 w2.heap.size [.int .u64 0, .int .u64 0, .slice none 0 0] := by rw [hw4]; exact Blk.new w2 _ _ _ rfl
  have hb4 : Below w2.heap.size w2 w4 := by rw [hw4]; exact (by (repeat first | refine Below.setCell ?_ (by first | omega | (dsimp only; omega) | (simp only [heap_drew, World.size_alloc, Gz.size_setCell]; omega)) _ | refine Below.alloc ?_ (by first | omega | (dsimp only; omega) | (simp only [heap_drew, World.size_alloc, Gz.size_setCell]; omega)) _ | refine Below.drew ?_); exact Below.refl _ _)
  have hb4 := hb2.trans (hb4.mono hb2.size)
  have hz4 : w4.heap.size = w2.heap.size + 1 := by rw [hw4]; simp
  have K3 := hide k3
  have K4 := hide k4
  have hC : Come w4 w2.heap.size si ti z w4 := ⟨Below.refl _ _, Nat.le_refl _, 0, 0, none, 0, 0, k8, .inl ⟨rfl, rfl, rfl⟩, Nat.zero_le _, .inl rfl⟩
  clear hw4 k3 k4 k8 c3 c4
  go_loopw [9] (fun iv wr => ∃ j : Nat, iv = .int .i64 j ∧ (j : Int) ≤ pieces p ∧ Come w4 w2.heap.size si ti z wr) (fun iv _ => (pieces p - intOf iv).toNat)
  case atStart => exact ⟨0, rfl, by omega, hC⟩
  case round =>
    clear hC
    obtain ⟨j, rfl, hj, hbr, hzr, ci, ct, D2, r, f2, k8, ho, hr, hor⟩ := hrel
    by_cases hlt : (j : Int) < many
    · have k3 := K3.out.below hbr (by omega)
      have c3 := k3.cell
      go_wp2_with fail
      refine (pieces_prog p _ (by omega) (by omega)).mono ?_
      rintro e _ ⟨rfl, rfl⟩
      by_cases hlt2 : (j : Int) < pieces p
      · obtain ⟨q, hr1, hr2, hr3⟩ : ∃ q, q ≤ 64 ∧ q ≤ p - r ∧ (q = 64 ∨ q = p - r) := by
          by_cases e : 64 ≤ p - r
          · exact ⟨64, by omega, e, .inl rfl⟩
          · exact ⟨p - r, by omega, by omega, .inr rfl⟩
        have HR := hide hr3
        clear hr3
        have c8 := k8.cell
        go_wp2_with fail
        refine (piece_any si ti A B D n c m d p f r q l k' z _ (H.out.below (hb4.trans (hbr.mono (by omega)))) hn hm hpf hf (by omega) hr1 hr2 HR.out).mono ?_
        rintro e w5 ⟨hb5, A5, c5, B5, d5, D5, f5, rfl, ho5⟩
        have k8 := k8.ext hb5
        have ho := ho.below hb5
        have hz5 := hb5.size
        have hbr5 := hbr.trans (hb5.mono (by omega))
        clear c8 c3
        have c8 := k8.cell
        unfold msgCells
        go_wp2_with fail
        refine name_calls (fun w6 hw6 => ?_)
        have k8 : Blk w6 w2.heap.size [.int .u64 ci, .int .u64 ct, .slice D2 r f2] := by rw [hw6]; exact k8.alloc _
        have ho : Own w6 (w2.heap.size + 1) 5 1 D2 r f2 (nums .u8 (z.take r)) := by rw [hw6]; exact ho.alloc _
        have ho5 := ho5.2
        have ho5 : Own w6 wr.heap.size 5 1 D5 q f5 (nums .u8 ((z.drop r).take 64)) := by rw [hw6]; exact ho5.alloc _
        have hbr6 : Below w2.heap.size w4 w6 := by rw [hw6]; exact hbr5.alloc (by omega) _
        have hz6 : w6.heap.size = w5.heap.size + 1 := by rw [hw6]; simp
        clear hw6 c8
        have hle2 := ho.le
        have hrl : (z.take r).length = r := by simp; omega
        refine (take_fits (.int .i64 7) (.int .i64 0) (.int .i64 0) (.int .u64 0) (.slice none 0 0) (.int .u64 0) (.bool false) (.slice A5 n c5) (.slice B5 m d5) ci ct si ti r D2 D5 r f2 q f5 _ (z.take r) _ (z.take r) w6 ho.sl ho5.sl hle2 (by rw [hrl]; omega) ?_ (by rw [hrl])).mono ?_
        · unfold hadL
          split
          · rfl
          · next h =>
            rcases hor with h0 | h0
            · simp [h0]
            · exact absurd h0 h
        rintro e w7 ⟨hb7, D7, n7, f7, rfl, hn7, ho7⟩
        have HN := hide hn7
        clear hn7
        have k8 := k8.ext hb7
        have hz7 := hb7.size
        have hbr7 := hbr6.trans (hb7.mono (by omega))
        go_wp2_with (with_reducible refine stop_store ?_)
        refine hide (wpList_store_blk rfl 43 (.tmp 8) (.tmp 67) rfl w2.heap.size [.int .u64 si, .int .u64 ti, .slice D7 n7 f7] rfl rfl _ k8 rfl (by kernel_rfl) rfl ?_)
        intro w8 k8 hg8 hz8
        have ho8 := ho7.grown hg8 (by intro g hg; injection hg with hg; omega)
        have hbr8 : Below w2.heap.size w4 w8 := hbr7.grown hg8 (by omega) (by intro g hg; injection hg with hg; omega)
        have hC : Come w4 w2.heap.size si ti z w8 := by
          refine ⟨hbr8, by omega, _, _, _, _, _, k8, ?_, ?_, .inr ⟨rfl, rfl⟩⟩
          · have e : z.take r ++ (z.drop r).take 64 = z.take n7 := by
              rw [HN.out, hrl]
              rcases HR.out with e | e
              · rw [e, List.take_add]
              · rw [e, List.take_of_length_le (l := List.drop r z) (by simp; omega), List.take_append_drop, List.take_of_length_le (by omega)]
            rw [e] at ho8
            exact ho8.lower (by omega)
          · have := HN.out; omega
        clear k8 ho8 hbr8 hg8 hbr7 hb7 ho7 ho5 ho hbr6 hbr5 hb5
        go_wp2
        go_roundw
        case rel => exact ⟨j + 1, by go_num, by omega, hC⟩
        case measure => simp [intOf]; omega
      · clear c3 k3
        have k3 := K3.out.below hbr (by omega)
        have k4 := K4.out.below hbr (by omega)
        have c4 := k4.cell
        have hOr := HO.out.below (hb4.trans (hbr.mono (by omega)))
        go_wp2_with fail
        refine (piece_any oi ot A' B' D' n' c' m' d' p' f' 0 q' l' k'' z' wr hOr hn' hm' hpf' hf' (Nat.zero_le _) hq1 hq2 HQ.out).mono ?_
        rintro e w5 ⟨hb5, A5, c5, B5, d5, D5, f5, rfl, ho5⟩
        have k3 := k3.ext hb5
        have k4 := k4.ext hb5
        have k8 := k8.ext hb5
        have ho := ho.below hb5
        have hz5 := hb5.size
        have hbw5 := (hb4.trans (hbr.mono (by omega))).trans (hb5.mono (by omega))
        clear c4
        have c4 := k4.cell
        have c8 := k8.cell
        unfold msgCells
        go_wp2_with fail
        refine name_calls (fun w6 hw6 => ?_)
        have k3 : Blk w6 w.heap.size [.int .u64 si, .int .u64 ti, .slice A n c, .slice B m d, .slice D p f] := by rw [hw6]; exact k3.alloc _
        have k4 : Blk w6 (w.heap.size + 1) [.int .u64 oi, .int .u64 ot, .slice A' n' c', .slice B' m' d', .slice D' p' f'] := by rw [hw6]; exact k4.alloc _
        have k12 : Blk w6 w5.heap.size (msgG 7 oi ot 0 A5 B5 D5 n' c5 m' d5 q' f5 (decide (q' = p' - 0))) := by rw [hw6]; exact Blk.new w5 _ _ _ rfl
        have ho : Own w6 (w2.heap.size + 1) 5 1 D2 r f2 (nums .u8 (z.take r)) := by rw [hw6]; exact ho.alloc _
        have ho5 := ho5.2
        have ho5 : Own w6 wr.heap.size 5 1 D5 q' f5 (nums .u8 ((z'.drop 0).take 64)) := by rw [hw6]; exact ho5.alloc _
        have hbw6 : Below w.heap.size w w6 := by rw [hw6]; exact hbw5.alloc (by have := hbw5.size; omega) _
        have hz6 : w6.heap.size = w5.heap.size + 1 := by rw [hw6]; simp
        clear hw6 c4 c8 k8
        have hle2 := ho.le
        refine (take_fits (.int .i64 7) (.int .i64 0) (.int .i64 0) (.int .u64 0) (.slice none 0 0) (.int .u64 0) (.bool false) (.slice A5 n' c5) (.slice B5 m' d5) ci ct oi ot 0 D2 D5 r f2 q' f5 _ (z.take r) _ [] w6 ho.sl ho5.sl hle2 (by simp only [List.length_nil]; omega) ?_ rfl).mono ?_
        · unfold hadL
          split
          · next h =>
            rcases hor with h0 | h0
            · simp [h0]
            · exact absurd (h0.1.symm.trans h.1) h1
          · rfl
        rintro e w7 ⟨hb7, D7, n7, f7, rfl, hn7, ho7⟩
        simp only [List.nil_append] at ho7
        simp only [List.length_nil, Nat.zero_add] at hn7
        have k3 := k3.ext hb7
        have k4 := k4.ext hb7
        have k12 := k12.ext hb7
        have ho5 := ho5.below hb7
        have hz7 := hb7.size
        have hbw7 := hbw6.trans (hb7.mono hbw6.size)
        have hn7 := hn7.symm
        subst hn7
        clear ho hb7 hbw6 hbw5
        have c4 := k4.cell
        have c12 := k12.cell
        unfold msgG at c12
        go_wp2_with (with_reducible refine stop_at (d := 99) ?_)
        clear c4 c12
        refine hide (name_list (fun w8 hw8 => ?_))
        have k3 : Blk w8 w.heap.size [.int .u64 si, .int .u64 ti, .slice A n c, .slice B m d, .slice D p f] := by rw [hw8]; exact k3.alloc _
        have k4 : Blk w8 (w.heap.size + 1) [.int .u64 oi, .int .u64 ot, .slice A' n' c', .slice B' m' d', .slice D' p' f'] := by rw [hw8]; exact k4.alloc _
        have k12 : Blk w8 w5.heap.size (msgG 7 oi ot 0 A5 B5 D5 n' c5 m' d5 q' f5 (decide (q' = p' - 0))) := by rw [hw8]; exact k12.alloc _
        have k14 : Blk w8 w7.heap.size [.int .u64 oi, .int .u64 ot, .slice D7 q' f7] := by rw [hw8]; exact Blk.new w7 _ _ _ rfl
        have ho5 : Own w8 wr.heap.size 5 1 D5 q' f5 (nums .u8 ((z'.drop 0).take 64)) := by rw [hw8]; exact ho5.alloc _
        have ho7 : Own w8 w6.heap.size 5 1 D7 q' f7 (nums .u8 ((z'.drop 0).take 64)) := by rw [hw8]; exact ho7.alloc _
        have hbw8 : Below w.heap.size w w8 := by rw [hw8]; exact hbw7.alloc (by have := hbw7.size; omega) _
        have hz8 : w8.heap.size = w7.heap.size + 1 := by rw [hw8]; simp
        clear hw8 hbw7
        have c3 := k3.cell
        have c4 := k4.cell
        have c12 := k12.cell
        have c14 := k14.cell
        unfold msgG at c12
        have v1 := run_convert_sl (P := Try.prog) 26 5 9 Try.underlying26 Try.underlying5 Try.underlying9 ho5.sl
        have v2 := run_convert_sl (P := Try.prog) 26 5 9 Try.underlying26 Try.underlying5 Try.underlying9 ho7.sl
        go_wp2_with fail
        clear v1 v2 c12 c14 c4 k4 k12 ho5
        refine (piece_any si ti A B D n c m d p f 0 qs l k' z w8 (H.out.below hbw8) hn hm hpf hf (Nat.zero_le _) hs1 hs2 HS.out).mono ?_
        rintro e w9 ⟨hb9, A9, c9, B9, d9, D9, f9, rfl, ho9⟩
        have k3 := k3.ext hb9
        have k14 := k14.ext hb9
        have ho7 := ho7.below hb9
        have hz9 := hb9.size
        have hbw9 := hbw8.trans (hb9.mono hbw8.size)
        clear c3 hb9 hbw8
        have c3 := k3.cell
        have c14 := k14.cell
        unfold msgCells
        go_wp2_with fail
        refine name_calls (fun w10 hw10 => ?_)
        have k3 : Blk w10 w.heap.size [.int .u64 si, .int .u64 ti, .slice A n c, .slice B m d, .slice D p f] := by rw [hw10]; exact k3.alloc _
        have k16 : Blk w10 w9.heap.size (msgG 7 si ti 0 A9 B9 D9 n c9 m d9 qs f9 (decide (qs = p - 0))) := by rw [hw10]; exact Blk.new w9 _ _ _ rfl
        have ho7 : Own w10 w6.heap.size 5 1 D7 q' f7 (nums .u8 ((z'.drop 0).take 64)) := by rw [hw10]; exact ho7.alloc _
        have ho9 := ho9.2
        have ho9 : Own w10 w8.heap.size 5 1 D9 qs f9 (nums .u8 ((z.drop 0).take 64)) := by rw [hw10]; exact ho9.alloc _
        have hbw10 : Below w.heap.size w w10 := by rw [hw10]; exact hbw9.alloc (by have := hbw9.size; omega) _
        have hz10 : w10.heap.size = w9.heap.size + 1 := by rw [hw10]; simp
        clear hw10 c3 c14 k14 hbw9
        have hle7 := ho7.le
        refine (take_fits (.int .i64 7) (.int .i64 0) (.int .i64 0) (.int .u64 0) (.slice none 0 0) (.int .u64 0) (.bool false) (.slice A9 n c9) (.slice B9 m d9) oi ot si ti 0 D7 D9 q' f7 qs f9 _ _ _ [] w10 ho7.sl ho9.sl hle7 (by simp only [List.length_nil]; omega) ?_ rfl).mono ?_
        · unfold hadL
          rw [if_neg (fun h => h1 h.1.symm)]
        rintro e w11 ⟨hb11, D11, n11, f11, rfl, hn11, ho11⟩
        simp only [List.nil_append] at ho11
        simp only [List.length_nil, Nat.zero_add] at hn11
        have k3 := k3.ext hb11
        have k16 := k16.ext hb11
        have ho9 := ho9.below hb11
        have hbw11 := hbw10.trans (hb11.mono hbw10.size)
        have hn11 := hn11.symm
        subst hn11
        clear ho7 hb11 hbw10
        have c3 := k3.cell
        have c16 := k16.cell
        unfold msgG at c16
        go_wp2_with (with_reducible refine stop_at (d := 134) ?_)
        clear c3 c16
        refine hide (name_list (fun w12 hw12 => ?_))
        have k3 : Blk w12 w.heap.size [.int .u64 si, .int .u64 ti, .slice A n c, .slice B m d, .slice D p f] := by rw [hw12]; exact k3.alloc _
        have k16 : Blk w12 w9.heap.size (msgG 7 si ti 0 A9 B9 D9 n c9 m d9 qs f9 (decide (qs = p - 0))) := by rw [hw12]; exact k16.alloc _
        have k18 : Blk w12 w11.heap.size [.int .u64 si, .int .u64 ti, .slice D11 qs f11] := by rw [hw12]; exact Blk.new w11 _ _ _ rfl
        have ho9 : Own w12 w8.heap.size 5 1 D9 qs f9 (nums .u8 ((z.drop 0).take 64)) := by rw [hw12]; exact ho9.alloc _
        have ho11 : Own w12 w10.heap.size 5 1 D11 qs f11 (nums .u8 ((z.drop 0).take 64)) := by rw [hw12]; exact ho11.alloc _
        have hbw12 : Below w.heap.size w w12 := by rw [hw12]; exact hbw11.alloc (by have := hbw11.size; omega) _
        clear hw12
        have c3 := k3.cell
        have c16 := k16.cell
        have c18 := k18.cell
        unfold msgG at c16
        have v1 := run_convert_sl (P := Try.prog) 26 5 9 Try.underlying26 Try.underlying5 Try.underlying9 ho9.sl
        have v2 := run_convert_sl (P := Try.prog) 26 5 9 Try.underlying26 Try.underlying5 Try.underlying9 ho11.sl
        go_wp2
        go_ret
        exact ⟨rfl, hbw12⟩
    · have k3 := K3.out.below hbr (by omega)
      have k4 := K4.out.below hbr (by omega)
      have c4 := k4.cell
      have hOr := HO.out.below (hb4.trans (hbr.mono (by omega)))
      go_wp2_with fail
      refine (piece_any oi ot A' B' D' n' c' m' d' p' f' 0 q' l' k'' z' wr hOr hn' hm' hpf' hf' (Nat.zero_le _) hq1 hq2 HQ.out).mono ?_
      rintro e w5 ⟨hb5, A5, c5, B5, d5, D5, f5, rfl, ho5⟩
      have k3 := k3.ext hb5
      have k4 := k4.ext hb5
      have k8 := k8.ext hb5
      have ho := ho.below hb5
      have hz5 := hb5.size
      have hbw5 := (hb4.trans (hbr.mono (by omega))).trans (hb5.mono (by omega))
      clear c4
      have c4 := k4.cell
      have c8 := k8.cell
      unfold msgCells
      go_wp2_with fail
      refine name_calls (fun w6 hw6 => ?_)
      have k3 : Blk w6 w.heap.size [.int .u64 si, .int .u64 ti, .slice A n c, .slice B m d, .slice D p f] := by rw [hw6]; exact k3.alloc _
      have k4 : Blk w6 (w.heap.size + 1) [.int .u64 oi, .int .u64 ot, .slice A' n' c', .slice B' m' d', .slice D' p' f'] := by rw [hw6]; exact k4.alloc _
      have k12 : Blk w6 w5.heap.size (msgG 7 oi ot 0 A5 B5 D5 n' c5 m' d5 q' f5 (decide (q' = p' - 0))) := by rw [hw6]; exact Blk.new w5 _ _ _ rfl
      have ho : Own w6 (w2.heap.size + 1) 5 1 D2 r f2 (nums .u8 (z.take r)) := by rw [hw6]; exact ho.alloc _
      have ho5 := ho5.2
      have ho5 : Own w6 wr.heap.size 5 1 D5 q' f5 (nums .u8 ((z'.drop 0).take 64)) := by rw [hw6]; exact ho5.alloc _
      have hbw6 : Below w.heap.size w w6 := by rw [hw6]; exact hbw5.alloc (by have := hbw5.size; omega) _
      have hz6 : w6.heap.size = w5.heap.size + 1 := by rw [hw6]; simp
      clear hw6 c4 c8 k8
      have hle2 := ho.le
      refine (take_fits (.int .i64 7) (.int .i64 0) (.int .i64 0) (.int .u64 0) (.slice none 0 0) (.int .u64 0) (.bool false) (.slice A5 n' c5) (.slice B5 m' d5) ci ct oi ot 0 D2 D5 r f2 q' f5 _ (z.take r) _ [] w6 ho.sl ho5.sl hle2 (by simp only [List.length_nil]; omega) ?_ rfl).mono ?_
      · unfold hadL
        split
        · next h =>
          rcases hor with h0 | h0
          · simp [h0]
          · exact absurd (h0.1.symm.trans h.1) h1
        · rfl
      rintro e w7 ⟨hb7, D7, n7, f7, rfl, hn7, ho7⟩
      simp only [List.nil_append] at ho7
      simp only [List.length_nil, Nat.zero_add] at hn7
      have k3 := k3.ext hb7
      have k4 := k4.ext hb7
      have k12 := k12.ext hb7
      have ho5 := ho5.below hb7
      have hz7 := hb7.size
      have hbw7 := hbw6.trans (hb7.mono hbw6.size)
      have hn7 := hn7.symm
      subst hn7
      clear ho hb7 hbw6 hbw5
      have c4 := k4.cell
      have c12 := k12.cell
      unfold msgG at c12
      go_wp2_with (with_reducible refine stop_at (d := 99) ?_)
      clear c4 c12
      refine hide (name_list (fun w8 hw8 => ?_))
      have k3 : Blk w8 w.heap.size [.int .u64 si, .int .u64 ti, .slice A n c, .slice B m d, .slice D p f] := by rw [hw8]; exact k3.alloc _
      have k4 : Blk w8 (w.heap.size + 1) [.int .u64 oi, .int .u64 ot, .slice A' n' c', .slice B' m' d', .slice D' p' f'] := by rw [hw8]; exact k4.alloc _
      have k12 : Blk w8 w5.heap.size (msgG 7 oi ot 0 A5 B5 D5 n' c5 m' d5 q' f5 (decide (q' = p' - 0))) := by rw [hw8]; exact k12.alloc _
      have k14 : Blk w8 w7.heap.size [.int .u64 oi, .int .u64 ot, .slice D7 q' f7] := by rw [hw8]; exact Blk.new w7 _ _ _ rfl
      have ho5 : Own w8 wr.heap.size 5 1 D5 q' f5 (nums .u8 ((z'.drop 0).take 64)) := by rw [hw8]; exact ho5.alloc _
      have ho7 : Own w8 w6.heap.size 5 1 D7 q' f7 (nums .u8 ((z'.drop 0).take 64)) := by rw [hw8]; exact ho7.alloc _
      have hbw8 : Below w.heap.size w w8 := by rw [hw8]; exact hbw7.alloc (by have := hbw7.size; omega) _
      have hz8 : w8.heap.size = w7.heap.size + 1 := by rw [hw8]; simp
      clear hw8 hbw7
      have c3 := k3.cell
      have c4 := k4.cell
      have c12 := k12.cell
      have c14 := k14.cell
      unfold msgG at c12
      have v1 := run_convert_sl (P := Try.prog) 26 5 9 Try.underlying26 Try.underlying5 Try.underlying9 ho5.sl
      have v2 := run_convert_sl (P := Try.prog) 26 5 9 Try.underlying26 Try.underlying5 Try.underlying9 ho7.sl
      go_wp2_with fail
      clear v1 v2 c12 c14 c4 k4 k12 ho5
      refine (piece_any si ti A B D n c m d p f 0 qs l k' z w8 (H.out.below hbw8) hn hm hpf hf (Nat.zero_le _) hs1 hs2 HS.out).mono ?_
      rintro e w9 ⟨hb9, A9, c9, B9, d9, D9, f9, rfl, ho9⟩
      have k3 := k3.ext hb9
      have k14 := k14.ext hb9
      have ho7 := ho7.below hb9
      have hz9 := hb9.size
      have hbw9 := hbw8.trans (hb9.mono hbw8.size)
      clear c3 hb9 hbw8
      have c3 := k3.cell
      have c14 := k14.cell
      unfold msgCells
      go_wp2_with fail
      refine name_calls (fun w10 hw10 => ?_)
      have k3 : Blk w10 w.heap.size [.int .u64 si, .int .u64 ti, .slice A n c, .slice B m d, .slice D p f] := by rw [hw10]; exact k3.alloc _
      have k16 : Blk w10 w9.heap.size (msgG 7 si ti 0 A9 B9 D9 n c9 m d9 qs f9 (decide (qs = p - 0))) := by rw [hw10]; exact Blk.new w9 _ _ _ rfl
      have ho7 : Own w10 w6.heap.size 5 1 D7 q' f7 (nums .u8 ((z'.drop 0).take 64)) := by rw [hw10]; exact ho7.alloc _
      have ho9 := ho9.2
      have ho9 : Own w10 w8.heap.size 5 1 D9 qs f9 (nums .u8 ((z.drop 0).take 64)) := by rw [hw10]; exact ho9.alloc _
      have hbw10 : Below w.heap.size w w10 := by rw [hw10]; exact hbw9.alloc (by have := hbw9.size; omega) _
      have hz10 : w10.heap.size = w9.heap.size + 1 := by rw [hw10]; simp
      clear hw10 c3 c14 k14 hbw9
      have hle7 := ho7.le
      refine (take_fits (.int .i64 7) (.int .i64 0) (.int .i64 0) (.int .u64 0) (.slice none 0 0) (.int .u64 0) (.bool false) (.slice A9 n c9) (.slice B9 m d9) oi ot si ti 0 D7 D9 q' f7 qs f9 _ _ _ [] w10 ho7.sl ho9.sl hle7 (by simp only [List.length_nil]; omega) ?_ rfl).mono ?_
      · unfold hadL
        rw [if_neg (fun h => h1 h.1.symm)]
      rintro e w11 ⟨hb11, D11, n11, f11, rfl, hn11, ho11⟩
      simp only [List.nil_append] at ho11
      simp only [List.length_nil, Nat.zero_add] at hn11
      have k3 := k3.ext hb11
      have k16 := k16.ext hb11
      have ho9 := ho9.below hb11
      have hbw11 := hbw10.trans (hb11.mono hbw10.size)
      have hn11 := hn11.symm
      subst hn11
      clear ho7 hb11 hbw10
      have c3 := k3.cell
      have c16 := k16.cell
      unfold msgG at c16
      go_wp2_with (with_reducible refine stop_at (d := 134) ?_)
      clear c3 c16
      refine hide (name_list (fun w12 hw12 => ?_))
      have k3 : Blk w12 w.heap.size [.int .u64 si, .int .u64 ti, .slice A n c, .slice B m d, .slice D p f] := by rw [hw12]; exact k3.alloc _
      have k16 : Blk w12 w9.heap.size (msgG 7 si ti 0 A9 B9 D9 n c9 m d9 qs f9 (decide (qs = p - 0))) := by rw [hw12]; exact k16.alloc _
      have k18 : Blk w12 w11.heap.size [.int .u64 si, .int .u64 ti, .slice D11 qs f11] := by rw [hw12]; exact Blk.new w11 _ _ _ rfl
      have ho9 : Own w12 w8.heap.size 5 1 D9 qs f9 (nums .u8 ((z.drop 0).take 64)) := by rw [hw12]; exact ho9.alloc _
      have ho11 : Own w12 w10.heap.size 5 1 D11 qs f11 (nums .u8 ((z.drop 0).take 64)) := by rw [hw12]; exact ho11.alloc _
      have hbw12 : Below w.heap.size w w12 := by rw [hw12]; exact hbw11.alloc (by have := hbw11.size; omega) _
      clear hw12
      have c3 := k3.cell
      have c16 := k16.cell
      have c18 := k18.cell
      unfold msgG at c16
      have v1 := run_convert_sl (P := Try.prog) 26 5 9 Try.underlying26 Try.underlying5 Try.underlying9 ho9.sl
      have v2 := run_convert_sl (P := Try.prog) 26 5 9 Try.underlying26 Try.underlying5 Try.underlying9 ho11.sl
      go_wp2
      go_ret
      exact ⟨rfl, hbw12⟩

set_option maxHeartbeats 4000000 in
theorem lawOther_2 (si ti ot many : Int) (A B D A' B' D' : Option Addr) (n c m d p f n' c' m' d' p' f' : Nat) (l k' z l' k'' z' : List Int) (w : World) (h : IsSnap w A B D n m p l k' z) (hn : n * 8 ≤ 140737488355328) (hm : m * 8 ≤ 140737488355328)
    (hpf : p ≤ f) (hf : p ≤ 140737488355328) (h' : IsSnap w A' B' D' n' m' p' l' k'' z') (hn' : n' * 8 ≤ 140737488355328) (hm' : m' * 8 ≤ 140737488355328) (hpf' : p' ≤ f') (hf' : p' ≤ 140737488355328) (h1 : ¬ ti = ot) (hN : -9223372036854775808 ≤ many) (hN2 : many ≤ 9223372036854775807) :
    Calls Try.prog 5 #[.agg #[.int .u64 si, .int .u64 ti, .slice A n c, .slice B m d, .slice D p f], .agg #[.int .u64 si, .int .u64 ot, .slice A' n' c', .slice B' m' d', .slice D' p' f'], .int .i64 many] w fun e w' => e = .returned (.bool true) ∧ Below w.heap.size w w' := by
  have hbe : (ti == ot) = false := by simp [h1]
  obtain ⟨q', hq1, hq2, hq3⟩ : ∃ q, q ≤ 64 ∧ q ≤ p' - 0 ∧ (q = 64 ∨ q = p' - 0) := by
    by_cases e : 64 ≤ p' - 0
    · exact ⟨64, by omega, e, .inl rfl⟩
    · exact ⟨p' - 0, by omega, by omega, .inr rfl⟩
  obtain ⟨qs, hs1, hs2, hs3⟩ : ∃ q, q ≤ 64 ∧ q ≤ p - 0 ∧ (q = 64 ∨ q = p - 0) := by
    by_cases e : 64 ≤ p - 0
    · exact ⟨64, by omega, e, .inl rfl⟩
    · exact ⟨p - 0, by omega, by omega, .inr rfl⟩
  have HQ := hide hq3
  have HS := hide hs3
  have H := Lib.hid h
  have HO := Lib.hid h'
  clear h h' hq3 hs3
  have hzl : z.length = p := H.out.2.len
  obtain ⟨hpc, hpc1⟩ := pieces_le p
  go_enter Try.func5, Try.ntmps5
  go_wp2_with fail
  refine name_calls (fun w1 hw1 => ?_)
  have k3 : Blk w1 w.heap.size [.int .u64 si, .int .u64 ti, .slice A n c, .slice B m d, .slice D p f] := by rw [hw1]; exact (Blk.new w _ _ _ rfl).alloc _
  have k4 : Blk w1 (w.heap.size + 1) [.int .u64 si, .int .u64 ot, .slice A' n' c', .slice B' m' d', .slice D' p' f'] := by rw [hw1]; exact Blk.new _ _ _ _ (by simp)
  have hb1 : Below w.heap.size w w1 := by rw [hw1]; exact (by (repeat first | refine Below.setCell ?_ (by first | omega | (dsimp only; omega) | (simp only [heap_drew, World.size_alloc, Gz.size_setCell]; omega)) _ | refine Below.alloc ?_ (by first | omega | (dsimp only; omega) | (simp only [heap_drew, World.size_alloc, Gz.size_setCell]; omega)) _ | refine Below.drew ?_); exact Below.refl _ _)
  have hz1 : w.heap.size + 2 ≤ w1.heap.size := by rw [hw1]; simp
  clear hw1
  refine (head_any w1).mono ?_
  rintro e w2 ⟨rfl, hb2⟩
  have k3 := k3.ext hb2
  have k4 := k4.ext hb2
  have c3 := k3.cell
  have c4 := k4.cell
  have hz2 := hb2.size
  have hb2 := hb1.trans (hb2.mono hb1.size)
  go_wp2_with fail
  refine name_world (fun w4 hw4 => ?_)
  have k3 : Blk w4 w.heap.size [.int .u64 si, .int .u64 ti, .slice A n c, .slice B m d, .slice D p f] := by rw [hw4]; exact k3.alloc _
  have k4 : Blk w4 (w.heap.size + 1) [.int .u64 si, .int .u64 ot, .slice A' n' c', .slice B' m' d', .slice D' p' f'] := by rw [hw4]; exact k4.alloc _
  have k8 : Blk w4 w2.heap.size [.int .u64 0, .int .u64 0, .slice none 0 0] := by rw [hw4]; exact Blk.new w2 _ _ _ rfl
  have hb4 : Below w2.heap.size w2 w4 := by rw [hw4]; exact (by (repeat first | refine Below.setCell ?_ (by first | omega | (dsimp only; omega) | (simp only [heap_drew, World.size_alloc, Gz.size_setCell]; omega)) _ | refine Below.alloc ?_ (by first | omega | (dsimp only; omega) | (simp only [heap_drew, World.size_alloc, Gz.size_setCell]; omega)) _ | refine Below.drew ?_); exact Below.refl _ _)
  have hb4 := hb2.trans (hb4.mono hb2.size)
  have hz4 : w4.heap.size = w2.heap.size + 1 := by rw [hw4]; simp
  have K3 := hide k3
  have K4 := hide k4
  have hC : Come w4 w2.heap.size si ti z w4 := ⟨Below.refl _ _, Nat.le_refl _, 0, 0, none, 0, 0, k8, .inl ⟨rfl, rfl, rfl⟩, Nat.zero_le _, .inl rfl⟩
  clear hw4 k3 k4 k8 c3 c4
  go_loopw [9] (fun iv wr => ∃ j : Nat, iv = .int .i64 j ∧ (j : Int) ≤ pieces p ∧ Come w4 w2.heap.size si ti z wr) (fun iv _ => (pieces p - intOf iv).toNat)
  case atStart => exact ⟨0, rfl, by omega, hC⟩
  case round =>
    clear hC
    obtain ⟨j, rfl, hj, hbr, hzr, ci, ct, D2, r, f2, k8, ho, hr, hor⟩ := hrel
    by_cases hlt : (j : Int) < many
    · have k3 := K3.out.below hbr (by omega)
      have c3 := k3.cell
      go_wp2_with fail
      refine (pieces_prog p _ (by omega) (by omega)).mono ?_
      rintro e _ ⟨rfl, rfl⟩
      by_cases hlt2 : (j : Int) < pieces p
      · obtain ⟨q, hr1, hr2, hr3⟩ : ∃ q, q ≤ 64 ∧ q ≤ p - r ∧ (q = 64 ∨ q = p - r) := by
          by_cases e : 64 ≤ p - r
          · exact ⟨64, by omega, e, .inl rfl⟩
          · exact ⟨p - r, by omega, by omega, .inr rfl⟩
        have HR := hide hr3
        clear hr3
        have c8 := k8.cell
        go_wp2_with fail
        refine (piece_any si ti A B D n c m d p f r q l k' z _ (H.out.below (hb4.trans (hbr.mono (by omega)))) hn hm hpf hf (by omega) hr1 hr2 HR.out).mono ?_
        rintro e w5 ⟨hb5, A5, c5, B5, d5, D5, f5, rfl, ho5⟩
        have k8 := k8.ext hb5
        have ho := ho.below hb5
        have hz5 := hb5.size
        have hbr5 := hbr.trans (hb5.mono (by omega))
        clear c8 c3
        have c8 := k8.cell
        unfold msgCells
        go_wp2_with fail
        refine name_calls (fun w6 hw6 => ?_)
        have k8 : Blk w6 w2.heap.size [.int .u64 ci, .int .u64 ct, .slice D2 r f2] := by rw [hw6]; exact k8.alloc _
        have ho : Own w6 (w2.heap.size + 1) 5 1 D2 r f2 (nums .u8 (z.take r)) := by rw [hw6]; exact ho.alloc _
        have ho5 := ho5.2
        have ho5 : Own w6 wr.heap.size 5 1 D5 q f5 (nums .u8 ((z.drop r).take 64)) := by rw [hw6]; exact ho5.alloc _
        have hbr6 : Below w2.heap.size w4 w6 := by rw [hw6]; exact hbr5.alloc (by omega) _
        have hz6 : w6.heap.size = w5.heap.size + 1 := by rw [hw6]; simp
        clear hw6 c8
        have hle2 := ho.le
        have hrl : (z.take r).length = r := by simp; omega
        refine (take_fits (.int .i64 7) (.int .i64 0) (.int .i64 0) (.int .u64 0) (.slice none 0 0) (.int .u64 0) (.bool false) (.slice A5 n c5) (.slice B5 m d5) ci ct si ti r D2 D5 r f2 q f5 _ (z.take r) _ (z.take r) w6 ho.sl ho5.sl hle2 (by rw [hrl]; omega) ?_ (by rw [hrl])).mono ?_
        · unfold hadL
          split
          · rfl
          · next h =>
            rcases hor with h0 | h0
            · simp [h0]
            · exact absurd h0 h
        rintro e w7 ⟨hb7, D7, n7, f7, rfl, hn7, ho7⟩
        have HN := hide hn7
        clear hn7
        have k8 := k8.ext hb7
        have hz7 := hb7.size
        have hbr7 := hbr6.trans (hb7.mono (by omega))
        go_wp2_with (with_reducible refine stop_store ?_)
        refine hide (wpList_store_blk rfl 43 (.tmp 8) (.tmp 67) rfl w2.heap.size [.int .u64 si, .int .u64 ti, .slice D7 n7 f7] rfl rfl _ k8 rfl (by kernel_rfl) rfl ?_)
        intro w8 k8 hg8 hz8
        have ho8 := ho7.grown hg8 (by intro g hg; injection hg with hg; omega)
        have hbr8 : Below w2.heap.size w4 w8 := hbr7.grown hg8 (by omega) (by intro g hg; injection hg with hg; omega)
        have hC : Come w4 w2.heap.size si ti z w8 := by
          refine ⟨hbr8, by omega, _, _, _, _, _, k8, ?_, ?_, .inr ⟨rfl, rfl⟩⟩
          · have e : z.take r ++ (z.drop r).take 64 = z.take n7 := by
              rw [HN.out, hrl]
              rcases HR.out with e | e
              · rw [e, List.take_add]
              · rw [e, List.take_of_length_le (l := List.drop r z) (by simp; omega), List.take_append_drop, List.take_of_length_le (by omega)]
            rw [e] at ho8
            exact ho8.lower (by omega)
          · have := HN.out; omega
        clear k8 ho8 hbr8 hg8 hbr7 hb7 ho7 ho5 ho hbr6 hbr5 hb5
        go_wp2
        go_roundw
        case rel => exact ⟨j + 1, by go_num, by omega, hC⟩
        case measure => simp [intOf]; omega
      · clear c3 k3
        have k3 := K3.out.below hbr (by omega)
        have k4 := K4.out.below hbr (by omega)
        have c4 := k4.cell
        have hOr := HO.out.below (hb4.trans (hbr.mono (by omega)))
        go_wp2_with fail
        refine (piece_any si ot A' B' D' n' c' m' d' p' f' 0 q' l' k'' z' wr hOr hn' hm' hpf' hf' (Nat.zero_le _) hq1 hq2 HQ.out).mono ?_
        rintro e w5 ⟨hb5, A5, c5, B5, d5, D5, f5, rfl, ho5⟩
        have k3 := k3.ext hb5
        have k4 := k4.ext hb5
        have k8 := k8.ext hb5
        have ho := ho.below hb5
        have hz5 := hb5.size
        have hbw5 := (hb4.trans (hbr.mono (by omega))).trans (hb5.mono (by omega))
        clear c4
        have c4 := k4.cell
        have c8 := k8.cell
        unfold msgCells
        go_wp2_with fail
        refine name_calls (fun w6 hw6 => ?_)
        have k3 : Blk w6 w.heap.size [.int .u64 si, .int .u64 ti, .slice A n c, .slice B m d, .slice D p f] := by rw [hw6]; exact k3.alloc _
        have k4 : Blk w6 (w.heap.size + 1) [.int .u64 si, .int .u64 ot, .slice A' n' c', .slice B' m' d', .slice D' p' f'] := by rw [hw6]; exact k4.alloc _
        have k12 : Blk w6 w5.heap.size (msgG 7 si ot 0 A5 B5 D5 n' c5 m' d5 q' f5 (decide (q' = p' - 0))) := by rw [hw6]; exact Blk.new w5 _ _ _ rfl
        have ho : Own w6 (w2.heap.size + 1) 5 1 D2 r f2 (nums .u8 (z.take r)) := by rw [hw6]; exact ho.alloc _
        have ho5 := ho5.2
        have ho5 : Own w6 wr.heap.size 5 1 D5 q' f5 (nums .u8 ((z'.drop 0).take 64)) := by rw [hw6]; exact ho5.alloc _
        have hbw6 : Below w.heap.size w w6 := by rw [hw6]; exact hbw5.alloc (by have := hbw5.size; omega) _
        have hz6 : w6.heap.size = w5.heap.size + 1 := by rw [hw6]; simp
        clear hw6 c4 c8 k8
        have hle2 := ho.le
        refine (take_fits (.int .i64 7) (.int .i64 0) (.int .i64 0) (.int .u64 0) (.slice none 0 0) (.int .u64 0) (.bool false) (.slice A5 n' c5) (.slice B5 m' d5) ci ct si ot 0 D2 D5 r f2 q' f5 _ (z.take r) _ [] w6 ho.sl ho5.sl hle2 (by simp only [List.length_nil]; omega) ?_ rfl).mono ?_
        · unfold hadL
          split
          · next h =>
            rcases hor with h0 | h0
            · simp [h0]
            · exact absurd (h0.2.symm.trans h.2) h1
          · rfl
        rintro e w7 ⟨hb7, D7, n7, f7, rfl, hn7, ho7⟩
        simp only [List.nil_append] at ho7
        simp only [List.length_nil, Nat.zero_add] at hn7
        have k3 := k3.ext hb7
        have k4 := k4.ext hb7
        have k12 := k12.ext hb7
        have ho5 := ho5.below hb7
        have hz7 := hb7.size
        have hbw7 := hbw6.trans (hb7.mono hbw6.size)
        have hn7 := hn7.symm
        subst hn7
        clear ho hb7 hbw6 hbw5
        have c4 := k4.cell
        have c12 := k12.cell
        unfold msgG at c12
        go_wp2_with (with_reducible refine stop_at (d := 99) ?_)
        clear c4 c12
        refine hide (name_list (fun w8 hw8 => ?_))
        have k3 : Blk w8 w.heap.size [.int .u64 si, .int .u64 ti, .slice A n c, .slice B m d, .slice D p f] := by rw [hw8]; exact k3.alloc _
        have k4 : Blk w8 (w.heap.size + 1) [.int .u64 si, .int .u64 ot, .slice A' n' c', .slice B' m' d', .slice D' p' f'] := by rw [hw8]; exact k4.alloc _
        have k12 : Blk w8 w5.heap.size (msgG 7 si ot 0 A5 B5 D5 n' c5 m' d5 q' f5 (decide (q' = p' - 0))) := by rw [hw8]; exact k12.alloc _
        have k14 : Blk w8 w7.heap.size [.int .u64 si, .int .u64 ot, .slice D7 q' f7] := by rw [hw8]; exact Blk.new w7 _ _ _ rfl
        have ho5 : Own w8 wr.heap.size 5 1 D5 q' f5 (nums .u8 ((z'.drop 0).take 64)) := by rw [hw8]; exact ho5.alloc _
        have ho7 : Own w8 w6.heap.size 5 1 D7 q' f7 (nums .u8 ((z'.drop 0).take 64)) := by rw [hw8]; exact ho7.alloc _
        have hbw8 : Below w.heap.size w w8 := by rw [hw8]; exact hbw7.alloc (by have := hbw7.size; omega) _
        have hz8 : w8.heap.size = w7.heap.size + 1 := by rw [hw8]; simp
        clear hw8 hbw7
        have c3 := k3.cell
        have c4 := k4.cell
        have c12 := k12.cell
        have c14 := k14.cell
        unfold msgG at c12
        have v1 := run_convert_sl (P := Try.prog) 26 5 9 Try.underlying26 Try.underlying5 Try.underlying9 ho5.sl
        have v2 := run_convert_sl (P := Try.prog) 26 5 9 Try.underlying26 Try.underlying5 Try.underlying9 ho7.sl
        go_wp2_with fail
        clear v1 v2 c12 c14 c4 k4 k12 ho5
        refine (piece_any si ti A B D n c m d p f 0 qs l k' z w8 (H.out.below hbw8) hn hm hpf hf (Nat.zero_le _) hs1 hs2 HS.out).mono ?_
        rintro e w9 ⟨hb9, A9, c9, B9, d9, D9, f9, rfl, ho9⟩
        have k3 := k3.ext hb9
        have k14 := k14.ext hb9
        have ho7 := ho7.below hb9
        have hz9 := hb9.size
        have hbw9 := hbw8.trans (hb9.mono hbw8.size)
        clear c3 hb9 hbw8
        have c3 := k3.cell
        have c14 := k14.cell
        unfold msgCells
        go_wp2_with fail
        refine name_calls (fun w10 hw10 => ?_)
        have k3 : Blk w10 w.heap.size [.int .u64 si, .int .u64 ti, .slice A n c, .slice B m d, .slice D p f] := by rw [hw10]; exact k3.alloc _
        have k16 : Blk w10 w9.heap.size (msgG 7 si ti 0 A9 B9 D9 n c9 m d9 qs f9 (decide (qs = p - 0))) := by rw [hw10]; exact Blk.new w9 _ _ _ rfl
        have ho7 : Own w10 w6.heap.size 5 1 D7 q' f7 (nums .u8 ((z'.drop 0).take 64)) := by rw [hw10]; exact ho7.alloc _
        have ho9 := ho9.2
        have ho9 : Own w10 w8.heap.size 5 1 D9 qs f9 (nums .u8 ((z.drop 0).take 64)) := by rw [hw10]; exact ho9.alloc _
        have hbw10 : Below w.heap.size w w10 := by rw [hw10]; exact hbw9.alloc (by have := hbw9.size; omega) _
        have hz10 : w10.heap.size = w9.heap.size + 1 := by rw [hw10]; simp
        clear hw10 c3 c14 k14 hbw9
        have hle7 := ho7.le
        refine (take_fits (.int .i64 7) (.int .i64 0) (.int .i64 0) (.int .u64 0) (.slice none 0 0) (.int .u64 0) (.bool false) (.slice A9 n c9) (.slice B9 m d9) si ot si ti 0 D7 D9 q' f7 qs f9 _ _ _ [] w10 ho7.sl ho9.sl hle7 (by simp only [List.length_nil]; omega) ?_ rfl).mono ?_
        · unfold hadL
          rw [if_neg (fun h => h1 h.2.symm)]
        rintro e w11 ⟨hb11, D11, n11, f11, rfl, hn11, ho11⟩
        simp only [List.nil_append] at ho11
        simp only [List.length_nil, Nat.zero_add] at hn11
        have k3 := k3.ext hb11
        have k16 := k16.ext hb11
        have ho9 := ho9.below hb11
        have hbw11 := hbw10.trans (hb11.mono hbw10.size)
        have hn11 := hn11.symm
        subst hn11
        clear ho7 hb11 hbw10
        have c3 := k3.cell
        have c16 := k16.cell
        unfold msgG at c16
        go_wp2_with (with_reducible refine stop_at (d := 134) ?_)
        clear c3 c16
        refine hide (name_list (fun w12 hw12 => ?_))
        have k3 : Blk w12 w.heap.size [.int .u64 si, .int .u64 ti, .slice A n c, .slice B m d, .slice D p f] := by rw [hw12]; exact k3.alloc _
        have k16 : Blk w12 w9.heap.size (msgG 7 si ti 0 A9 B9 D9 n c9 m d9 qs f9 (decide (qs = p - 0))) := by rw [hw12]; exact k16.alloc _
        have k18 : Blk w12 w11.heap.size [.int .u64 si, .int .u64 ti, .slice D11 qs f11] := by rw [hw12]; exact Blk.new w11 _ _ _ rfl
        have ho9 : Own w12 w8.heap.size 5 1 D9 qs f9 (nums .u8 ((z.drop 0).take 64)) := by rw [hw12]; exact ho9.alloc _
        have ho11 : Own w12 w10.heap.size 5 1 D11 qs f11 (nums .u8 ((z.drop 0).take 64)) := by rw [hw12]; exact ho11.alloc _
        have hbw12 : Below w.heap.size w w12 := by rw [hw12]; exact hbw11.alloc (by have := hbw11.size; omega) _
        clear hw12
        have c3 := k3.cell
        have c16 := k16.cell
        have c18 := k18.cell
        unfold msgG at c16
        have v1 := run_convert_sl (P := Try.prog) 26 5 9 Try.underlying26 Try.underlying5 Try.underlying9 ho9.sl
        have v2 := run_convert_sl (P := Try.prog) 26 5 9 Try.underlying26 Try.underlying5 Try.underlying9 ho11.sl
        go_wp2
        go_ret
        exact ⟨rfl, hbw12⟩
    · have k3 := K3.out.below hbr (by omega)
      have k4 := K4.out.below hbr (by omega)
      have c4 := k4.cell
      have hOr := HO.out.below (hb4.trans (hbr.mono (by omega)))
      go_wp2_with fail
      refine (piece_any si ot A' B' D' n' c' m' d' p' f' 0 q' l' k'' z' wr hOr hn' hm' hpf' hf' (Nat.zero_le _) hq1 hq2 HQ.out).mono ?_
      rintro e w5 ⟨hb5, A5, c5, B5, d5, D5, f5, rfl, ho5⟩
      have k3 := k3.ext hb5
      have k4 := k4.ext hb5
      have k8 := k8.ext hb5
      have ho := ho.below hb5
      have hz5 := hb5.size
      have hbw5 := (hb4.trans (hbr.mono (by omega))).trans (hb5.mono (by omega))
      clear c4
      have c4 := k4.cell
      have c8 := k8.cell
      unfold msgCells
      go_wp2_with fail
      refine name_calls (fun w6 hw6 => ?_)
      have k3 : Blk w6 w.heap.size [.int .u64 si, .int .u64 ti, .slice A n c, .slice B m d, .slice D p f] := by rw [hw6]; exact k3.alloc _
      have k4 : Blk w6 (w.heap.size + 1) [.int .u64 si, .int .u64 ot, .slice A' n' c', .slice B' m' d', .slice D' p' f'] := by rw [hw6]; exact k4.alloc _
      have k12 : Blk w6 w5.heap.size (msgG 7 si ot 0 A5 B5 D5 n' c5 m' d5 q' f5 (decide (q' = p' - 0))) := by rw [hw6]; exact Blk.new w5 _ _ _ rfl
      have ho : Own w6 (w2.heap.size + 1) 5 1 D2 r f2 (nums .u8 (z.take r)) := by rw [hw6]; exact ho.alloc _
      have ho5 := ho5.2
      have ho5 : Own w6 wr.heap.size 5 1 D5 q' f5 (nums .u8 ((z'.drop 0).take 64)) := by rw [hw6]; exact ho5.alloc _
      have hbw6 : Below w.heap.size w w6 := by rw [hw6]; exact hbw5.alloc (by have := hbw5.size; omega) _
      have hz6 : w6.heap.size = w5.heap.size + 1 := by rw [hw6]; simp
      clear hw6 c4 c8 k8
      have hle2 := ho.le
      refine (take_fits (.int .i64 7) (.int .i64 0) (.int .i64 0) (.int .u64 0) (.slice none 0 0) (.int .u64 0) (.bool false) (.slice A5 n' c5) (.slice B5 m' d5) ci ct si ot 0 D2 D5 r f2 q' f5 _ (z.take r) _ [] w6 ho.sl ho5.sl hle2 (by simp only [List.length_nil]; omega) ?_ rfl).mono ?_
      · unfold hadL
        split
        · next h =>
          rcases hor with h0 | h0
          · simp [h0]
          · exact absurd (h0.2.symm.trans h.2) h1
        · rfl
      rintro e w7 ⟨hb7, D7, n7, f7, rfl, hn7, ho7⟩
      simp only [List.nil_append] at ho7
      simp only [List.length_nil, Nat.zero_add] at hn7
      have k3 := k3.ext hb7
      have k4 := k4.ext hb7
      have k12 := k12.ext hb7
      have ho5 := ho5.below hb7
      have hz7 := hb7.size
      have hbw7 := hbw6.trans (hb7.mono hbw6.size)
      have hn7 := hn7.symm
      subst hn7
      clear ho hb7 hbw6 hbw5
      have c4 := k4.cell
      have c12 := k12.cell
      unfold msgG at c12
      go_wp2_with (with_reducible refine stop_at (d := 99) ?_)
      clear c4 c12
      refine hide (name_list (fun w8 hw8 => ?_))
      have k3 : Blk w8 w.heap.size [.int .u64 si, .int .u64 ti, .slice A n c, .slice B m d, .slice D p f] := by rw [hw8]; exact k3.alloc _
      have k4 : Blk w8 (w.heap.size + 1) [.int .u64 si, .int .u64 ot, .slice A' n' c', .slice B' m' d', .slice D' p' f'] := by rw [hw8]; exact k4.alloc _
      have k12 : Blk w8 w5.heap.size (msgG 7 si ot 0 A5 B5 D5 n' c5 m' d5 q' f5 (decide (q' = p' - 0))) := by rw [hw8]; exact k12.alloc _
      have k14 : Blk w8 w7.heap.size [.int .u64 si, .int .u64 ot, .slice D7 q' f7] := by rw [hw8]; exact Blk.new w7 _ _ _ rfl
      have ho5 : Own w8 wr.heap.size 5 1 D5 q' f5 (nums .u8 ((z'.drop 0).take 64)) := by rw [hw8]; exact ho5.alloc _
      have ho7 : Own w8 w6.heap.size 5 1 D7 q' f7 (nums .u8 ((z'.drop 0).take 64)) := by rw [hw8]; exact ho7.alloc _
      have hbw8 : Below w.heap.size w w8 := by rw [hw8]; exact hbw7.alloc (by have := hbw7.size; omega) _
      have hz8 : w8.heap.size = w7.heap.size + 1 := by rw [hw8]; simp
      clear hw8 hbw7
      have c3 := k3.cell
      have c4 := k4.cell
      have c12 := k12.cell
      have c14 := k14.cell
      unfold msgG at c12
      have v1 := run_convert_sl (P := Try.prog) 26 5 9 Try.underlying26 Try.underlying5 Try.underlying9 ho5.sl
      have v2 := run_convert_sl (P := Try.prog) 26 5 9 Try.underlying26 Try.underlying5 Try.underlying9 ho7.sl
      go_wp2_with fail
      clear v1 v2 c12 c14 c4 k4 k12 ho5
      refine (piece_any si ti A B D n c m d p f 0 qs l k' z w8 (H.out.below hbw8) hn hm hpf hf (Nat.zero_le _) hs1 hs2 HS.out).mono ?_
      rintro e w9 ⟨hb9, A9, c9, B9, d9, D9, f9, rfl, ho9⟩
      have k3 := k3.ext hb9
      have k14 := k14.ext hb9
      have ho7 := ho7.below hb9
      have hz9 := hb9.size
      have hbw9 := hbw8.trans (hb9.mono hbw8.size)
      clear c3 hb9 hbw8
      have c3 := k3.cell
      have c14 := k14.cell
      unfold msgCells
      go_wp2_with fail
      refine name_calls (fun w10 hw10 => ?_)
      have k3 : Blk w10 w.heap.size [.int .u64 si, .int .u64 ti, .slice A n c, .slice B m d, .slice D p f] := by rw [hw10]; exact k3.alloc _
      have k16 : Blk w10 w9.heap.size (msgG 7 si ti 0 A9 B9 D9 n c9 m d9 qs f9 (decide (qs = p - 0))) := by rw [hw10]; exact Blk.new w9 _ _ _ rfl
      have ho7 : Own w10 w6.heap.size 5 1 D7 q' f7 (nums .u8 ((z'.drop 0).take 64)) := by rw [hw10]; exact ho7.alloc _
      have ho9 := ho9.2
      have ho9 : Own w10 w8.heap.size 5 1 D9 qs f9 (nums .u8 ((z.drop 0).take 64)) := by rw [hw10]; exact ho9.alloc _
      have hbw10 : Below w.heap.size w w10 := by rw [hw10]; exact hbw9.alloc (by have := hbw9.size; omega) _
      have hz10 : w10.heap.size = w9.heap.size + 1 := by rw [hw10]; simp
      clear hw10 c3 c14 k14 hbw9
      have hle7 := ho7.le
      refine (take_fits (.int .i64 7) (.int .i64 0) (.int .i64 0) (.int .u64 0) (.slice none 0 0) (.int .u64 0) (.bool false) (.slice A9 n c9) (.slice B9 m d9) si ot si ti 0 D7 D9 q' f7 qs f9 _ _ _ [] w10 ho7.sl ho9.sl hle7 (by simp only [List.length_nil]; omega) ?_ rfl).mono ?_
      · unfold hadL
        rw [if_neg (fun h => h1 h.2.symm)]
      rintro e w11 ⟨hb11, D11, n11, f11, rfl, hn11, ho11⟩
      simp only [List.nil_append] at ho11
      simp only [List.length_nil, Nat.zero_add] at hn11
      have k3 := k3.ext hb11
      have k16 := k16.ext hb11
      have ho9 := ho9.below hb11
      have hbw11 := hbw10.trans (hb11.mono hbw10.size)
      have hn11 := hn11.symm
      subst hn11
      clear ho7 hb11 hbw10
      have c3 := k3.cell
      have c16 := k16.cell
      unfold msgG at c16
      go_wp2_with (with_reducible refine stop_at (d := 134) ?_)
      clear c3 c16
      refine hide (name_list (fun w12 hw12 => ?_))
      have k3 : Blk w12 w.heap.size [.int .u64 si, .int .u64 ti, .slice A n c, .slice B m d, .slice D p f] := by rw [hw12]; exact k3.alloc _
      have k16 : Blk w12 w9.heap.size (msgG 7 si ti 0 A9 B9 D9 n c9 m d9 qs f9 (decide (qs = p - 0))) := by rw [hw12]; exact k16.alloc _
      have k18 : Blk w12 w11.heap.size [.int .u64 si, .int .u64 ti, .slice D11 qs f11] := by rw [hw12]; exact Blk.new w11 _ _ _ rfl
      have ho9 : Own w12 w8.heap.size 5 1 D9 qs f9 (nums .u8 ((z.drop 0).take 64)) := by rw [hw12]; exact ho9.alloc _
      have ho11 : Own w12 w10.heap.size 5 1 D11 qs f11 (nums .u8 ((z.drop 0).take 64)) := by rw [hw12]; exact ho11.alloc _
      have hbw12 : Below w.heap.size w w12 := by rw [hw12]; exact hbw11.alloc (by have := hbw11.size; omega) _
      clear hw12
      have c3 := k3.cell
      have c16 := k16.cell
      have c18 := k18.cell
      unfold msgG at c16
      have v1 := run_convert_sl (P := Try.prog) 26 5 9 Try.underlying26 Try.underlying5 Try.underlying9 ho9.sl
      have v2 := run_convert_sl (P := Try.prog) 26 5 9 Try.underlying26 Try.underlying5 Try.underlying9 ho11.sl
      go_wp2
      go_ret
      exact ⟨rfl, hbw12⟩

set_option maxHeartbeats 4000000 in
theorem lawOther_3 (si ti many : Int) (A B D A' B' D' : Option Addr) (n c m d p f n' c' m' d' p' f' : Nat) (w : World) :
    Calls Try.prog 5 #[.agg #[.int .u64 si, .int .u64 ti, .slice A n c, .slice B m d, .slice D p f], .agg #[.int .u64 si, .int .u64 ti, .slice A' n' c', .slice B' m' d', .slice D' p' f'], .int .i64 many] w fun e w' => e = .returned (.bool true) ∧ Below w.heap.size w w' := by
  go_enter Try.func5, Try.ntmps5
  go_wp2_with fail
  refine name_calls (fun w1 hw1 => ?_)
  have k3 : Blk w1 w.heap.size [.int .u64 si, .int .u64 ti, .slice A n c, .slice B m d, .slice D p f] := by rw [hw1]; exact (Blk.new w _ _ _ rfl).alloc _
  have k4 : Blk w1 (w.heap.size + 1) [.int .u64 si, .int .u64 ti, .slice A' n' c', .slice B' m' d', .slice D' p' f'] := by rw [hw1]; exact Blk.new _ _ _ _ (by simp)
  have hb1 : Below w.heap.size w w1 := by rw [hw1]; exact (by (repeat first | refine Below.setCell ?_ (by first | omega | (dsimp only; omega) | (simp only [heap_drew, World.size_alloc, Gz.size_setCell]; omega)) _ | refine Below.alloc ?_ (by first | omega | (dsimp only; omega) | (simp only [heap_drew, World.size_alloc, Gz.size_setCell]; omega)) _ | refine Below.drew ?_); exact Below.refl _ _)
  clear hw1
  refine (head_any w1).mono ?_
  rintro e w2 ⟨rfl, hb2⟩
  have c3 := (k3.ext hb2).cell
  have c4 := (k4.ext hb2).cell
  have hb2 := hb1.trans (hb2.mono hb1.size)
  go_wp2
  go_ret
  exact ⟨rfl, hb2⟩

theorem lawOther_any (si ti oi ot many : Int) (A B D A' B' D' : Option Addr) (n c m d p f n' c' m' d' p' f' : Nat) (l k' z l' k'' z' : List Int) (w : World) (h : IsSnap w A B D n m p l k' z) (hn : n * 8 ≤ 140737488355328) (hm : m * 8 ≤ 140737488355328)
    (hpf : p ≤ f) (hf : p ≤ 140737488355328) (h' : IsSnap w A' B' D' n' m' p' l' k'' z') (hn' : n' * 8 ≤ 140737488355328) (hm' : m' * 8 ≤ 140737488355328) (hpf' : p' ≤ f') (hf' : p' ≤ 140737488355328) (hN : -9223372036854775808 ≤ many) (hN2 : many ≤ 9223372036854775807) :
    Calls Try.prog 5 #[.agg #[.int .u64 si, .int .u64 ti, .slice A n c, .slice B m d, .slice D p f], .agg #[.int .u64 oi, .int .u64 ot, .slice A' n' c', .slice B' m' d', .slice D' p' f'], .int .i64 many] w fun e w' => e = .returned (.bool true) ∧ Below w.heap.size w w' := by
  by_cases h1 : si = oi
  · subst h1
    by_cases h2 : ti = ot
    · subst h2
      exact lawOther_3 si ti many A B D A' B' D' n c m d p f n' c' m' d' p' f' w
    · exact lawOther_2 si ti ot many A B D A' B' D' n c m d p f n' c' m' d' p' f' l k' z l' k'' z' w h hn hm hpf hf h' hn' hm' hpf' hf' h2 hN hN2
  · exact lawOther_1 si ti oi ot many A B D A' B' D' n c m d p f n' c' m' d' p' f' l k' z l' k'' z' w h hn hm hpf hf h' hn' hm' hpf' hf' h1 hN hN2
end Go.Proofs.Ytmjohallhdcdnaa

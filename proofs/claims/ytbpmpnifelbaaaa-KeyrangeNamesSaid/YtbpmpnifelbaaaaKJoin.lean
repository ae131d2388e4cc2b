/- Contracts of Merge, the program's and the document's. -/
import Derived.Test.YtbpmpnifelbaaaaKCut
namespace Go.Proofs.Ytbpmpnifelbaaaa
open Go.RowKit Go.Gz Go.Lib
attribute [local go_sem] World.cell?_alloc_some frozen?_alloc_some

/-- Merge's answer, by its error. -/
def mergeV (a b c d : ByteArray) : Value := .tuple #[rg (pk (mergeE a b c d) a) (pk (mergeE a b c d) d), .int .i64 (mergeE a b c d)]
theorem mergeV_no {a b c d : ByteArray} {x : Int} (h : mergeE a b c d = x) (hx : ¬ x = 0) : mergeV a b c d = .tuple #[rg es es, .int .i64 x] := by
  unfold mergeV; rw [h, pk_no hx, pk_no hx]
theorem mergeV_ok {a b c d : ByteArray} (h : mergeE a b c d = 0) : mergeV a b c d = .tuple #[rg a d, .int .i64 0] := by
  unfold mergeV; rw [h]; rfl

set_option maxHeartbeats 1600000 in
theorem mergeRef_any (a b c d : ByteArray) (w : World) : Calls Try.prog 15 #[rg a b, rg c d] w fun e w' => e = .returned (mergeV a b c d) ∧ Below w.heap.size w w' := by
  obtain ⟨r, hr⟩ : ∃ r, r = mergeV a b c d := ⟨_, rfl⟩
  rw [← hr]
  have HR := hide hr
  clear hr
  go_enter Try.func15, Try.ntmps15
  go_wp2_with fail
  refine name_calls (fun w1 hw1 => ?_)
  have k2 : Blk w1 w.heap.size [.string a, .string b] := by rw [hw1]; exact (by (repeat first | exact Blk.new _ _ _ _ (by simp) | refine Blk.alloc ?_ _))
  have k3 : Blk w1 (w.heap.size + 1) [.string c, .string d] := by rw [hw1]; exact (by (repeat first | exact Blk.new _ _ _ _ (by simp) | refine Blk.alloc ?_ _))
  have k4 : Blk w1 (w.heap.size + 2) [.string es, .string es] := by rw [hw1]; exact (by (repeat first | exact Blk.new _ _ _ _ (by simp) | refine Blk.alloc ?_ _))
  have hb1 : Below w.heap.size w w1 := by rw [hw1]; exact (by (repeat first | refine Below.setCell ?_ (by first | omega | (dsimp only; omega) | (simp only [heap_drew, World.size_alloc, Gz.size_setCell]; omega)) _ | refine Below.alloc ?_ (by first | omega | (dsimp only; omega) | (simp only [heap_drew, World.size_alloc, Gz.size_setCell]; omega)) _ | refine Below.drew ?_); exact Below.refl _ _)
  clear hw1
  refine (checkRef_any a b w1).mono ?_
  rintro e w2 ⟨rfl, hb2⟩
  have k2 := k2.ext hb2
  have k3 := k3.ext hb2
  have k4 := k4.ext hb2
  have c3 := k3.cell
  have hb2 := hb1.trans (hb2.mono hb1.size)
  by_cases h0 : chk a b = 0
  · have H0 := Lib.hid h0
    rw [h0]
    clear h0
    go_wp2_with fail
    refine (checkRef_any c d w2).mono ?_
    rintro e w3 ⟨rfl, hb3⟩
    have k2 := k2.ext hb3
    have k3 := k3.ext hb3
    have k4 := k4.ext hb3
    have hb3 := hb2.trans (hb3.mono hb2.size)
    clear c3
    by_cases h1 : chk c d = 0
    · have H1 := Lib.hid h1
      rw [h1]
      clear h1
      have HE := Lib.hid (show mergeE a b c d = if bl b = [] ∨ ¬ bl b = bl c then 133 else 0 by unfold mergeE; rw [if_neg (by simp [H0.out]), if_neg (by simp [H1.out])])
      have c2 := k2.cell
      have c3 := k3.cell
      by_cases g1 : bl b = []
      · have e1 := emT g1
        go_wp2_with (with_reducible refine stop_store ?_)
        refine hide (wpList_store_blk rfl 23 (.tmp 4) (.tmp 27) rfl (w.heap.size + 2) [.string es, .string es] rfl rfl _ k4 rfl (by kernel_rfl) rfl ?_)
        intro w8 k8 hg8 hz8
        go_wp2
        refine bodyPost_ret (v := .tuple #[rg es es, .int .i64 133]) ?_ rfl ⟨by rw [HR.out, mergeV_no (show mergeE a b c d = 133 by rw [HE.out, if_pos (.inl g1)]) (by decide)], below_grown hb3 hg8 (by omega) k4.lt⟩
        simp [results, Try.results15, go_sem, k8.cell]
      have e1 := emF g1
      by_cases g2 : bl b = bl c
      · have e2 := eqT g2
        have hbc : b = c := bl_inj g2
        have HX := Lib.hid (show mergeE a b c d = 0 by rw [HE.out, if_neg (fun h => h.elim g1 (fun h => h g2))])
        subst hbc
        go_wp2_with (with_reducible refine stop_store ?_)
        refine hide (wpList_store_blk rfl 23 (.tmp 4) (.tmp 32) rfl (w.heap.size + 2) [.string a, .string d] rfl rfl _ k4 rfl (by kernel_rfl) rfl ?_)
        intro w8 k8 hg8 hz8
        go_wp2
        refine bodyPost_ret (v := .tuple #[rg a d, .int .i64 0]) ?_ rfl ⟨by rw [HR.out, mergeV_ok HX.out], below_grown hb3 hg8 (by omega) k4.lt⟩
        simp [results, Try.results15, go_sem, k8.cell]
      · have e2 := eqF g2
        have e2' : ¬ b = c := fun e => g2 (by rw [e])
        go_wp2_with (with_reducible refine stop_store ?_)
        refine hide (wpList_store_blk rfl 23 (.tmp 4) (.tmp 27) rfl (w.heap.size + 2) [.string es, .string es] rfl rfl _ k4 rfl (by kernel_rfl) rfl ?_)
        intro w8 k8 hg8 hz8
        go_wp2
        refine bodyPost_ret (v := .tuple #[rg es es, .int .i64 133]) ?_ rfl ⟨by rw [HR.out, mergeV_no (show mergeE a b c d = 133 by rw [HE.out, if_pos (.inr g2)]) (by decide)], below_grown hb3 hg8 (by omega) k4.lt⟩
        simp [results, Try.results15, go_sem, k8.cell]
    · have e0 : (chk c d == 0) = false := by simp [h1]
      have e0' : (chk c d != 0) = true := by simp [h1]
      have HX := Lib.hid (show mergeV a b c d = .tuple #[rg es es, .int .i64 (chk c d)] from mergeV_no (by unfold mergeE; rw [if_neg (by simp [H0.out]), if_pos h1]) h1)
      clear h1
      go_wp2_with (with_reducible refine stop_store ?_)
      refine hide (wpList_store_blk rfl 23 (.tmp 4) (.tmp 15) rfl (w.heap.size + 2) [.string es, .string es] rfl rfl _ k4 rfl (by kernel_rfl) rfl ?_)
      intro w8 k8 hg8 hz8
      go_wp2
      refine bodyPost_ret (v := .tuple #[rg es es, .int .i64 (chk c d)]) ?_ rfl ⟨by rw [HR.out, HX.out], below_grown hb3 hg8 (by omega) k4.lt⟩
      simp [results, Try.results15, go_sem, k8.cell]
  · have e0 : (chk a b == 0) = false := by simp [h0]
    have e0' : (chk a b != 0) = true := by simp [h0]
    have HX := Lib.hid (show mergeV a b c d = .tuple #[rg es es, .int .i64 (chk a b)] from mergeV_no (by unfold mergeE; rw [if_pos h0]) h0)
    clear h0
    go_wp2_with (with_reducible refine stop_store ?_)
    refine hide (wpList_store_blk rfl 23 (.tmp 4) (.tmp 15) rfl (w.heap.size + 2) [.string es, .string es] rfl rfl _ k4 rfl (by kernel_rfl) rfl ?_)
    intro w8 k8 hg8 hz8
    go_wp2
    refine bodyPost_ret (v := .tuple #[rg es es, .int .i64 (chk a b)]) ?_ rfl ⟨by rw [HR.out, HX.out], below_grown hb2 hg8 (by omega) k4.lt⟩
    simp [results, Try.results15, go_sem, k8.cell]

set_option maxHeartbeats 1600000 in
theorem merge_any (a b c d : ByteArray) (w : World) : Calls Try.prog 14 #[rg a b, rg c d] w fun e w' => e = .returned (mergeV a b c d) ∧ Below w.heap.size w w' := by
  obtain ⟨r, hr⟩ : ∃ r, r = mergeV a b c d := ⟨_, rfl⟩
  rw [← hr]
  have HR := hide hr
  clear hr
  go_enter Try.func14, Try.ntmps14
  go_wp2_with fail
  refine name_world (fun w1 hw1 => ?_)
  have k2 : Blk w1 w.heap.size [.string a, .string b] := by rw [hw1]; exact (by (repeat first | exact Blk.new _ _ _ _ (by simp) | refine Blk.alloc ?_ _))
  have k3 : Blk w1 (w.heap.size + 1) [.string c, .string d] := by rw [hw1]; exact (by (repeat first | exact Blk.new _ _ _ _ (by simp) | refine Blk.alloc ?_ _))
  have k4 : Blk w1 (w.heap.size + 2) [.string es, .string es] := by rw [hw1]; exact (by (repeat first | exact Blk.new _ _ _ _ (by simp) | refine Blk.alloc ?_ _))
  have hb1 : Below w.heap.size w w1 := by rw [hw1]; exact (by (repeat first | refine Below.setCell ?_ (by first | omega | (dsimp only; omega) | (simp only [heap_drew, World.size_alloc, Gz.size_setCell]; omega)) _ | refine Below.alloc ?_ (by first | omega | (dsimp only; omega) | (simp only [heap_drew, World.size_alloc, Gz.size_setCell]; omega)) _ | refine Below.drew ?_); exact Below.refl _ _)
  have k11 : Blk w1 (w.heap.size + 3) [.string a, .string b, .string c, .string d] := by rw [hw1]; exact (by (repeat first | exact Blk.new _ _ _ _ (by simp) | refine Blk.alloc ?_ _))
  have hz1 : w1.heap.size = w.heap.size + 4 := by rw [hw1]; simp
  clear hw1
  have K2 := hide k2
  have K3 := hide k3
  have K4 := hide k4
  have K11 := hide k11
  clear k2 k3 k4 k11
  go_loopw [13] (fun iv wr => ∃ j : Nat, iv = .int .i64 j ∧ j ≤ 2 ∧ (0 < j → chk a b = 0) ∧ (1 < j → chk c d = 0) ∧ Below w1.heap.size w1 wr) (fun iv _ => (2 - RowKit.intOf iv).toNat)
  case atStart => exact ⟨0, rfl, by omega, by omega, by omega, Below.refl _ _⟩
  case round =>
    obtain ⟨j, rfl, hj, ha, hc, hbr⟩ := hrel
    have HA := hide ha
    have HC := hide hc
    clear ha hc
    have hbw := hb1.trans (hbr.mono hb1.size)
    have k2 := K2.out.ext hbr
    have k3 := K3.out.ext hbr
    have k4 := K4.out.ext hbr
    have k11 := K11.out.ext hbr
    have c11 := k11.cell
    by_cases j0 : j = 0
    · subst j0
      go_wp2_with fail
      refine name_calls (fun w2 hw2 => ?_)
      have k4 : Blk w2 (w.heap.size + 2) [.string es, .string es] := by rw [hw2]; exact k4.alloc _
      have hbr2 : Below w1.heap.size w1 w2 := by rw [hw2]; exact hbr.alloc hbr.size _
      clear hw2 c11
      refine (check_any a b w2).mono ?_
      rintro e w3 ⟨rfl, hb3⟩
      have k4 := k4.ext hb3
      have hbr3 := hbr2.trans (hb3.mono hbr2.size)
      have hbw3 := hb1.trans (hbr3.mono hb1.size)
      by_cases h0 : chk a b = 0
      · have H0 := Lib.hid h0
        rw [h0]
        clear h0
        go_wp2
        go_roundw
        case rel => exact ⟨1, rfl, by omega, fun _ => H0.out, by omega, hbr3⟩
        case measure => simp [RowKit.intOf]
      · have e0 : (chk a b == 0) = false := by simp [h0]
        have e0' : (chk a b != 0) = true := by simp [h0]
        have HX := Lib.hid (show mergeV a b c d = .tuple #[rg es es, .int .i64 (chk a b)] from mergeV_no (by unfold mergeE; rw [if_pos h0]) h0)
        clear h0
        go_wp2_with (with_reducible refine stop_store ?_)
        refine hide (wpList_store_blk rfl 23 (.tmp 4) (.tmp 21) rfl (w.heap.size + 2) [.string es, .string es] rfl rfl _ k4 rfl (by kernel_rfl) rfl ?_)
        intro w8 k8 hg8 hz8
        go_wp2
        refine bodyPost_ret (v := .tuple #[rg es es, .int .i64 (chk a b)]) ?_ rfl ⟨by rw [HR.out, HX.out], below_grown hbw3 hg8 (by omega) k4.lt⟩
        simp [results, Try.results14, go_sem, k8.cell]
    by_cases j1 : j = 1
    · subst j1
      go_wp2_with fail
      refine name_calls (fun w2 hw2 => ?_)
      have k4 : Blk w2 (w.heap.size + 2) [.string es, .string es] := by rw [hw2]; exact k4.alloc _
      have hbr2 : Below w1.heap.size w1 w2 := by rw [hw2]; exact hbr.alloc hbr.size _
      clear hw2 c11
      refine (check_any c d w2).mono ?_
      rintro e w3 ⟨rfl, hb3⟩
      have k4 := k4.ext hb3
      have hbr3 := hbr2.trans (hb3.mono hbr2.size)
      have hbw3 := hb1.trans (hbr3.mono hb1.size)
      by_cases h0 : chk c d = 0
      · have H0 := Lib.hid h0
        rw [h0]
        clear h0
        go_wp2
        go_roundw
        case rel => exact ⟨2, rfl, by omega, fun _ => HA.out (by omega), fun _ => H0.out, hbr3⟩
        case measure => simp [RowKit.intOf]
      · have e0 : (chk c d == 0) = false := by simp [h0]
        have e0' : (chk c d != 0) = true := by simp [h0]
        have HX := Lib.hid (show mergeV a b c d = .tuple #[rg es es, .int .i64 (chk c d)] from mergeV_no (by unfold mergeE; rw [if_neg (by simp [HA.out (by omega)]), if_pos h0]) h0)
        clear h0
        go_wp2_with (with_reducible refine stop_store ?_)
        refine hide (wpList_store_blk rfl 23 (.tmp 4) (.tmp 21) rfl (w.heap.size + 2) [.string es, .string es] rfl rfl _ k4 rfl (by kernel_rfl) rfl ?_)
        intro w8 k8 hg8 hz8
        go_wp2
        refine bodyPost_ret (v := .tuple #[rg es es, .int .i64 (chk c d)]) ?_ rfl ⟨by rw [HR.out, HX.out], below_grown hbw3 hg8 (by omega) k4.lt⟩
        simp [results, Try.results14, go_sem, k8.cell]
    · obtain rfl : j = 2 := by omega
      have H0 := Lib.hid (HA.out (by omega))
      have H1 := Lib.hid (HC.out (by omega))
      clear c11
      have HE := Lib.hid (show mergeE a b c d = if bl b = [] ∨ ¬ bl b = bl c then 133 else 0 by unfold mergeE; rw [if_neg (by simp [H0.out]), if_neg (by simp [H1.out])])
      have c2 := k2.cell
      have c3 := k3.cell
      by_cases g1 : bl b = []
      · have e1 := emT g1
        go_wp2_with (with_reducible refine stop_store ?_)
        refine hide (wpList_store_blk rfl 23 (.tmp 4) (.tmp 36) rfl (w.heap.size + 2) [.string es, .string es] rfl rfl _ k4 rfl (by kernel_rfl) rfl ?_)
        intro w8 k8 hg8 hz8
        go_wp2
        refine bodyPost_ret (v := .tuple #[rg es es, .int .i64 133]) ?_ rfl ⟨by rw [HR.out, mergeV_no (show mergeE a b c d = 133 by rw [HE.out, if_pos (.inl g1)]) (by decide)], below_grown hbw hg8 (by omega) k4.lt⟩
        simp [results, Try.results14, go_sem, k8.cell]
      have e1 := emF g1
      by_cases g2 : bl b = bl c
      · have e2 := eqT g2
        have hbc : b = c := bl_inj g2
        have HX := Lib.hid (show mergeE a b c d = 0 by rw [HE.out, if_neg (fun h => h.elim g1 (fun h => h g2))])
        subst hbc
        go_wp2_with (with_reducible refine stop_store ?_)
        refine hide (wpList_store_blk rfl 23 (.tmp 4) (.tmp 41) rfl (w.heap.size + 2) [.string a, .string d] rfl rfl _ k4 rfl (by kernel_rfl) rfl ?_)
        intro w8 k8 hg8 hz8
        go_wp2
        refine bodyPost_ret (v := .tuple #[rg a d, .int .i64 0]) ?_ rfl ⟨by rw [HR.out, mergeV_ok HX.out], below_grown hbw hg8 (by omega) k4.lt⟩
        simp [results, Try.results14, go_sem, k8.cell]
      · have e2 := eqF g2
        have e2' : ¬ b = c := fun e => g2 (by rw [e])
        go_wp2_with (with_reducible refine stop_store ?_)
        refine hide (wpList_store_blk rfl 23 (.tmp 4) (.tmp 36) rfl (w.heap.size + 2) [.string es, .string es] rfl rfl _ k4 rfl (by kernel_rfl) rfl ?_)
        intro w8 k8 hg8 hz8
        go_wp2
        refine bodyPost_ret (v := .tuple #[rg es es, .int .i64 133]) ?_ rfl ⟨by rw [HR.out, mergeV_no (show mergeE a b c d = 133 by rw [HE.out, if_pos (.inr g2)]) (by decide)], below_grown hbw hg8 (by omega) k4.lt⟩
        simp [results, Try.results14, go_sem, k8.cell]
end Go.Proofs.Ytbpmpnifelbaaaa

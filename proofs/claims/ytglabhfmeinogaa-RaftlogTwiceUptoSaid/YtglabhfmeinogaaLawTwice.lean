/- RaftlogTwice: the law's walk. -/
import Derived.Test.YtglabhfmeinogaaLMerged
namespace Go.Proofs.Ytglabhfmeinogaa
open Go.RowKit Go.Gz
attribute [local go_sem] World.cell?_alloc_some frozen?_alloc_some

set_option maxRecDepth 100000 in
set_option maxHeartbeats 8000000 in
theorem lawTwice_any (bi bt : Int) (A : Option Addr) (na ca : Nat) (B : Option Addr) (nb cb : Nat) (D : Option Addr) (nd cd : Nat) (O : Option Addr) (n c : Nat) (l k z : List Int) (xs : List Ent) (cm ix tm : Int) (M : Option Addr) (m mc : Nat) (more : List Ent) (w : World)
    (h : IsLog w A B D O na nb nd n l k z xs) (hf : ∀ x ∈ xs, Fits x) (hna : na * 8 ≤ 140737488355328) (hnb : nb * 8 ≤ 140737488355328) (hnd : nd ≤ 140737488355328) (hb0 : 0 ≤ bi) (hb1 : bi < 18446744073709551616)
    (hM : IsEs w M m more) (hfm : ∀ x ∈ more, Fits x) (hmc : m ≤ mc) (hns : n ≤ 1048576) (hms : m ≤ 1048576) (hi0 : 0 ≤ ix) (hi1 : ix < 18446744073709551616) :
    Calls Try.prog 7 #[.agg #[.int .u64 bi, .int .u64 bt, .slice A na ca, .slice B nb cb, .slice D nd cd, .slice O n c, .int .u64 cm, .int .u64 ix, .int .u64 tm, .slice M m mc]] w fun e w' => e = .returned (.bool true) ∧ Below w.heap.size w w' := by
  have H := Lib.hid h
  have HF := Lib.hid hf
  have HM := Lib.hid hM
  have HFM := Lib.hid hfm
  have hxl := h.2.len
  have hml := hM.len
  clear h hf hM hfm
  go_enter Try.func7, Try.ntmps7
  go_wp2_with fail
  refine name_calls (fun w1 hw1 => ?_)
  have k1 : Blk w1 w.heap.size [.int .u64 bi, .int .u64 bt, .slice A na ca, .slice B nb cb, .slice D nd cd, .slice O n c, .int .u64 cm, .int .u64 ix, .int .u64 tm, .slice M m mc] := by rw [hw1]; exact Blk.new _ _ _ _ rfl
  have hb1' : Below w.heap.size w w1 := by rw [hw1]; exact (by (repeat first | refine Below.setCell ?_ (by first | omega | (dsimp only; omega) | (simp only [heap_drew, World.size_alloc, Gz.size_setCell]; omega)) _ | refine Below.alloc ?_ (by first | omega | (dsimp only; omega) | (simp only [heap_drew, World.size_alloc, Gz.size_setCell]; omega)) _ | refine Below.drew ?_); exact Below.refl _ _)
  clear hw1
  refine (head_any w1).mono ?_
  rintro e w2 ⟨rfl, hb2⟩
  have k1 := k1.ext hb2
  have hb2 := hb1'.trans (hb2.mono hb1'.size)
  have c1 := k1.cell
  go_wp2_with fail
  refine (checkX_any bi bt A na ca B nb cb D nd cd O n c xs w2 (H.out.2.below hb2) (by omega) hb0 hb1).mono ?_
  rintro e w3 ⟨rfl, hb3⟩
  have k1 := k1.ext hb3
  have k1lt : w.heap.size < w3.heap.size := k1.lt
  have hb3 := hb2.trans (hb3.mono hb2.size)
  obtain ⟨b, hb⟩ : ∃ b, b = chkB bi bt xs := ⟨_, rfl⟩
  rw [← hb]
  have HB := Lib.hid hb
  clear hb c1
  cases b with
  | false =>
    go_wp2
    go_ret
    exact ⟨rfl, hb3⟩
  | true =>
    have HRUN := Lib.hid (show runB bi bt xs = true by have := HB.out; simp only [chkB] at this; exact (Bool.and_eq_true_iff.1 this.symm).2)
    have HRT := Lib.hid (right_of_run HRUN.out)
    have c1 := k1.cell
    go_wp2_with fail
    refine (merge_any bi bt A na ca B nb cb D nd cd O n c l k z xs cm ix tm M m mc more w3 (H.out.below hb3) HF.out hna hnb hnd HRT.out (HM.out.below hb3) HFM.out hmc (by omega) hi0 hi1).mono ?_
    rintro e w4 ⟨hb4, hm⟩
    have k1 := k1.ext hb4
    have hz4 := hb4.size
    have hb4 := hb3.trans (hb4.mono hb3.size)
    clear c1
    rcases merge_ok HRT.out hxl hml HF.out HFM.out hm with ⟨_, E, hE, rfl⟩ | ⟨hmay, ys, v, cut, C, q, cc, hMg, hfy, hyl, hv, rfl, _, _⟩
    · have hE0 : (E != 0) = true := bne_iff_ne.2 hE
      clear hm
      go_wp2_with (with_reducible refine stop_store ?_)
      refine hide (name_list (fun w5 hw5 => ?_))
      have hbw : Below w4.heap.size w4 w5 := by rw [hw5]; exact below_alloc_one _ _
      have k5 : Blk w5 w4.heap.size [.int .u64 0, .int .u64 0, .slice none 0 0, .slice none 0 0, .slice none 0 0, .slice none 0 0] := by rw [hw5]; exact Blk.new _ _ _ _ rfl
      have hz5 : w5.heap.size = w4.heap.size + 1 := by rw [hw5]; simp
      clear hw5
      have hb5 := hb4.trans (hbw.mono hb4.size)
      refine hide (wpList_store_blk rfl 31 (.tmp 5) (.tmp 36) rfl w4.heap.size [.int .u64 0, .int .u64 0, .slice none 0 0, .slice none 0 0, .slice none 0 0, .slice none 0 0] rfl rfl _ k5 rfl (by kernel_rfl) rfl ?_)
      intro w6 k6 hg6 hz6
      have hb6 := below_grown hb5 hg6 (by omega) (by omega)
      clear hg6 hz6 hz5 k6 k5
      go_wp2
      go_ret
      exact ⟨rfl, hb6⟩
    · obtain ⟨A4, a4, B4, b4, D4, d4, O4, c4, rfl, hos, hoe⟩ := hv
      have HMG := Lib.hid hMg
      have HMAY := Lib.hid hmay
      have HFY := Lib.hid hfy
      obtain ⟨y, hy⟩ : ∃ y, y = ys.length := ⟨_, rfl⟩
      rw [← hy] at hyl hoe ⊢
      have HY := Lib.hid hy
      clear hm hMg hmay hfy hy
      go_wp2_with (with_reducible refine stop_store ?_)
      refine hide (name_list (fun w5 hw5 => ?_))
      have hbw : Below w4.heap.size w4 w5 := by rw [hw5]; exact below_alloc_one _ _
      have k5 : BlkT w5 w4.heap.size 31 [.int .u64 0, .int .u64 0, .slice none 0 0, .slice none 0 0, .slice none 0 0, .slice none 0 0] := by rw [hw5]; exact BlkT.new _ _ _
      have hz5 : w5.heap.size = w4.heap.size + 1 := by rw [hw5]; simp
      clear hw5
      have k1 := k1.ext hbw
      have hos := hos.below hbw
      have hoe := hoe.below hbw
      have hb5 := hb4.trans (hbw.mono hb4.size)
      refine hide (wpList_store_partT rfl 31 (.tmp 5) (.tmp 36) rfl w4.heap.size 0 31 _ [.int .u64 bi, .int .u64 bt, .slice A4 na a4, .slice B4 nb b4, .slice D4 nd d4, .slice O4 y c4] rfl rfl rfl _ k5 (by simp) (by kernel_rfl) rfl _ rfl ?_)
      intro w6 k5' hg6 hz6
      have hs6 := SameBut.of_blk k5 hg6
      have k1 := blk_grown k1 hg6 (by omega)
      have hos := hos.sameBut hs6 (by decide) (by decide)
      have hoe := hoe.sameBut hs6 (by decide) (by decide) (by decide)
      have HIS := Lib.hid (show IsLog w6 A4 B4 D4 O4 na nb nd y l k z ys from ⟨hos.is, hoe.is⟩)
      have hb6 := below_grown hb5 hg6 (by omega) (by omega)
      clear k5 hs6 hos hoe
      have k5 := k5'
      simp only [List.take_succ_cons, List.take_zero, List.drop_succ_cons, List.drop_zero, List.cons_append, List.nil_append, List.length_cons, List.length_nil] at k5
      clear k5'
      have c1 := k1.cell
      have c5 := k5.blk.cell
      clear hg6
      go_wp2_with fail
      refine (merge_any bi bt A4 na a4 B4 nb b4 D4 nd d4 O4 y c4 l k z ys cm ix tm M m mc more w6 HIS.out HFY.out hna hnb hnd HMG.out.1 (HM.out.below hb6) HFM.out hmc (by omega) hi0 hi1).mono ?_
      rintro e w7 ⟨hb7, hm⟩
      obtain ⟨v, hv, rfl⟩ := twice_ok HMAY.out.1 HMG.out hm
      obtain ⟨A7, a7, B7, b7, D7, d7, O7, c7, rfl, hos, hoe⟩ := hv
      have k5 := k5.below hb7
      have HIS := Lib.hid (HIS.out.below hb7)
      have hz7 := hb7.size
      have hb7 := hb6.trans (hb7.mono hb6.size)
      clear hm c1 c5
      go_wp2_with (with_reducible refine stop_store ?_)
      refine hide (name_list (fun w8 hw8 => ?_))
      have hbw : Below w7.heap.size w7 w8 := by rw [hw8]; exact below_alloc_one _ _
      have k9 : BlkT w8 w7.heap.size 31 [.int .u64 0, .int .u64 0, .slice none 0 0, .slice none 0 0, .slice none 0 0, .slice none 0 0] := by rw [hw8]; exact BlkT.new _ _ _
      have hz8 : w8.heap.size = w7.heap.size + 1 := by rw [hw8]; simp
      clear hw8
      have hos := hos.below hbw
      have hoe := hoe.below hbw
      have hb8 := hb7.trans (hbw.mono hb7.size)
      refine hide (wpList_store_partT rfl 31 (.tmp 9) (.tmp 53) rfl w7.heap.size 0 31 _ [.int .u64 bi, .int .u64 bt, .slice A7 na a7, .slice B7 nb b7, .slice D7 nd d7, .slice O7 y c7] rfl rfl rfl _ k9 (by simp) (by kernel_rfl) rfl _ rfl ?_)
      intro w9 k9' hg9 hz9
      have hs9 := SameBut.of_blk k9 hg9
      have hos := hos.sameBut hs9 (by decide) (by decide)
      have hoe := hoe.sameBut hs9 (by decide) (by decide) (by decide)
      have HIS2 := Lib.hid (show IsLog w9 A7 B7 D7 O7 na nb nd y l k z ys from ⟨hos.is, hoe.is⟩)
      have hb9 := below_grown hb8 hg9 (by omega) (by omega)
      have hb79 : Below w7.heap.size w7 w9 := below_grown hbw hg9 (by omega) (by omega)
      have k5 := k5.below hb79
      have HIS := Lib.hid (HIS.out.below hb79)
      have k9 := k9'
      simp only [List.take_succ_cons, List.take_zero, List.drop_succ_cons, List.drop_zero, List.cons_append, List.nil_append, List.length_cons, List.length_nil] at k9
      have c5 := k5.blk.cell
      have c9 := k9.blk.cell
      clear hs9 hos hoe k9' hg9 hz9 hz8
      go_wp2_with fail
      refine (sameLog_any bi bt A4 na a4 B4 nb b4 D4 nd d4 O4 y c4 A7 a7 B7 b7 D7 d7 O7 c7 l k z ys w9 HIS.out HIS2.out HFY.out (by omega) (by omega) (by omega)).mono ?_
      rintro e w10 ⟨rfl, hb10⟩
      go_wp2
      go_ret
      exact ⟨rfl, hb9.trans (hb10.mono hb9.size)⟩
end Go.Proofs.Ytglabhfmeinogaa

/- Contracts of the document's Meet and Merge, and of the program's Merge. -/
import Derived.Test.YtbpmpnifelbaaaaKMeet
namespace Go.Proofs.Ytbpmpnifelbaaaa
open Go.RowKit Go.Gz Go.Lib
attribute [local go_sem] World.cell?_alloc_some frozen?_alloc_some run_max_strs

set_option maxHeartbeats 1600000 in
theorem meetRef_any (a b c d : ByteArray) (w : World) : Calls Try.prog 16 #[rg a b, rg c d] w fun e w' => e = .returned (meetV a b c d) ∧ Below w.heap.size w w' := by
  obtain ⟨r, hr⟩ : ∃ r, r = meetV a b c d := ⟨_, rfl⟩
  rw [← hr]
  have HR := hide hr
  clear hr
  go_enter Try.func16, Try.ntmps16
  go_wp2_with fail
  refine name_calls (fun w1 hw1 => ?_)
  have k2 : Blk w1 w.heap.size [.string a, .string b] := by rw [hw1]; exact ((Blk.new _ _ _ _ rfl).alloc _).alloc _
  have k3 : Blk w1 (w.heap.size + 1) [.string c, .string d] := by rw [hw1]; exact (Blk.new _ _ _ _ (by simp)).alloc _
  have k4 : Blk w1 (w.heap.size + 2) [.string es, .string es] := by rw [hw1]; exact Blk.new _ _ _ _ (by simp)
  have hb1 : Below w.heap.size w w1 := by rw [hw1]; exact (by (repeat first | refine Below.setCell ?_ (by first | omega | (dsimp only; omega) | (simp only [heap_drew, World.size_alloc, Gz.size_setCell]; omega)) _ | refine Below.alloc ?_ (by first | omega | (dsimp only; omega) | (simp only [heap_drew, World.size_alloc, Gz.size_setCell]; omega)) _ | refine Below.drew ?_); exact Below.refl _ _)
  clear hw1
  refine (checkRef_any a b w1).mono ?_
  rintro e w2 ⟨rfl, hb2⟩
  have k2 := k2.ext hb2
  have k3 := k3.ext hb2
  have k4 := k4.ext hb2
  have c3 := k3.cell
  have hb2 := hb1.trans (hb2.mono hb1.size)
  clear hb1
  by_cases h0 : chk a b = 0
  · have H0 := Lib.hid h0
    rw [h0]
    clear h0
    go_wp2_with fail
    refine (checkRef_any c d w2).mono ?_
    rintro e w3 ⟨rfl, hb3⟩
    have k2 := k2.ext hb3
    have k3 := k3.ext hb3
    have k4 := k4.ext hb3
    have hb3 := hb2.trans (hb3.mono hb2.size)
    clear c3
    by_cases h1 : chk c d = 0
    · have H1 := Lib.hid h1
      rw [h1]
      clear h1
      have c2 := k2.cell
      have c3 := k3.cell
      go_wp2_with (with_reducible refine stop_store ?_)
      refine hide (wpList_store_blk rfl 23 (.tmp 6) (.tmp 23) rfl w3.heap.size [.string (maxS a c), .string b] rfl rfl _ (Blk.new w3 _ [.string es, .string es] _ rfl) rfl (by kernel_rfl) rfl ?_)
      intro w5 k6 hg5 hz5
      have hz5 : w5.heap.size = w3.heap.size + 1 := by rw [hz5]; simp
      have hlt4 := k4.lt
      have k2 := blk_grown (k2.alloc _) hg5 (by have := k2.lt; omega)
      have k3 := blk_grown (k3.alloc _) hg5 (by have := k3.lt; omega)
      have k4 := blk_grown (k4.alloc _) hg5 (by omega)
      have hb5 : Below w.heap.size w w5 := below_grown (hb3.alloc hb3.size _) hg5 hb3.size (by simp)
      clear c2 c3
      have c2 := k2.cell
      have c3 := k3.cell
      by_cases g1 : bl b = []
      · have e1 := emT g1
        have hl : least b d = d := by unfold least; rw [if_pos (.inl g1)]
        have HL := Lib.hid hl
        clear hl
        have c6 := k6.cell
        go_wp2_with (with_reducible refine stop_store ?_)
        refine hide (wpList_store_part rfl 9 (.tmp 41) (.tmp 40) rfl w3.heap.size 1 _ [.string d] rfl rfl rfl _ k6 (by simp) (by kernel_rfl) rfl [.string (maxS a c), .string (least b d)] (by rw [HL.out]; rfl) ?_)
        intro w55 k6' hg55 hz55
        have k4 := blk_grown k4 hg55 (by omega)
        have hb5 := below_grown hb5 hg55 hb3.size k6.lt
        have k6 := k6'
        have c6 := k6.cell
        go_wp2_with fail
        refine (checkRef_any (maxS a c) (least b d) w55).mono ?_
        rintro e w6 ⟨rfl, hb6⟩
        have k4 := k4.ext hb6
        have k6 := k6.ext hb6
        have hb6 := hb5.trans (hb6.mono hb5.size)
        clear c6
        by_cases h2 : chk (maxS a c) (least b d) = 0
        · have HX := Lib.hid (meetV_ok ⟨H0.out, H1.out, h2⟩)
          rw [h2]
          have c6 := k6.cell
          go_wp2_with (with_reducible refine stop_store ?_)
          refine hide (wpList_store_blk rfl 23 (.tmp 4) (.tmp 46) rfl (w.heap.size + 2) [.string (maxS a c), .string (least b d)] rfl rfl _ k4 rfl (by kernel_rfl) rfl ?_)
          intro w8 k8 hg8 hz8
          go_wp2
          refine bodyPost_ret (v := .tuple #[rg (maxS a c) (least b d), .bool true]) ?_ rfl ⟨by rw [HR.out, HX.out], below_grown hb6 hg8 (by omega) k4.lt⟩
          simp [results, Try.results16, go_sem, k8.cell]
        · have e0 : (chk (maxS a c) (least b d) == 0) = false := by simp [h2]
          have e0' : (chk (maxS a c) (least b d) != 0) = true := by simp [h2]
          have HX := Lib.hid (show meetV a b c d = .tuple #[rg es es, .bool false] from meetV_no (fun h => h2 (by exact h.2.2)))
          clear h2
          go_wp2_with (with_reducible refine stop_store ?_)
          refine hide (wpList_store_blk rfl 23 (.tmp 4) (.tmp 45) rfl (w.heap.size + 2) [.string es, .string es] rfl rfl _ k4 rfl (by kernel_rfl) rfl ?_)
          intro w8 k8 hg8 hz8
          go_wp2
          refine bodyPost_ret (v := .tuple #[rg es es, .bool false]) ?_ rfl ⟨by rw [HR.out, HX.out], below_grown hb6 hg8 (by omega) k4.lt⟩
          simp [results, Try.results16, go_sem, k8.cell]
      have e1 := emF g1
      by_cases g2 : bl d = []
      · have e2 := emT g2
        have hl : least b d = b := by unfold least; rw [if_neg (by simp [g1, g2])]
        have HL := Lib.hid hl
        clear hl
        have k6 : Blk w5 w3.heap.size [.string (maxS a c), .string (least b d)] := by rw [HL.out]; exact k6
        have hb5 : Below w.heap.size w w5 := hb5
        have c6 := k6.cell
        go_wp2_with fail
        refine (checkRef_any (maxS a c) (least b d) w5).mono ?_
        rintro e w6 ⟨rfl, hb6⟩
        have k4 := k4.ext hb6
        have k6 := k6.ext hb6
        have hb6 := hb5.trans (hb6.mono hb5.size)
        clear c6
        by_cases h2 : chk (maxS a c) (least b d) = 0
        · have HX := Lib.hid (meetV_ok ⟨H0.out, H1.out, h2⟩)
          rw [h2]
          have c6 := k6.cell
          go_wp2_with (with_reducible refine stop_store ?_)
          refine hide (wpList_store_blk rfl 23 (.tmp 4) (.tmp 46) rfl (w.heap.size + 2) [.string (maxS a c), .string (least b d)] rfl rfl _ k4 rfl (by kernel_rfl) rfl ?_)
          intro w8 k8 hg8 hz8
          go_wp2
          refine bodyPost_ret (v := .tuple #[rg (maxS a c) (least b d), .bool true]) ?_ rfl ⟨by rw [HR.out, HX.out], below_grown hb6 hg8 (by omega) k4.lt⟩
          simp [results, Try.results16, go_sem, k8.cell]
        · have e0 : (chk (maxS a c) (least b d) == 0) = false := by simp [h2]
          have e0' : (chk (maxS a c) (least b d) != 0) = true := by simp [h2]
          have HX := Lib.hid (show meetV a b c d = .tuple #[rg es es, .bool false] from meetV_no (fun h => h2 (by exact h.2.2)))
          clear h2
          go_wp2_with (with_reducible refine stop_store ?_)
          refine hide (wpList_store_blk rfl 23 (.tmp 4) (.tmp 45) rfl (w.heap.size + 2) [.string es, .string es] rfl rfl _ k4 rfl (by kernel_rfl) rfl ?_)
          intro w8 k8 hg8 hz8
          go_wp2
          refine bodyPost_ret (v := .tuple #[rg es es, .bool false]) ?_ rfl ⟨by rw [HR.out, HX.out], below_grown hb6 hg8 (by omega) k4.lt⟩
          simp [results, Try.results16, go_sem, k8.cell]
      have e2 := emF g2
      by_cases g3 : bl d < bl b
      · have e3 := ltT g3
        have hl : least b d = d := by unfold least; rw [if_pos (.inr ⟨g2, g3⟩)]
        have HL := Lib.hid hl
        clear hl
        have c6 := k6.cell
        go_wp2_with (with_reducible refine stop_store ?_)
        refine hide (wpList_store_part rfl 9 (.tmp 41) (.tmp 40) rfl w3.heap.size 1 _ [.string d] rfl rfl rfl _ k6 (by simp) (by kernel_rfl) rfl [.string (maxS a c), .string (least b d)] (by rw [HL.out]; rfl) ?_)
        intro w55 k6' hg55 hz55
        have k4 := blk_grown k4 hg55 (by omega)
        have hb5 := below_grown hb5 hg55 hb3.size k6.lt
        have k6 := k6'
        have c6 := k6.cell
        go_wp2_with fail
        refine (checkRef_any (maxS a c) (least b d) w55).mono ?_
        rintro e w6 ⟨rfl, hb6⟩
        have k4 := k4.ext hb6
        have k6 := k6.ext hb6
        have hb6 := hb5.trans (hb6.mono hb5.size)
        clear c6
        by_cases h2 : chk (maxS a c) (least b d) = 0
        · have HX := Lib.hid (meetV_ok ⟨H0.out, H1.out, h2⟩)
          rw [h2]
          have c6 := k6.cell
          go_wp2_with (with_reducible refine stop_store ?_)
          refine hide (wpList_store_blk rfl 23 (.tmp 4) (.tmp 46) rfl (w.heap.size + 2) [.string (maxS a c), .string (least b d)] rfl rfl _ k4 rfl (by kernel_rfl) rfl ?_)
          intro w8 k8 hg8 hz8
          go_wp2
          refine bodyPost_ret (v := .tuple #[rg (maxS a c) (least b d), .bool true]) ?_ rfl ⟨by rw [HR.out, HX.out], below_grown hb6 hg8 (by omega) k4.lt⟩
          simp [results, Try.results16, go_sem, k8.cell]
        · have e0 : (chk (maxS a c) (least b d) == 0) = false := by simp [h2]
          have e0' : (chk (maxS a c) (least b d) != 0) = true := by simp [h2]
          have HX := Lib.hid (show meetV a b c d = .tuple #[rg es es, .bool false] from meetV_no (fun h => h2 (by exact h.2.2)))
          clear h2
          go_wp2_with (with_reducible refine stop_store ?_)
          refine hide (wpList_store_blk rfl 23 (.tmp 4) (.tmp 45) rfl (w.heap.size + 2) [.string es, .string es] rfl rfl _ k4 rfl (by kernel_rfl) rfl ?_)
          intro w8 k8 hg8 hz8
          go_wp2
          refine bodyPost_ret (v := .tuple #[rg es es, .bool false]) ?_ rfl ⟨by rw [HR.out, HX.out], below_grown hb6 hg8 (by omega) k4.lt⟩
          simp [results, Try.results16, go_sem, k8.cell]
      · have e3 := ltF g3
        have hl : least b d = b := by unfold least; rw [if_neg (fun h => h.elim g1 (fun h => g3 h.2))]
        have HL := Lib.hid hl
        clear hl
        have k6 : Blk w5 w3.heap.size [.string (maxS a c), .string (least b d)] := by rw [HL.out]; exact k6
        have hb5 : Below w.heap.size w w5 := hb5
        have c6 := k6.cell
        go_wp2_with fail
        refine (checkRef_any (maxS a c) (least b d) w5).mono ?_
        rintro e w6 ⟨rfl, hb6⟩
        have k4 := k4.ext hb6
        have k6 := k6.ext hb6
        have hb6 := hb5.trans (hb6.mono hb5.size)
        clear c6
        by_cases h2 : chk (maxS a c) (least b d) = 0
        · have HX := Lib.hid (meetV_ok ⟨H0.out, H1.out, h2⟩)
          rw [h2]
          have c6 := k6.cell
          go_wp2_with (with_reducible refine stop_store ?_)
          refine hide (wpList_store_blk rfl 23 (.tmp 4) (.tmp 46) rfl (w.heap.size + 2) [.string (maxS a c), .string (least b d)] rfl rfl _ k4 rfl (by kernel_rfl) rfl ?_)
          intro w8 k8 hg8 hz8
          go_wp2
          refine bodyPost_ret (v := .tuple #[rg (maxS a c) (least b d), .bool true]) ?_ rfl ⟨by rw [HR.out, HX.out], below_grown hb6 hg8 (by omega) k4.lt⟩
          simp [results, Try.results16, go_sem, k8.cell]
        · have e0 : (chk (maxS a c) (least b d) == 0) = false := by simp [h2]
          have e0' : (chk (maxS a c) (least b d) != 0) = true := by simp [h2]
          have HX := Lib.hid (show meetV a b c d = .tuple #[rg es es, .bool false] from meetV_no (fun h => h2 (by exact h.2.2)))
          clear h2
          go_wp2_with (with_reducible refine stop_store ?_)
          refine hide (wpList_store_blk rfl 23 (.tmp 4) (.tmp 45) rfl (w.heap.size + 2) [.string es, .string es] rfl rfl _ k4 rfl (by kernel_rfl) rfl ?_)
          intro w8 k8 hg8 hz8
          go_wp2
          refine bodyPost_ret (v := .tuple #[rg es es, .bool false]) ?_ rfl ⟨by rw [HR.out, HX.out], below_grown hb6 hg8 (by omega) k4.lt⟩
          simp [results, Try.results16, go_sem, k8.cell]
    · have e0 : (chk c d == 0) = false := by simp [h1]
      have e0' : (chk c d != 0) = true := by simp [h1]
      have HX := Lib.hid (show meetV a b c d = .tuple #[rg es es, .bool false] from meetV_no (fun h => h1 (by exact h.2.1)))
      clear h1
      go_wp2_with (with_reducible refine stop_store ?_)
      refine hide (wpList_store_blk rfl 23 (.tmp 4) (.tmp 15) rfl (w.heap.size + 2) [.string es, .string es] rfl rfl _ k4 rfl (by kernel_rfl) rfl ?_)
      intro w8 k8 hg8 hz8
      go_wp2
      refine bodyPost_ret (v := .tuple #[rg es es, .bool false]) ?_ rfl ⟨by rw [HR.out, HX.out], below_grown hb3 hg8 (by omega) k4.lt⟩
      simp [results, Try.results16, go_sem, k8.cell]
  · have e0 : (chk a b == 0) = false := by simp [h0]
    have e0' : (chk a b != 0) = true := by simp [h0]
    have HX := Lib.hid (show meetV a b c d = .tuple #[rg es es, .bool false] from meetV_no (fun h => h0 (by exact h.1)))
    clear h0
    go_wp2_with (with_reducible refine stop_store ?_)
    refine hide (wpList_store_blk rfl 23 (.tmp 4) (.tmp 15) rfl (w.heap.size + 2) [.string es, .string es] rfl rfl _ k4 rfl (by kernel_rfl) rfl ?_)
    intro w8 k8 hg8 hz8
    go_wp2
    refine bodyPost_ret (v := .tuple #[rg es es, .bool false]) ?_ rfl ⟨by rw [HR.out, HX.out], below_grown hb2 hg8 (by omega) k4.lt⟩
    simp [results, Try.results16, go_sem, k8.cell]
end Go.Proofs.Ytbpmpnifelbaaaa

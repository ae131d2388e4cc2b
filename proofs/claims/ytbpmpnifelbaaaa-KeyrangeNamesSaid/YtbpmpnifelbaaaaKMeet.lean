/- Contracts of Meet, the program's and the document's. -/
import Derived.Test.YtbpmpnifelbaaaaKCut
namespace Go.Proofs.Ytbpmpnifelbaaaa
open Go.RowKit Go.Gz Go.Lib
attribute [local go_sem] World.cell?_alloc_some frozen?_alloc_some run_max_strs

/-- Meet's answer. -/
def meetV (a b c d : ByteArray) : Value := .tuple #[rg (meet a b c d).1 (meet a b c d).2.1, .bool (meet a b c d).2.2]
theorem meetV_no {a b c d : ByteArray} (h : ¬ (chk a b = 0 ∧ chk c d = 0 ∧ chk (maxS a c) (least b d) = 0)) : meetV a b c d = .tuple #[rg es es, .bool false] := by
  unfold meetV meet; rw [if_neg h]
theorem meetV_ok {a b c d : ByteArray} (h : chk a b = 0 ∧ chk c d = 0 ∧ chk (maxS a c) (least b d) = 0) : meetV a b c d = .tuple #[rg (maxS a c) (least b d), .bool true] := by
  unfold meetV meet; rw [if_pos h]

set_option maxHeartbeats 1600000 in
theorem meet_any (a b c d : ByteArray) (w : World) : Calls Try.prog 10 #[rg a b, rg c d] w fun e w' => e = .returned (meetV a b c d) ∧ Below w.heap.size w w' := by
  obtain ⟨r, hr⟩ : ∃ r, r = meetV a b c d := ⟨_, rfl⟩
  rw [← hr]
  have HR := hide hr
  clear hr
  go_enter Try.func10, Try.ntmps10
  go_wp2_with fail
  refine name_calls (fun w1 hw1 => ?_)
  have k2 : Blk w1 w.heap.size [.string a, .string b] := by rw [hw1]; exact ((Blk.new _ _ _ _ rfl).alloc _).alloc _
  have k3 : Blk w1 (w.heap.size + 1) [.string c, .string d] := by rw [hw1]; exact (Blk.new _ _ _ _ (by simp)).alloc _
  have k4 : Blk w1 (w.heap.size + 2) [.string es, .string es] := by rw [hw1]; exact Blk.new _ _ _ _ (by simp)
  have hb1 : Below w.heap.size w w1 := by rw [hw1]; exact (by (repeat first | refine Below.setCell ?_ (by first | omega | (dsimp only; omega) | (simp only [heap_drew, World.size_alloc, Gz.size_setCell]; omega)) _ | refine Below.alloc ?_ (by first | omega | (dsimp only; omega) | (simp only [heap_drew, World.size_alloc, Gz.size_setCell]; omega)) _ | refine Below.drew ?_); exact Below.refl _ _)
  clear hw1
  refine (check_any a b w1).mono ?_
  rintro e w2 ⟨rfl, hb2⟩
  have k2 := k2.ext hb2
  have k3 := k3.ext hb2
  have k4 := k4.ext hb2
  have c3 := k3.cell
  have hb2 := hb1.trans (hb2.mono hb1.size)
  clear hb1
  by_cases h0 : chk a b = 0
  · have H0 := Lib.hid h0
    rw [h0]
    clear h0
    go_wp2_with fail
    refine (check_any c d w2).mono ?_
    rintro e w3 ⟨rfl, hb3⟩
    have k2 := k2.ext hb3
    have k3 := k3.ext hb3
    have k4 := k4.ext hb3
    have hb3 := hb2.trans (hb3.mono hb2.size)
    clear c3
    by_cases h1 : chk c d = 0
    · have H1 := Lib.hid h1
      rw [h1]
      clear h1
      have c2 := k2.cell
      have c3 := k3.cell
      go_wp2_with fail
      refine wp_region_phase 12 (S := Ext w3) (by kernel_rfl) rfl (by kernel_rfl) (fun hS => ?_) Ext.start
      simp only [List.take_succ_cons, List.take_zero, List.drop_succ_cons, List.drop_zero]
      refine take_at (i := 0) (oi := _) (dst := some 16) (v := ?_) rfl rfl (by kernel_rfl) (by kernel_rfl) (by kernel_rfl) (fun _ _ _ h => h) (Or.inl ⟨by rfl, by intro w hSw; (try dsimp only at hSw); go_simp; (try with_reducible rfl)⟩) (by assumption) ?_; (try simp only [Act.put, List.setIfInBounds_toArray, List.set_cons_zero, List.set_cons_succ])
      refine take_at (i := 1) (oi := _) (dst := some 17) (v := ?_) rfl rfl (by kernel_rfl) (by kernel_rfl) (by kernel_rfl) (fun _ _ _ h => h) (Or.inl ⟨by rfl, by intro w hSw; (try dsimp only at hSw); go_simp; (try with_reducible rfl)⟩) (by assumption) ?_; (try simp only [Act.put, List.setIfInBounds_toArray, List.set_cons_zero, List.set_cons_succ])
      refine take_at (i := 2) (oi := _) (dst := some 18) (v := ?_) rfl rfl (by kernel_rfl) (by kernel_rfl) (by kernel_rfl) (fun _ _ _ h => h) (Or.inl ⟨by rfl, by intro w hSw; (try dsimp only at hSw); go_simp; (try with_reducible rfl)⟩) (by assumption) ?_; (try simp only [Act.put, List.setIfInBounds_toArray, List.set_cons_zero, List.set_cons_succ])
      refine take_at (i := 3) (oi := _) (dst := some 19) (v := ?_) rfl rfl (by kernel_rfl) (by kernel_rfl) (by kernel_rfl) (fun _ _ _ h => h) (Or.inl ⟨by rfl, by intro w hSw; (try dsimp only at hSw); go_simp; (try with_reducible rfl)⟩) (by assumption) ?_; (try simp only [Act.put, List.setIfInBounds_toArray, List.set_cons_zero, List.set_cons_succ])
      refine take_at (i := 4) (oi := _) (dst := some 20) (v := ?_) rfl rfl (by kernel_rfl) (by kernel_rfl) (by kernel_rfl) (fun _ _ _ h => h) (Or.inl ⟨by rfl, by intro w hSw; (try dsimp only at hSw); go_simp; (try with_reducible rfl)⟩) (by assumption) ?_; (try simp only [Act.put, List.setIfInBounds_toArray, List.set_cons_zero, List.set_cons_succ])
      refine take_at (i := 5) (oi := _) (dst := some 21) (v := ?_) rfl rfl (by kernel_rfl) (by kernel_rfl) (by kernel_rfl) (fun _ _ _ h => h) (Or.inl ⟨by rfl, by intro w hSw; (try dsimp only at hSw); go_simp; (try with_reducible rfl)⟩) (by assumption) ?_; (try simp only [Act.put, List.setIfInBounds_toArray, List.set_cons_zero, List.set_cons_succ])
      refine take_at (i := 6) (oi := _) (dst := some 22) (v := ?_) rfl rfl (by kernel_rfl) (by kernel_rfl) (by kernel_rfl) (fun _ _ _ h => h) (Or.inl ⟨by rfl, by intro w hSw; (try dsimp only at hSw); go_simp; (try with_reducible rfl)⟩) (by assumption) ?_; (try simp only [Act.put, List.setIfInBounds_toArray, List.set_cons_zero, List.set_cons_succ])
      refine take_at (i := 7) (oi := _) (dst := some 23) (v := ?_) rfl rfl (by kernel_rfl) (by kernel_rfl) (by kernel_rfl) (fun _ _ _ h => h) (Or.inl ⟨by rfl, by intro w hSw; (try dsimp only at hSw); go_simp; (try with_reducible rfl)⟩) (by assumption) ?_; (try simp only [Act.put, List.setIfInBounds_toArray, List.set_cons_zero, List.set_cons_succ])
      refine take_at (i := 8) (oi := _) (dst := some 24) (v := ?_) rfl rfl (by kernel_rfl) (by kernel_rfl) (by kernel_rfl) (fun _ _ _ h => h) (Or.inl ⟨by rfl, by intro w hSw; (try dsimp only at hSw); go_simp; (try with_reducible rfl)⟩) (by assumption) ?_; (try simp only [Act.put, List.setIfInBounds_toArray, List.set_cons_zero, List.set_cons_succ])
      refine wpAnyH_ready (rs := [9, 11]) (by kernel_rfl) (by simp) ?_
      refine AllReadyH.cons (o := _) rfl (fun K hK => ?_) (AllReadyH.cons (o := _) rfl (fun K hK => ?_) AllReadyH.nil)
      · go_simp
        refine (least_any b d _).mono ?_
        rintro e _ ⟨rfl, rfl⟩
        refine hK.out _ _ hS (fun hS5 => ?_)
        clear hK
        refine take_at (i := 10) (oi := _) (dst := some 26) (v := ?_) rfl rfl (by kernel_rfl) (by kernel_rfl) (by kernel_rfl) (fun _ _ _ h => h) (Or.inl ⟨by rfl, by intro w hSw; (try dsimp only at hSw); go_simp; (try with_reducible rfl)⟩) (by assumption) ?_; (try simp only [Act.put, List.setIfInBounds_toArray, List.set_cons_zero, List.set_cons_succ])
        refine wpAnyH_ready (rs := [11]) (by kernel_rfl) (by simp) ?_; refine AllReadyH.cons (o := _) rfl (fun K hK => ?_) AllReadyH.nil; go_simp
        refine hK.out _ _ (Ext.alloc hS _) (fun hS6 => ?_)
        clear hK
        refine wpAnyH_done (by kernel_rfl) ?_ _
        go_wp2_with (with_reducible refine stop_store ?_)
        refine hide (wpList_store_blk rfl 23 (.tmp 6) (.tmp 26) rfl w3.heap.size [.string (maxS a c), .string (least b d)] rfl rfl _ (Blk.new w3.drew _ [.string es, .string es] _ rfl) rfl (by kernel_rfl) rfl ?_)
        intro w5 k6 hg5 hz5
        have hz5 : w5.heap.size = w3.heap.size + 1 := by rw [hz5]; simp
        have k4 := blk_grown (k4.drew.alloc _) hg5 (by have := k4.lt; omega)
        have hb5 : Below w.heap.size w w5 := below_grown (hb3.drew.alloc hb3.size _) hg5 hb3.size (by simp)
        have c6 := k6.cell
        go_wp2_with fail
        refine (check_any (maxS a c) (least b d) w5).mono ?_
        rintro e w6 ⟨rfl, hb6⟩
        have k4 := k4.ext hb6
        have k6 := k6.ext hb6
        have hb6 := hb5.trans (hb6.mono hb5.size)
        clear c6
        by_cases h2 : chk (maxS a c) (least b d) = 0
        · have HX := Lib.hid (meetV_ok ⟨H0.out, H1.out, h2⟩)
          rw [h2]
          have c6 := k6.cell
          go_wp2_with (with_reducible refine stop_store ?_)
          refine hide (wpList_store_blk rfl 23 (.tmp 4) (.tmp 31) rfl (w.heap.size + 2) [.string (maxS a c), .string (least b d)] rfl rfl _ k4 rfl (by kernel_rfl) rfl ?_)
          intro w8 k8 hg8 hz8
          go_wp2
          refine bodyPost_ret (v := .tuple #[rg (maxS a c) (least b d), .bool true]) ?_ rfl ⟨by rw [HR.out, HX.out], below_grown hb6 hg8 (by omega) k4.lt⟩
          simp [results, Try.results10, go_sem, k8.cell]
        · have e0 : (chk (maxS a c) (least b d) == 0) = false := by simp [h2]
          have e0' : (chk (maxS a c) (least b d) != 0) = true := by simp [h2]
          have HX := Lib.hid (show meetV a b c d = .tuple #[rg es es, .bool false] from meetV_no (fun h => h2 (by exact h.2.2)))
          clear h2
          go_wp2_with (with_reducible refine stop_store ?_)
          refine hide (wpList_store_blk rfl 23 (.tmp 4) (.tmp 30) rfl (w.heap.size + 2) [.string es, .string es] rfl rfl _ k4 rfl (by kernel_rfl) rfl ?_)
          intro w8 k8 hg8 hz8
          go_wp2
          refine bodyPost_ret (v := .tuple #[rg es es, .bool false]) ?_ rfl ⟨by rw [HR.out, HX.out], below_grown hb6 hg8 (by omega) k4.lt⟩
          simp [results, Try.results10, go_sem, k8.cell]
      · go_simp
        refine hK.out _ _ (Ext.alloc hS _) (fun hS5 => ?_)
        clear hK
        refine wpAnyH_ready (rs := [9]) (by kernel_rfl) (by simp) ?_; refine AllReadyH.cons (o := _) rfl (fun K hK => ?_) AllReadyH.nil; go_simp
        refine (least_any b d _).mono ?_
        rintro e _ ⟨rfl, rfl⟩
        refine hK.out _ _ hS5 (fun hS6 => ?_)
        clear hK
        refine take_at (i := 10) (oi := _) (dst := some 26) (v := ?_) rfl rfl (by kernel_rfl) (by kernel_rfl) (by kernel_rfl) (fun _ _ _ h => h) (Or.inl ⟨by rfl, by intro w hSw; (try dsimp only at hSw); go_simp; (try with_reducible rfl)⟩) (by assumption) ?_; (try simp only [Act.put, List.setIfInBounds_toArray, List.set_cons_zero, List.set_cons_succ])
        refine wpAnyH_done (by kernel_rfl) ?_ _
        go_wp2_with (with_reducible refine stop_store ?_)
        refine hide (wpList_store_blk rfl 23 (.tmp 6) (.tmp 26) rfl w3.heap.size [.string (maxS a c), .string (least b d)] rfl rfl _ (Blk.new w3.drew _ [.string es, .string es] _ rfl) rfl (by kernel_rfl) rfl ?_)
        intro w5 k6 hg5 hz5
        have hz5 : w5.heap.size = w3.heap.size + 1 := by rw [hz5]; simp
        have k4 := blk_grown (k4.drew.alloc _) hg5 (by have := k4.lt; omega)
        have hb5 : Below w.heap.size w w5 := below_grown (hb3.drew.alloc hb3.size _) hg5 hb3.size (by simp)
        have c6 := k6.cell
        go_wp2_with fail
        refine (check_any (maxS a c) (least b d) w5).mono ?_
        rintro e w6 ⟨rfl, hb6⟩
        have k4 := k4.ext hb6
        have k6 := k6.ext hb6
        have hb6 := hb5.trans (hb6.mono hb5.size)
        clear c6
        by_cases h2 : chk (maxS a c) (least b d) = 0
        · have HX := Lib.hid (meetV_ok ⟨H0.out, H1.out, h2⟩)
          rw [h2]
          have c6 := k6.cell
          go_wp2_with (with_reducible refine stop_store ?_)
          refine hide (wpList_store_blk rfl 23 (.tmp 4) (.tmp 31) rfl (w.heap.size + 2) [.string (maxS a c), .string (least b d)] rfl rfl _ k4 rfl (by kernel_rfl) rfl ?_)
          intro w8 k8 hg8 hz8
          go_wp2
          refine bodyPost_ret (v := .tuple #[rg (maxS a c) (least b d), .bool true]) ?_ rfl ⟨by rw [HR.out, HX.out], below_grown hb6 hg8 (by omega) k4.lt⟩
          simp [results, Try.results10, go_sem, k8.cell]
        · have e0 : (chk (maxS a c) (least b d) == 0) = false := by simp [h2]
          have e0' : (chk (maxS a c) (least b d) != 0) = true := by simp [h2]
          have HX := Lib.hid (show meetV a b c d = .tuple #[rg es es, .bool false] from meetV_no (fun h => h2 (by exact h.2.2)))
          clear h2
          go_wp2_with (with_reducible refine stop_store ?_)
          refine hide (wpList_store_blk rfl 23 (.tmp 4) (.tmp 30) rfl (w.heap.size + 2) [.string es, .string es] rfl rfl _ k4 rfl (by kernel_rfl) rfl ?_)
          intro w8 k8 hg8 hz8
          go_wp2
          refine bodyPost_ret (v := .tuple #[rg es es, .bool false]) ?_ rfl ⟨by rw [HR.out, HX.out], below_grown hb6 hg8 (by omega) k4.lt⟩
          simp [results, Try.results10, go_sem, k8.cell]
    · have e0 : (chk c d == 0) = false := by simp [h1]
      have e0' : (chk c d != 0) = true := by simp [h1]
      have HX := Lib.hid (show meetV a b c d = .tuple #[rg es es, .bool false] from meetV_no (fun h => h1 (by exact h.2.1)))
      clear h1
      go_wp2_with (with_reducible refine stop_store ?_)
      refine hide (wpList_store_blk rfl 23 (.tmp 4) (.tmp 15) rfl (w.heap.size + 2) [.string es, .string es] rfl rfl _ k4 rfl (by kernel_rfl) rfl ?_)
      intro w8 k8 hg8 hz8
      go_wp2
      refine bodyPost_ret (v := .tuple #[rg es es, .bool false]) ?_ rfl ⟨by rw [HR.out, HX.out], below_grown hb3 hg8 (by omega) k4.lt⟩
      simp [results, Try.results10, go_sem, k8.cell]
  · have e0 : (chk a b == 0) = false := by simp [h0]
    have e0' : (chk a b != 0) = true := by simp [h0]
    have HX := Lib.hid (show meetV a b c d = .tuple #[rg es es, .bool false] from meetV_no (fun h => h0 (by exact h.1)))
    clear h0
    go_wp2_with (with_reducible refine stop_store ?_)
    refine hide (wpList_store_blk rfl 23 (.tmp 4) (.tmp 15) rfl (w.heap.size + 2) [.string es, .string es] rfl rfl _ k4 rfl (by kernel_rfl) rfl ?_)
    intro w8 k8 hg8 hz8
    go_wp2
    refine bodyPost_ret (v := .tuple #[rg es es, .bool false]) ?_ rfl ⟨by rw [HR.out, HX.out], below_grown hb2 hg8 (by omega) k4.lt⟩
    simp [results, Try.results10, go_sem, k8.cell]
end Go.Proofs.Ytbpmpnifelbaaaa

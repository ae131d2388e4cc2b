/- Contracts of the document's Split. -/
import Derived.Test.YtbpmpnifelbaaaaKCut
namespace Go.Proofs.Ytbpmpnifelbaaaa
open Go.RowKit Go.Gz Go.Lib
attribute [local go_sem] World.cell?_alloc_some frozen?_alloc_some
set_option maxHeartbeats 800000 in
theorem splitRef_any (lo hi k : ByteArray) (w : World) : Calls Try.prog 13 #[rg lo hi, .string k] w fun e w' => e = .returned (splitV lo hi k) ∧ Below w.heap.size w w' := by
  obtain ⟨r, hr⟩ : ∃ r, r = splitV lo hi k := ⟨_, rfl⟩
  rw [← hr]
  have HR := hide hr
  clear hr
  go_enter Try.func13, Try.ntmps13
  go_wp2_with fail
  refine name_calls (fun w1 hw1 => ?_)
  have k2 : Blk w1 w.heap.size [.string lo, .string hi] := by rw [hw1]; exact ((Blk.new _ _ _ _ rfl).alloc _).alloc _
  have k4 : Blk w1 (w.heap.size + 1) [.string es, .string es] := by rw [hw1]; exact (Blk.new _ _ _ _ (by simp)).alloc _
  have k5 : Blk w1 (w.heap.size + 2) [.string es, .string es] := by rw [hw1]; exact Blk.new _ _ _ _ (by simp)
  have hb1 : Below w.heap.size w w1 := by rw [hw1]; exact (by (repeat first | refine Below.setCell ?_ (by first | omega | (dsimp only; omega) | (simp only [heap_drew, World.size_alloc, Gz.size_setCell]; omega)) _ | refine Below.alloc ?_ (by first | omega | (dsimp only; omega) | (simp only [heap_drew, World.size_alloc, Gz.size_setCell]; omega)) _ | refine Below.drew ?_); exact Below.refl _ _)
  clear hw1
  refine (checkRef_any lo hi w1).mono ?_
  rintro e w2 ⟨rfl, hb2⟩
  have k2 := k2.ext hb2
  have k4 := k4.ext hb2
  have k4' := k4
  have k5 := k5.ext hb2
  have c2 := k2.cell
  have hb2 := hb1.trans (hb2.mono hb1.size)
  clear hb1
  by_cases h0 : chk lo hi = 0
  · have H0 := Lib.hid h0
    rw [h0]
    clear h0
    by_cases h1 : 32 < k.size
    · have i1 : (32 : Int) < (k.size : Int) := by omega
      have HX := Lib.hid (show splitE lo hi k = 131 by unfold splitE; rw [if_neg (by simp [H0.out]), if_pos h1])
      go_wp2_with (with_reducible refine stop_store ?_)
      refine hide (wpList_store_blk rfl 23 (.tmp 4) (.tmp 19) rfl (w.heap.size + 1) [.string es, .string es] rfl rfl _ k4 rfl (by kernel_rfl) rfl ?_)
      intro w8 k4 hg8 hz8
      have k5 := blk_grown k5 hg8 (by omega)
      have hb8 := below_grown hb2 hg8 (by omega) k4'.lt
      go_wp2_with (with_reducible refine stop_store ?_)
      refine hide (wpList_store_blk rfl 23 (.tmp 5) (.tmp 20) rfl (w.heap.size + 2) [.string es, .string es] rfl rfl _ k5 rfl (by kernel_rfl) rfl ?_)
      intro w9 k6 hg9 hz9
      have k4 := blk_grown k4 hg9 (by omega)
      have hb9 := below_grown hb8 hg9 (by omega) k5.lt
      go_wp2
      refine bodyPost_ret (v := .tuple #[rg es es, rg es es, .int .i64 131]) ?_ rfl ⟨by rw [HR.out, splitV_no HX.out (by decide)], hb9⟩
      simp [results, Try.results13, go_sem, k4.cell, k6.cell]
    · have i1 : ¬ (32 : Int) < (k.size : Int) := by omega
      go_wp2_with fail
      refine (hasRef_any lo hi k w2).mono ?_
      rintro e w3 ⟨rfl, hb3⟩
      have k2 := k2.ext hb3
      have k4 := k4.ext hb3
      have k4' := k4
      have k5 := k5.ext hb3
      have hb2 := hb2.trans (hb3.mono hb2.size)
      have c2 := k2.cell
      cases hh : has lo hi k with
      | false =>
        have HX := Lib.hid (show splitE lo hi k = 132 by unfold splitE; rw [if_neg (by simp [H0.out]), if_neg h1, if_pos (.inr hh)])
        by_cases h2 : bl lo < bl k
        · have e2 := ltF (a := k) (b := lo) (by grind)
          have e2' : ¬ k.toList = lo.toList := by rw [Lib.toList_data, Lib.toList_data]; intro e; have e : bl k = bl lo := e; grind
          have e3 := leF h2
          go_wp2_with (with_reducible refine stop_store ?_)
          refine hide (wpList_store_blk rfl 23 (.tmp 4) (.tmp 32) rfl (w.heap.size + 1) [.string es, .string es] rfl rfl _ k4 rfl (by kernel_rfl) rfl ?_)
          intro w8 k4 hg8 hz8
          have k5 := blk_grown k5 hg8 (by omega)
          have hb8 := below_grown hb2 hg8 (by omega) k4'.lt
          go_wp2_with (with_reducible refine stop_store ?_)
          refine hide (wpList_store_blk rfl 23 (.tmp 5) (.tmp 33) rfl (w.heap.size + 2) [.string es, .string es] rfl rfl _ k5 rfl (by kernel_rfl) rfl ?_)
          intro w9 k6 hg9 hz9
          have k4 := blk_grown k4 hg9 (by omega)
          have hb9 := below_grown hb8 hg9 (by omega) k5.lt
          go_wp2
          refine bodyPost_ret (v := .tuple #[rg es es, rg es es, .int .i64 132]) ?_ rfl ⟨by rw [HR.out, splitV_no HX.out (by decide)], hb9⟩
          simp [results, Try.results13, go_sem, k4.cell, k6.cell]
        · have e3 := leT h2
          go_wp2_with (with_reducible refine stop_store ?_)
          refine hide (wpList_store_blk rfl 23 (.tmp 4) (.tmp 32) rfl (w.heap.size + 1) [.string es, .string es] rfl rfl _ k4 rfl (by kernel_rfl) rfl ?_)
          intro w8 k4 hg8 hz8
          have k5 := blk_grown k5 hg8 (by omega)
          have hb8 := below_grown hb2 hg8 (by omega) k4'.lt
          go_wp2_with (with_reducible refine stop_store ?_)
          refine hide (wpList_store_blk rfl 23 (.tmp 5) (.tmp 33) rfl (w.heap.size + 2) [.string es, .string es] rfl rfl _ k5 rfl (by kernel_rfl) rfl ?_)
          intro w9 k6 hg9 hz9
          have k4 := blk_grown k4 hg9 (by omega)
          have hb9 := below_grown hb8 hg9 (by omega) k5.lt
          go_wp2
          refine bodyPost_ret (v := .tuple #[rg es es, rg es es, .int .i64 132]) ?_ rfl ⟨by rw [HR.out, splitV_no HX.out (by decide)], hb9⟩
          simp [results, Try.results13, go_sem, k4.cell, k6.cell]
      | true =>
        by_cases h2 : bl k = bl lo
        · have e3 := leT (a := k) (b := lo) (by grind)
          have HX := Lib.hid (show splitE lo hi k = 132 by unfold splitE; rw [if_neg (by simp [H0.out]), if_neg h1, if_pos (.inl h2)])
          go_wp2_with (with_reducible refine stop_store ?_)
          refine hide (wpList_store_blk rfl 23 (.tmp 4) (.tmp 32) rfl (w.heap.size + 1) [.string es, .string es] rfl rfl _ k4 rfl (by kernel_rfl) rfl ?_)
          intro w8 k4 hg8 hz8
          have k5 := blk_grown k5 hg8 (by omega)
          have hb8 := below_grown hb2 hg8 (by omega) k4'.lt
          go_wp2_with (with_reducible refine stop_store ?_)
          refine hide (wpList_store_blk rfl 23 (.tmp 5) (.tmp 33) rfl (w.heap.size + 2) [.string es, .string es] rfl rfl _ k5 rfl (by kernel_rfl) rfl ?_)
          intro w9 k6 hg9 hz9
          have k4 := blk_grown k4 hg9 (by omega)
          have hb9 := below_grown hb8 hg9 (by omega) k5.lt
          go_wp2
          refine bodyPost_ret (v := .tuple #[rg es es, rg es es, .int .i64 132]) ?_ rfl ⟨by rw [HR.out, splitV_no HX.out (by decide)], hb9⟩
          simp [results, Try.results13, go_sem, k4.cell, k6.cell]
        · have HX := Lib.hid (show splitE lo hi k = 0 by rw [splitE_zero]; exact ⟨hh, h2⟩)
          have e3 := leF (a := k) (b := lo) (by rw [has_iff] at hh; grind)
          have c2 := k2.cell
          go_wp2_with fail
          refine wp_region_held_drew (S := Two w.heap.size [.string lo, .string hi]) (by kernel_rfl) ⟨k2.cell, k2⟩ (fun hS => ?_)
          simp only [List.size_toArray, List.length_cons, List.length_nil]
          refine take_at (i := 0) (oi := _) (dst := some 34) (v := ?_) rfl rfl (by kernel_rfl) (by kernel_rfl) (by kernel_rfl) (fun _ _ _ h => h) (Or.inl ⟨by rfl, by intro w hSw; (try dsimp only at hSw); go_simp; (try with_reducible rfl)⟩) (by assumption) ?_; (try simp only [Act.put, List.setIfInBounds_toArray, List.set_cons_zero, List.set_cons_succ])
          refine take_at (i := 1) (oi := _) (dst := some 35) (v := ?_) rfl rfl (by kernel_rfl) (by kernel_rfl) (by kernel_rfl) (fun _ _ _ h => h) (Or.inl ⟨by rfl, by intro w hSw; (try dsimp only at hSw); go_simp; (try with_reducible rfl)⟩) (by assumption) ?_; (try simp only [Act.put, List.setIfInBounds_toArray, List.set_cons_zero, List.set_cons_succ])
          refine take_at (i := 2) (oi := _) (dst := some 36) (v := ?_) rfl rfl (by kernel_rfl) (by kernel_rfl) (by kernel_rfl) (fun _ _ _ h => h) (Or.inl ⟨by rfl, by intro w hSw; (try dsimp only at hSw); go_simp; (try with_reducible rfl)⟩) (by assumption) ?_; (try simp only [Act.put, List.setIfInBounds_toArray, List.set_cons_zero, List.set_cons_succ])
          refine take_at (i := 3) (oi := _) (dst := some 37) (v := ?_) rfl rfl (by kernel_rfl) (by kernel_rfl) (by kernel_rfl) (fun _ _ _ h => h) (Or.inl ⟨by rfl, by intro w hSw; (try dsimp only at hSw); go_simp; (try with_reducible rfl)⟩) (by assumption) ?_; (try simp only [Act.put, List.setIfInBounds_toArray, List.set_cons_zero, List.set_cons_succ])
          refine take_at (i := 4) (oi := _) (dst := some 38) (v := ?_) rfl rfl (by kernel_rfl) (by kernel_rfl) (by kernel_rfl) (fun _ _ _ h => h) (Or.inl ⟨by rfl, by intro w hSw; (try dsimp only at hSw); go_simp; (try with_reducible rfl)⟩) (by assumption) ?_; (try simp only [Act.put, List.setIfInBounds_toArray, List.set_cons_zero, List.set_cons_succ])
          refine take_at (i := 5) (oi := _) (dst := some 39) (v := ?_) rfl rfl (by kernel_rfl) (by kernel_rfl) (by kernel_rfl) (fun _ _ _ h => h) (Or.inl ⟨by rfl, by intro w hSw; (try dsimp only at hSw); go_simp; (try with_reducible rfl)⟩) (by assumption) ?_; (try simp only [Act.put, List.setIfInBounds_toArray, List.set_cons_zero, List.set_cons_succ])
          refine take_at (i := 6) (oi := _) (dst := some 40) (v := ?_) rfl rfl (by kernel_rfl) (by kernel_rfl) (by kernel_rfl) (fun _ _ _ h => h) (Or.inl ⟨by rfl, by intro w hSw; (try dsimp only at hSw); go_simp; (try with_reducible rfl)⟩) (by assumption) ?_; (try simp only [Act.put, List.setIfInBounds_toArray, List.set_cons_zero, List.set_cons_succ])
          refine take_at (i := 7) (oi := _) (dst := some 41) (v := ?_) rfl rfl (by kernel_rfl) (by kernel_rfl) (by kernel_rfl) (fun _ _ _ h => h) (Or.inl ⟨by rfl, by intro w hSw; (try dsimp only at hSw); go_simp; (try with_reducible rfl)⟩) (by assumption) ?_; (try simp only [Act.put, List.setIfInBounds_toArray, List.set_cons_zero, List.set_cons_succ])
          refine wpAnyH_ready (rs := [8]) (by kernel_rfl) (by simp) ?_; refine AllReadyH.cons (o := _) rfl (fun K hK => ?_) AllReadyH.nil
          refine step_store_part rfl rfl 23 (.tmp 4) (.tmp 37) rfl (w.heap.size + 1) 0 _ [.string lo, .string k] rfl rfl rfl _ k4.drew (by simp) (by kernel_rfl) rfl _ rfl ?_
          intro w6 k6 hg6 hz6
          have k2' := blk_grown k2.drew hg6 (by omega)
          have k5' := blk_grown k5.drew hg6 (by omega)
          refine hK.out _ _ ⟨k2'.cell, k2'⟩ (fun hS6 => ?_)
          clear hK
          simp only [Act.put, List.setIfInBounds_toArray, List.set_cons_zero, List.set_cons_succ]
          refine wpAnyH_ready (rs := [9]) (by kernel_rfl) (by simp) ?_; refine AllReadyH.cons (o := _) rfl (fun K hK => ?_) AllReadyH.nil
          refine step_store_part rfl rfl 23 (.tmp 5) (.tmp 41) rfl (w.heap.size + 2) 0 _ [.string k, .string hi] rfl rfl rfl _ k5' (by simp) (by kernel_rfl) rfl _ rfl ?_
          intro w7 k7 hg7 hz7
          have k2' := blk_grown k2' hg7 (by omega)
          have k6' := blk_grown k6 hg7 (by omega)
          refine hK.out _ _ ⟨k2'.cell, k2'⟩ (fun hS7 => ?_)
          clear hK
          simp only [Act.put, List.setIfInBounds_toArray, List.set_cons_zero, List.set_cons_succ]
          refine take_at (i := 10) (oi := _) (dst := some 6) (v := ?_) rfl rfl (by kernel_rfl) (by kernel_rfl) (by kernel_rfl) (fun _ _ _ h => h) (Or.inl ⟨by rfl, by intro w hSw; (try dsimp only at hSw); go_simp; (try with_reducible rfl)⟩) (by assumption) ?_; (try simp only [Act.put, List.setIfInBounds_toArray, List.set_cons_zero, List.set_cons_succ])
          refine wpAnyH_done (by kernel_rfl) ?_ _
          go_wp2
          refine bodyPost_ret (v := .tuple #[rg lo k, rg k hi, .int .i64 0]) ?_ rfl ⟨by rw [HR.out, splitV_ok HX.out], below_grown (below_grown hb2.drew hg6 (by omega) k4.drew.lt) hg7 (by omega) k5'.lt⟩
          simp [results, Try.results13, go_sem, k6'.cell, k7.cell]
  · have HX := Lib.hid (show splitE lo hi k = chk lo hi by unfold splitE; rw [if_pos h0])
    have H0 := Lib.hid h0
    have e0 : (chk lo hi == 0) = false := by simp [h0]
    have e0' : (chk lo hi != 0) = true := by simp [h0]
    clear h0
    go_wp2_with (with_reducible refine stop_store ?_)
    refine hide (wpList_store_blk rfl 23 (.tmp 4) (.tmp 13) rfl (w.heap.size + 1) [.string es, .string es] rfl rfl _ k4 rfl (by kernel_rfl) rfl ?_)
    intro w8 k4 hg8 hz8
    have k5 := blk_grown k5 hg8 (by omega)
    have hb8 := below_grown hb2 hg8 (by omega) k4'.lt
    go_wp2_with (with_reducible refine stop_store ?_)
    refine hide (wpList_store_blk rfl 23 (.tmp 5) (.tmp 14) rfl (w.heap.size + 2) [.string es, .string es] rfl rfl _ k5 rfl (by kernel_rfl) rfl ?_)
    intro w9 k6 hg9 hz9
    have k4 := blk_grown k4 hg9 (by omega)
    have hb9 := below_grown hb8 hg9 (by omega) k5.lt
    go_wp2
    refine bodyPost_ret (v := .tuple #[rg es es, rg es es, .int .i64 (chk lo hi)]) ?_ rfl ⟨by rw [HR.out, splitV_no HX.out H0.out], hb9⟩
    simp [results, Try.results13, go_sem, k4.cell, k6.cell]
end Go.Proofs.Ytbpmpnifelbaaaa

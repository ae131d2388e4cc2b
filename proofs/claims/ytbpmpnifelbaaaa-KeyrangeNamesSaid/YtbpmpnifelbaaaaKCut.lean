/- Contracts of Split, the program's and the document's. -/
import Derived.Test.YtbpmpnifelbaaaaKFn
import Derived.Test.YtbpmpnifelbaaaaStore
namespace Go.Proofs.Ytbpmpnifelbaaaa
open Go.RowKit Go.Gz Go.Lib
attribute [local go_sem] World.cell?_alloc_some frozen?_alloc_some

/-- What is handed back where there is no error. -/
def pk (x : Int) (s : ByteArray) : ByteArray := if x = 0 then s else es
theorem pk_ok (s : ByteArray) : pk 0 s = s := rfl
theorem pk_no {x : Int} (h : ¬ x = 0) (s : ByteArray) : pk x s = es := if_neg h
theorem below_grown {B : Nat} {w w1 w' : World} {g : Nat} (h : Below B w w1) (hg : w1.grownBy w' (some g)) (hB : B ≤ g) (hl : g < w1.heap.size) : Below B w w' := h.grown hg (by omega) (fun k hk => by injection hk with hk; omega)
theorem blk_grown {w w' : World} {g g' : Nat} {cs : List Value} (h : Blk w g cs) (hg : w.grownBy w' (some g')) (hne : ¬ g = g') : Blk w' g cs := h.grown hg (fun e => hne (by injection e))

/-- What a region keeps that writes two blocks of the call's own: what is read. -/
abbrev Two (g : Nat) (cs : List Value) (w : World) : Prop := (∀ i, w.cell? ⟨g, i, none⟩ = cs[i]?) ∧ Blk w g cs

/-- Split's answer, by its error. -/
def splitV (lo hi k : ByteArray) : Value := .tuple #[rg (pk (splitE lo hi k) lo) (pk (splitE lo hi k) k), rg (pk (splitE lo hi k) k) (pk (splitE lo hi k) hi), .int .i64 (splitE lo hi k)]
theorem splitV_no {lo hi k : ByteArray} {x : Int} (h : splitE lo hi k = x) (hx : ¬ x = 0) : splitV lo hi k = .tuple #[rg es es, rg es es, .int .i64 x] := by
  unfold splitV; rw [h, pk_no hx, pk_no hx, pk_no hx]
theorem splitV_ok {lo hi k : ByteArray} (h : splitE lo hi k = 0) : splitV lo hi k = .tuple #[rg lo k, rg k hi, .int .i64 0] := by
  unfold splitV; rw [h]; rfl

set_option maxHeartbeats 800000 in
theorem split_any (lo hi k : ByteArray) (w : World) : Calls Try.prog 12 #[rg lo hi, .string k] w fun e w' => e = .returned (splitV lo hi k) ∧ Below w.heap.size w w' := by
  obtain ⟨r, hr⟩ : ∃ r, r = splitV lo hi k := ⟨_, rfl⟩
  rw [← hr]
  have HR := hide hr
  clear hr
  go_enter Try.func12, Try.ntmps12
  go_wp2_with fail
  refine name_calls (fun w1 hw1 => ?_)
  have k2 : Blk w1 w.heap.size [.string lo, .string hi] := by rw [hw1]; exact ((Blk.new _ _ _ _ rfl).alloc _).alloc _
  have k4 : Blk w1 (w.heap.size + 1) [.string es, .string es] := by rw [hw1]; exact (Blk.new _ _ _ _ (by simp)).alloc _
  have k5 : Blk w1 (w.heap.size + 2) [.string es, .string es] := by rw [hw1]; exact Blk.new _ _ _ _ (by simp)
  have hb1 : Below w.heap.size w w1 := by rw [hw1]; exact (by (repeat first | refine Below.setCell ?_ (by first | omega | (dsimp only; omega) | (simp only [heap_drew, World.size_alloc, Gz.size_setCell]; omega)) _ | refine Below.alloc ?_ (by first | omega | (dsimp only; omega) | (simp only [heap_drew, World.size_alloc, Gz.size_setCell]; omega)) _ | refine Below.drew ?_); exact Below.refl _ _)
  clear hw1
  refine (check_any lo hi w1).mono ?_
  rintro e w2 ⟨rfl, hb2⟩
  have k2 := k2.ext hb2
  have k4 := k4.ext hb2
  have k4' := k4
  have k5 := k5.ext hb2
  have c2 := k2.cell
  have hb2 := hb1.trans (hb2.mono hb1.size)
  clear hb1
  by_cases h0 : chk lo hi = 0
  · have H0 := Lib.hid h0
    rw [h0]
    clear h0
    by_cases h1 : 32 < k.size
    · have i1 : (32 : Int) < (k.size : Int) := by omega
      have HX := Lib.hid (show splitE lo hi k = 131 by unfold splitE; rw [if_neg (by simp [H0.out]), if_pos h1])
      go_wp2_with (with_reducible refine stop_store ?_)
      refine hide (wpList_store_blk rfl 23 (.tmp 4) (.tmp 36) rfl (w.heap.size + 1) [.string es, .string es] rfl rfl _ k4 rfl (by kernel_rfl) rfl ?_)
      intro w8 k4 hg8 hz8
      have k5 := blk_grown k5 hg8 (by omega)
      have hb8 := below_grown hb2 hg8 (by omega) k4'.lt
      go_wp2_with (with_reducible refine stop_store ?_)
      refine hide (wpList_store_blk rfl 23 (.tmp 5) (.tmp 37) rfl (w.heap.size + 2) [.string es, .string es] rfl rfl _ k5 rfl (by kernel_rfl) rfl ?_)
      intro w9 k6 hg9 hz9
      have k4 := blk_grown k4 hg9 (by omega)
      have hb9 := below_grown hb8 hg9 (by omega) k5.lt
      go_wp2
      refine bodyPost_ret (v := .tuple #[rg es es, rg es es, .int .i64 131]) ?_ rfl ⟨by rw [HR.out, splitV_no HX.out (by decide)], hb9⟩
      simp [results, Try.results12, go_sem, k4.cell, k6.cell]
    · have i1 : ¬ (32 : Int) < (k.size : Int) := by omega
      by_cases h2 : bl k = bl lo
      · have e2 := eqT h2
        have HX := Lib.hid (show splitE lo hi k = 132 by unfold splitE; rw [if_neg (by simp [H0.out]), if_neg h1, if_pos (.inl h2)])
        go_wp2_with (with_reducible refine stop_store ?_)
        refine hide (wpList_store_blk rfl 23 (.tmp 4) (.tmp 36) rfl (w.heap.size + 1) [.string es, .string es] rfl rfl _ k4 rfl (by kernel_rfl) rfl ?_)
        intro w8 k4 hg8 hz8
        have k5 := blk_grown k5 hg8 (by omega)
        have hb8 := below_grown hb2 hg8 (by omega) k4'.lt
        go_wp2_with (with_reducible refine stop_store ?_)
        refine hide (wpList_store_blk rfl 23 (.tmp 5) (.tmp 37) rfl (w.heap.size + 2) [.string es, .string es] rfl rfl _ k5 rfl (by kernel_rfl) rfl ?_)
        intro w9 k6 hg9 hz9
        have k4 := blk_grown k4 hg9 (by omega)
        have hb9 := below_grown hb8 hg9 (by omega) k5.lt
        go_wp2
        refine bodyPost_ret (v := .tuple #[rg es es, rg es es, .int .i64 132]) ?_ rfl ⟨by rw [HR.out, splitV_no HX.out (by decide)], hb9⟩
        simp [results, Try.results12, go_sem, k4.cell, k6.cell]
      · have e2 := eqF h2
        go_wp2_with fail
        refine (has_any lo hi k w2).mono ?_
        rintro e w3 ⟨rfl, hb3⟩
        have k2 := k2.ext hb3
        have k4 := k4.ext hb3
        have k4' := k4
        have k5 := k5.ext hb3
        have hb2 := hb2.trans (hb3.mono hb2.size)
        clear c2
        cases hh : has lo hi k with
        | false =>
          have HX := Lib.hid (show splitE lo hi k = 132 by unfold splitE; rw [if_neg (by simp [H0.out]), if_neg h1, if_pos (.inr hh)])
          go_wp2_with (with_reducible refine stop_store ?_)
          refine hide (wpList_store_blk rfl 23 (.tmp 4) (.tmp 36) rfl (w.heap.size + 1) [.string es, .string es] rfl rfl _ k4 rfl (by kernel_rfl) rfl ?_)
          intro w8 k4 hg8 hz8
          have k5 := blk_grown k5 hg8 (by omega)
          have hb8 := below_grown hb2 hg8 (by omega) k4'.lt
          go_wp2_with (with_reducible refine stop_store ?_)
          refine hide (wpList_store_blk rfl 23 (.tmp 5) (.tmp 37) rfl (w.heap.size + 2) [.string es, .string es] rfl rfl _ k5 rfl (by kernel_rfl) rfl ?_)
          intro w9 k6 hg9 hz9
          have k4 := blk_grown k4 hg9 (by omega)
          have hb9 := below_grown hb8 hg9 (by omega) k5.lt
          go_wp2
          refine bodyPost_ret (v := .tuple #[rg es es, rg es es, .int .i64 132]) ?_ rfl ⟨by rw [HR.out, splitV_no HX.out (by decide)], hb9⟩
          simp [results, Try.results12, go_sem, k4.cell, k6.cell]
        | true =>
          have HX := Lib.hid (show splitE lo hi k = 0 by rw [splitE_zero]; exact ⟨hh, h2⟩)
          have c2 := k2.cell
          go_wp2_with fail
          refine wp_region_held_drew (S := Two w.heap.size [.string lo, .string hi]) (by kernel_rfl) ⟨k2.cell, k2⟩ (fun hS => ?_)
          simp only [List.size_toArray, List.length_cons, List.length_nil]
          refine take_at (i := 0) (oi := _) (dst := some 10) (v := ?_) rfl rfl (by kernel_rfl) (by kernel_rfl) (by kernel_rfl) (fun _ _ _ h => h) (Or.inl ⟨by rfl, by intro w hSw; (try dsimp only at hSw); go_simp; (try with_reducible rfl)⟩) (by assumption) ?_; (try simp only [Act.put, List.setIfInBounds_toArray, List.set_cons_zero, List.set_cons_succ])
          refine take_at (i := 1) (oi := _) (dst := some 11) (v := ?_) rfl rfl (by kernel_rfl) (by kernel_rfl) (by kernel_rfl) (fun _ _ _ h => h) (Or.inl ⟨by rfl, by intro w hSw; (try dsimp only at hSw); go_simp; (try with_reducible rfl)⟩) (by assumption) ?_; (try simp only [Act.put, List.setIfInBounds_toArray, List.set_cons_zero, List.set_cons_succ])
          refine take_at (i := 2) (oi := _) (dst := some 12) (v := ?_) rfl rfl (by kernel_rfl) (by kernel_rfl) (by kernel_rfl) (fun _ _ _ h => h) (Or.inl ⟨by rfl, by intro w hSw; (try dsimp only at hSw); go_simp; (try with_reducible rfl)⟩) (by assumption) ?_; (try simp only [Act.put, List.setIfInBounds_toArray, List.set_cons_zero, List.set_cons_succ])
          refine take_at (i := 3) (oi := _) (dst := some 13) (v := ?_) rfl rfl (by kernel_rfl) (by kernel_rfl) (by kernel_rfl) (fun _ _ _ h => h) (Or.inl ⟨by rfl, by intro w hSw; (try dsimp only at hSw); go_simp; (try with_reducible rfl)⟩) (by assumption) ?_; (try simp only [Act.put, List.setIfInBounds_toArray, List.set_cons_zero, List.set_cons_succ])
          refine take_at (i := 4) (oi := _) (dst := some 14) (v := ?_) rfl rfl (by kernel_rfl) (by kernel_rfl) (by kernel_rfl) (fun _ _ _ h => h) (Or.inl ⟨by rfl, by intro w hSw; (try dsimp only at hSw); go_simp; (try with_reducible rfl)⟩) (by assumption) ?_; (try simp only [Act.put, List.setIfInBounds_toArray, List.set_cons_zero, List.set_cons_succ])
          refine take_at (i := 5) (oi := _) (dst := some 15) (v := ?_) rfl rfl (by kernel_rfl) (by kernel_rfl) (by kernel_rfl) (fun _ _ _ h => h) (Or.inl ⟨by rfl, by intro w hSw; (try dsimp only at hSw); go_simp; (try with_reducible rfl)⟩) (by assumption) ?_; (try simp only [Act.put, List.setIfInBounds_toArray, List.set_cons_zero, List.set_cons_succ])
          refine take_at (i := 6) (oi := _) (dst := some 16) (v := ?_) rfl rfl (by kernel_rfl) (by kernel_rfl) (by kernel_rfl) (fun _ _ _ h => h) (Or.inl ⟨by rfl, by intro w hSw; (try dsimp only at hSw); go_simp; (try with_reducible rfl)⟩) (by assumption) ?_; (try simp only [Act.put, List.setIfInBounds_toArray, List.set_cons_zero, List.set_cons_succ])
          refine take_at (i := 7) (oi := _) (dst := some 17) (v := ?_) rfl rfl (by kernel_rfl) (by kernel_rfl) (by kernel_rfl) (fun _ _ _ h => h) (Or.inl ⟨by rfl, by intro w hSw; (try dsimp only at hSw); go_simp; (try with_reducible rfl)⟩) (by assumption) ?_; (try simp only [Act.put, List.setIfInBounds_toArray, List.set_cons_zero, List.set_cons_succ])
          refine wpAnyH_ready (rs := [8]) (by kernel_rfl) (by simp) ?_; refine AllReadyH.cons (o := _) rfl (fun K hK => ?_) AllReadyH.nil
          refine step_store_part rfl rfl 23 (.tmp 4) (.tmp 13) rfl (w.heap.size + 1) 0 _ [.string lo, .string k] rfl rfl rfl _ k4.drew (by simp) (by kernel_rfl) rfl _ rfl ?_
          intro w6 k6 hg6 hz6
          have k2' := blk_grown k2.drew hg6 (by omega)
          have k5' := blk_grown k5.drew hg6 (by omega)
          refine hK.out _ _ ⟨k2'.cell, k2'⟩ (fun hS6 => ?_)
          clear hK
          simp only [Act.put, List.setIfInBounds_toArray, List.set_cons_zero, List.set_cons_succ]
          refine wpAnyH_ready (rs := [9]) (by kernel_rfl) (by simp) ?_; refine AllReadyH.cons (o := _) rfl (fun K hK => ?_) AllReadyH.nil
          refine step_store_part rfl rfl 23 (.tmp 5) (.tmp 17) rfl (w.heap.size + 2) 0 _ [.string k, .string hi] rfl rfl rfl _ k5' (by simp) (by kernel_rfl) rfl _ rfl ?_
          intro w7 k7 hg7 hz7
          have k2' := blk_grown k2' hg7 (by omega)
          have k6' := blk_grown k6 hg7 (by omega)
          refine hK.out _ _ ⟨k2'.cell, k2'⟩ (fun hS7 => ?_)
          clear hK
          simp only [Act.put, List.setIfInBounds_toArray, List.set_cons_zero, List.set_cons_succ]
          refine take_at (i := 10) (oi := _) (dst := some 6) (v := ?_) rfl rfl (by kernel_rfl) (by kernel_rfl) (by kernel_rfl) (fun _ _ _ h => h) (Or.inl ⟨by rfl, by intro w hSw; (try dsimp only at hSw); go_simp; (try with_reducible rfl)⟩) (by assumption) ?_; (try simp only [Act.put, List.setIfInBounds_toArray, List.set_cons_zero, List.set_cons_succ])
          refine wpAnyH_done (by kernel_rfl) ?_ _
          go_wp2
          refine bodyPost_ret (v := .tuple #[rg lo k, rg k hi, .int .i64 0]) ?_ rfl ⟨by rw [HR.out, splitV_ok HX.out], below_grown (below_grown hb2.drew hg6 (by omega) k4.drew.lt) hg7 (by omega) k5'.lt⟩
          simp [results, Try.results12, go_sem, k6'.cell, k7.cell]
  · have HX := Lib.hid (show splitE lo hi k = chk lo hi by unfold splitE; rw [if_pos h0])
    have H0 := Lib.hid h0
    have e0 : (chk lo hi == 0) = false := by simp [h0]
    have e0' : (chk lo hi != 0) = true := by simp [h0]
    clear h0
    go_wp2_with (with_reducible refine stop_store ?_)
    refine hide (wpList_store_blk rfl 23 (.tmp 4) (.tmp 36) rfl (w.heap.size + 1) [.string es, .string es] rfl rfl _ k4 rfl (by kernel_rfl) rfl ?_)
    intro w8 k4 hg8 hz8
    have k5 := blk_grown k5 hg8 (by omega)
    have hb8 := below_grown hb2 hg8 (by omega) k4'.lt
    go_wp2_with (with_reducible refine stop_store ?_)
    refine hide (wpList_store_blk rfl 23 (.tmp 5) (.tmp 37) rfl (w.heap.size + 2) [.string es, .string es] rfl rfl _ k5 rfl (by kernel_rfl) rfl ?_)
    intro w9 k6 hg9 hz9
    have k4 := blk_grown k4 hg9 (by omega)
    have hb9 := below_grown hb8 hg9 (by omega) k5.lt
    go_wp2
    refine bodyPost_ret (v := .tuple #[rg es es, rg es es, .int .i64 (chk lo hi)]) ?_ rfl ⟨by rw [HR.out, splitV_no HX.out H0.out], hb9⟩
    simp [results, Try.results12, go_sem, k4.cell, k6.cell]
end Go.Proofs.Ytbpmpnifelbaaaa

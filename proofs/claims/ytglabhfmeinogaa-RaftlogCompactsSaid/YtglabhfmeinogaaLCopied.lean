/- Contract of copied: a log in new memory. -/
import Derived.Test.YtglabhfmeinogaaLSame
namespace Go.Proofs.Ytglabhfmeinogaa
open Go.RowKit Go.Gz
attribute [local go_sem] World.cell?_alloc_some frozen?_alloc_some

set_option maxHeartbeats 1600000 in
theorem copied_any (bi bt : Int) (A : Option Addr) (na ca : Nat) (B : Option Addr) (nb cb : Nat) (D : Option Addr) (nd cd : Nat) (O : Option Addr) (n c : Nat) (l k z : List Int) (xs : List Ent) (w : World)
    (h : IsLog w A B D O na nb nd n l k z xs) (hf : ∀ x ∈ xs, Fits x) (hn : n * 96 ≤ 140737488355328) (hna : na * 8 ≤ 140737488355328) (hnb : nb * 8 ≤ 140737488355328) (hnd : nd ≤ 140737488355328) :
    Calls Try.prog 36 #[lg bi bt A na ca B nb cb D nd cd O n c] w fun e w' => Below w.heap.size w w' ∧
      ∃ A' ca' B' cb' D' cd' O' c', e = .returned (lg bi bt A' na ca' B' nb cb' D' nd cd' O' n c') ∧ OwnSnap w' w.heap.size A' B' D' na ca' nb cb' nd cd' l k z ∧ OwnEs w' w.heap.size O' n c' xs := by
  have H := Lib.hid h
  have HF := Lib.hid hf
  clear h hf
  go_enter Try.func36, Try.ntmps36
  go_wp2_with (with_reducible refine stop_store ?_)
  refine hide (name_list (fun w1 hw1 => ?_))
  have k1 : Blk w1 w.heap.size [.int .u64 bi, .int .u64 bt, .slice A na ca, .slice B nb cb, .slice D nd cd, .slice O n c] := by rw [hw1]; exact ((Blk.new _ _ _ _ rfl).alloc _).alloc _
  have k2 : Blk w1 (w.heap.size + 1) [.int .u64 0, .int .u64 0, .slice none 0 0, .slice none 0 0, .slice none 0 0, .slice none 0 0] := by rw [hw1]; exact (Blk.new _ _ _ _ (by simp)).alloc _
  have k3 : Blk w1 (w.heap.size + 2) [.int .u64 0, .int .u64 0, .slice none 0 0, .slice none 0 0, .slice none 0 0] := by rw [hw1]; exact Blk.new _ _ _ _ (by simp)
  have hb1 : Below w.heap.size w w1 := by rw [hw1]; exact (by (repeat first | refine Below.setCell ?_ (by first | omega | (dsimp only; omega) | (simp only [heap_drew, World.size_alloc, Gz.size_setCell]; omega)) _ | refine Below.alloc ?_ (by first | omega | (dsimp only; omega) | (simp only [heap_drew, World.size_alloc, Gz.size_setCell]; omega)) _ | refine Below.drew ?_); exact Below.refl _ _)
  have hz1 : w1.heap.size = w.heap.size + 3 := by rw [hw1]; simp
  clear hw1
  refine hide (wpList_store_blk rfl 28 (.tmp 3) (.tmp 5) rfl (w.heap.size + 2) [.int .u64 bi, .int .u64 bt, .slice A na ca, .slice B nb cb, .slice D nd cd] rfl rfl _ k3 rfl (by kernel_rfl) rfl ?_)
  intro w2 k3 hg2 hz2
  have k1 := blk_grown k1 hg2 (by omega)
  have k2 := blk_grown k2 hg2 (by omega)
  have hb2 : Below w.heap.size w w2 := below_grown hb1 hg2 (by omega) (by omega)
  have c3 := k3.cell
  go_wp2_with fail
  refine wp_region_phase 7 (S := Ext w2) (by kernel_rfl) rfl (by kernel_rfl) (fun hS => ?_) Ext.start
  simp only [List.take_succ_cons, List.take_zero, List.drop_succ_cons, List.drop_zero]
  refine take_at (i := 0) (oi := _) (dst := some 6) (v := ?_) rfl rfl (by kernel_rfl) (by kernel_rfl) (by kernel_rfl) (fun _ _ _ h => h) (Or.inl ⟨by rfl, by intro w hSw; (try dsimp only at hSw); go_simp; (try with_reducible rfl)⟩) (by assumption) ?_; (try simp only [Act.put, List.setIfInBounds_toArray, List.set_cons_zero, List.set_cons_succ])
  refine take_at (i := 1) (oi := _) (dst := some 7) (v := ?_) rfl rfl (by kernel_rfl) (by kernel_rfl) (by kernel_rfl) (fun _ _ _ h => h) (Or.inl ⟨by rfl, by intro w hSw; (try dsimp only at hSw); go_simp; (try with_reducible rfl)⟩) (by assumption) ?_; (try simp only [Act.put, List.setIfInBounds_toArray, List.set_cons_zero, List.set_cons_succ])
  refine take_at (i := 3) (oi := _) (dst := some 9) (v := ?_) rfl rfl (by kernel_rfl) (by kernel_rfl) (by kernel_rfl) (fun _ _ _ h => h) (Or.inl ⟨by rfl, by intro w hSw; (try dsimp only at hSw); go_simp; (try with_reducible rfl)⟩) (by assumption) ?_; (try simp only [Act.put, List.setIfInBounds_toArray, List.set_cons_zero, List.set_cons_succ])
  refine take_at (i := 4) (oi := _) (dst := some 10) (v := ?_) rfl rfl (by kernel_rfl) (by kernel_rfl) (by kernel_rfl) (fun _ _ _ h => h) (Or.inl ⟨by rfl, by intro w hSw; (try dsimp only at hSw); go_simp; (try with_reducible rfl)⟩) (by assumption) ?_; (try simp only [Act.put, List.setIfInBounds_toArray, List.set_cons_zero, List.set_cons_succ])
  refine wpAnyH_ready (rs := [2]) (by kernel_rfl) (by simp) ?_; refine AllReadyH.cons (o := _) rfl (fun K hK => ?_) AllReadyH.nil; go_simp
  refine (conf_any A B na ca nb cb l k _ (H.out.1.1.below (hb2.trans (hS.2.2.mono hb2.size))) hna hnb).mono ?_
  rintro e w3 ⟨hb3, A3, a3, B3, b3, rfl, ho3⟩
  refine hK.out _ _ (Ext.below hS hb3) (fun hS3 => ?_)
  clear hK
  refine take_at (i := 6) (oi := _) (dst := some 12) (v := ?_) rfl rfl (by kernel_rfl) (by kernel_rfl) (by kernel_rfl) (fun _ _ _ h => h) (Or.inl ⟨by rfl, by intro w hSw; (try dsimp only at hSw); go_simp; (try with_reducible rfl)⟩) (by assumption) ?_; (try simp only [Act.put, List.setIfInBounds_toArray, List.set_cons_zero, List.set_cons_succ])
  refine wpAnyH_ready (rs := [5]) (by kernel_rfl) (by simp) ?_; refine AllReadyH.cons (o := _) rfl (fun K hK => ?_) AllReadyH.nil; go_simp
  refine (clone_bytes D nd cd z _ (H.out.1.2.below (hb2.trans (hS3.2.2.mono hb2.size))) hnd).mono ?_
  rintro e w4 ⟨hb4, D4, d4, rfl, ho4⟩
  refine hK.out _ _ (Ext.below hS3 hb4) (fun hS4 => ?_)
  clear hK
  refine wpAnyH_done (by kernel_rfl) ?_ _
  have k1 := k1.below hS4.2.2 (by omega)
  have k2 := k2.below hS4.2.2 (by omega)
  have k3 := k3.below hS4.2.2 (by omega)
  have ho3 : OwnConf w4 (w.heap.size + 3) A3 B3 na a3 nb b3 l k := (ho3.below hb4).lower (by simp only [heap_drew]; omega)
  have ho4 : Own w4 (w.heap.size + 3) 5 1 D4 nd d4 (nums .u8 z) := ho4.lower (by have := hS3.2.2.size; omega)
  have hb4' : Below w.heap.size w w4 := hb2.trans (hS4.2.2.mono hb2.size)
  have hz4 := hS4.2.2.size
  clear c3
  go_wp2_with (with_reducible refine stop_store ?_)
  refine hide (wpList_store_part rfl 25 (.tmp 12) (.tmp 8) rfl (w.heap.size + 2) 2 _ [.slice A3 na a3, .slice B3 nb b3] rfl rfl rfl _ k3 (by simp) (by kernel_rfl) rfl _ rfl ?_)
  intro w5 k3 hg5 hz5
  have k1 := blk_grown k1 hg5 (by omega)
  have k2 := blk_grown k2 hg5 (by omega)
  go_wp2_with (with_reducible refine stop_store ?_)
  refine hide (wpList_store_part rfl 26 (.tmp 13) (.tmp 11) rfl (w.heap.size + 2) 4 _ [.slice D4 nd d4] rfl rfl rfl _ k3 (by simp) (by kernel_rfl) rfl _ rfl ?_)
  intro w6 k3 hg6 hz6
  have k1 := blk_grown k1 hg6 (by omega)
  have k2 := blk_grown k2 hg6 (by omega)
  have hr2 : ∀ k, some (w.heap.size + 2) = some k → k < w.heap.size + 3 := fun k hk => by injection hk with hk; omega
  have ho3 : OwnConf w6 (w.heap.size + 3) A3 B3 na a3 nb b3 l k := ⟨(ho3.1.grown hg5 hr2).grown hg6 hr2, (ho3.2.grown hg5 hr2).grown hg6 hr2⟩
  have ho4 := (ho4.grown hg5 hr2).grown hg6 hr2
  have hb6 : Below w.heap.size w w6 := below_grown (below_grown hb4' hg5 (by omega) (by omega)) hg6 (by omega) (by omega)
  have c3 := k3.cell
  have c1 := k1.cell
  simp only [List.take_succ_cons, List.take_zero, List.drop_succ_cons, List.drop_zero, List.cons_append, List.nil_append, List.length_cons, List.length_nil] at c3
  go_wp2_with fail
  refine wp_region_phase 5 (S := Ext w6) (by kernel_rfl) rfl (by kernel_rfl) (fun hS6 => ?_) Ext.start
  simp only [List.take_succ_cons, List.take_zero, List.drop_succ_cons, List.drop_zero]
  refine take_at (i := 0) (oi := _) (dst := some 14) (v := ?_) rfl rfl (by kernel_rfl) (by kernel_rfl) (by kernel_rfl) (fun _ _ _ h => h) (Or.inl ⟨by rfl, by intro w hSw; (try dsimp only at hSw); go_simp; (try with_reducible rfl)⟩) (by assumption) ?_; (try simp only [Act.put, List.setIfInBounds_toArray, List.set_cons_zero, List.set_cons_succ])
  refine take_at (i := 1) (oi := _) (dst := some 15) (v := ?_) rfl rfl (by kernel_rfl) (by kernel_rfl) (by kernel_rfl) (fun _ _ _ h => h) (Or.inl ⟨by rfl, by intro w hSw; (try dsimp only at hSw); go_simp; (try with_reducible rfl)⟩) (by assumption) ?_; (try simp only [Act.put, List.setIfInBounds_toArray, List.set_cons_zero, List.set_cons_succ])
  refine take_at (i := 2) (oi := _) (dst := some 16) (v := ?_) rfl rfl (by kernel_rfl) (by kernel_rfl) (by kernel_rfl) (fun _ _ _ h => h) (Or.inl ⟨by rfl, by intro w hSw; (try dsimp only at hSw); go_simp; (try with_reducible rfl)⟩) (by assumption) ?_; (try simp only [Act.put, List.setIfInBounds_toArray, List.set_cons_zero, List.set_cons_succ])
  refine wpAnyH_ready (rs := [3]) (by kernel_rfl) (by simp) ?_; refine AllReadyH.cons (o := _) rfl (fun K hK => ?_) AllReadyH.nil; go_simp
  refine (entries_any O n c xs _ (H.out.2.below (hb6.trans (hS6.2.2.mono hb6.size))) HF.out hn).mono ?_
  rintro e w7 ⟨hb7, O7, c7, rfl, ho7⟩
  refine hK.out _ _ (Ext.below hS6 hb7) (fun hS7 => ?_)
  clear hK
  refine take_at (i := 4) (oi := _) (dst := some 18) (v := ?_) rfl rfl (by kernel_rfl) (by kernel_rfl) (by kernel_rfl) (fun _ _ _ h => h) (Or.inl ⟨by rfl, by intro w hSw; (try dsimp only at hSw); go_simp; (try with_reducible rfl)⟩) (by assumption) ?_; (try simp only [Act.put, List.setIfInBounds_toArray, List.set_cons_zero, List.set_cons_succ])
  refine wpAnyH_done (by kernel_rfl) ?_ _
  have k2 := k2.below hS7.2.2 (by omega)
  have hb7' : Below w.heap.size w w7 := hb6.trans (hS7.2.2.mono hb6.size)
  have hz7 := hS7.2.2.size
  have ho3 : OwnConf w7 (w.heap.size + 3) A3 B3 na a3 nb b3 l k := ⟨ho3.1.below hS7.2.2, ho3.2.below hS7.2.2⟩
  have ho4 := ho4.below hS7.2.2
  go_wp2_with (with_reducible refine stop_store ?_)
  refine hide (wpList_store_blk rfl 31 (.tmp 2) (.tmp 18) rfl (w.heap.size + 1) [.int .u64 bi, .int .u64 bt, .slice A3 na a3, .slice B3 nb b3, .slice D4 nd d4, .slice O7 n c7] rfl rfl _ k2 rfl (by kernel_rfl) rfl ?_)
  intro w8 k8 hg8 hz8
  go_wp2
  have hr1 : ∀ k, some (w.heap.size + 1) = some k → k < w.heap.size + 3 := fun k hk => by injection hk with hk; omega
  refine bodyPost_ret (v := lg bi bt A3 na a3 B3 nb b3 D4 nd d4 O7 n c7) ?_ rfl ⟨below_grown hb7' hg8 (by omega) (by omega), A3, a3, B3, b3, D4, d4, O7, c7, rfl, ?_, ?_⟩
  · simp [results, Try.results36, go_sem, k8.cell]
  · exact ⟨⟨(ho3.1.grown hg8 hr1).lower (by omega), (ho3.2.grown hg8 hr1).lower (by omega)⟩, (ho4.grown hg8 hr1).lower (by omega)⟩
  · obtain ⟨zs, q1, q2, q3, q4⟩ := ho7
    simp only [heap_drew] at q3 q4
    exact ⟨zs, q1, q2, (q3.grown hg8 (fun k hk => by injection hk with hk; omega)).lower (by omega), fun z hz => ((q4 z hz).grown hg8 (by omega)).lower (by omega)⟩
end Go.Proofs.Ytglabhfmeinogaa

/- Contracts of Whole, the program's and the document's. -/
import Derived.Test.YtmjohallhdcdnaaTakeRef
namespace Go.Proofs.Ytmjohallhdcdnaa
open Go.RowKit Go.Gz
attribute [local go_sem] World.cell?_alloc_some frozen?_alloc_some

set_option maxHeartbeats 1600000 in
theorem whole_any (pi pt : Int) (A B D : Option Addr) (n c m d p f : Nat) (l k z : List Int) (w : World) (h : SlA w 1 D p (nums .u8 z)) (hc : IsConf w A B n m l k) (hn : n * 8 ≤ 140737488355328) (hm : m * 8 ≤ 140737488355328) (hp : p ≤ 140737488355328) :
    Calls Try.prog 17 #[.agg #[.int .u64 pi, .int .u64 pt, .slice D p f], .agg #[.slice A n c, .slice B m d]] w fun e w' => Below w.heap.size w w' ∧
      ∃ A' c' B' d' D' f', e = .returned (.agg #[.int .u64 pi, .int .u64 pt, .slice A' n c', .slice B' m d', .slice D' p f']) ∧ OwnSnap w' w.heap.size A' B' D' n c' m d' p f' l k z := by
  have H := Lib.hid h
  have HC := Lib.hid hc
  clear h hc
  go_enter Try.func17, Try.ntmps17
  go_wp2_with fail
  refine name_world (fun w4 hw4 => ?_)
  have k1 : Blk w4 w.heap.size [.int .u64 pi, .int .u64 pt, .slice D p f] := by rw [hw4]; exact ((Blk.new w _ _ _ rfl).alloc _).alloc _
  have k2 : Blk w4 (w.heap.size + 1) [.slice A n c, .slice B m d] := by rw [hw4]; exact (Blk.new _ _ _ _ (by simp)).alloc _
  have k3 : Blk w4 (w.heap.size + 2) [.int .u64 0, .int .u64 0, .slice none 0 0, .slice none 0 0, .slice none 0 0] := by rw [hw4]; exact Blk.new _ _ _ _ (by simp)
  have hb4 : Below w.heap.size w w4 := by rw [hw4]; exact (by (repeat first | refine Below.setCell ?_ (by first | omega | (dsimp only; omega) | (simp only [heap_drew, World.size_alloc, Gz.size_setCell]; omega)) _ | refine Below.alloc ?_ (by first | omega | (dsimp only; omega) | (simp only [heap_drew, World.size_alloc, Gz.size_setCell]; omega)) _ | refine Below.drew ?_); exact Below.refl _ _)
  have hz4 : w.heap.size + 3 ≤ w4.heap.size := by rw [hw4]; simp
  clear hw4
  have c1 := k1.cell
  have c2 := k2.cell
  refine wp_region_phase 10 (S := Ext w4) (by kernel_rfl) rfl (by kernel_rfl) (fun hS => ?_) Ext.start
  simp only [List.take_succ_cons, List.take_zero, List.drop_succ_cons, List.drop_zero]
  refine take_at (i := 0) (oi := _) (dst := some 5) (v := ?_) rfl rfl (by kernel_rfl) (by kernel_rfl) (by kernel_rfl) (fun _ _ _ h => h) (Or.inl ⟨by rfl, by intro w hSw; (try dsimp only at hSw); go_simp; (try with_reducible rfl)⟩) (by assumption) ?_; (try simp only [Act.put, List.setIfInBounds_toArray, List.set_cons_zero, List.set_cons_succ])
  refine take_at (i := 1) (oi := _) (dst := some 6) (v := ?_) rfl rfl (by kernel_rfl) (by kernel_rfl) (by kernel_rfl) (fun _ _ _ h => h) (Or.inl ⟨by rfl, by intro w hSw; (try dsimp only at hSw); go_simp; (try with_reducible rfl)⟩) (by assumption) ?_; (try simp only [Act.put, List.setIfInBounds_toArray, List.set_cons_zero, List.set_cons_succ])
  refine take_at (i := 2) (oi := _) (dst := some 7) (v := ?_) rfl rfl (by kernel_rfl) (by kernel_rfl) (by kernel_rfl) (fun _ _ _ h => h) (Or.inl ⟨by rfl, by intro w hSw; (try dsimp only at hSw); go_simp; (try with_reducible rfl)⟩) (by assumption) ?_; (try simp only [Act.put, List.setIfInBounds_toArray, List.set_cons_zero, List.set_cons_succ])
  refine take_at (i := 3) (oi := _) (dst := some 8) (v := ?_) rfl rfl (by kernel_rfl) (by kernel_rfl) (by kernel_rfl) (fun _ _ _ h => h) (Or.inl ⟨by rfl, by intro w hSw; (try dsimp only at hSw); go_simp; (try with_reducible rfl)⟩) (by assumption) ?_; (try simp only [Act.put, List.setIfInBounds_toArray, List.set_cons_zero, List.set_cons_succ])
  refine take_at (i := 4) (oi := _) (dst := some 9) (v := ?_) rfl rfl (by kernel_rfl) (by kernel_rfl) (by kernel_rfl) (fun _ _ _ h => h) (Or.inl ⟨by rfl, by intro w hSw; (try dsimp only at hSw); go_simp; (try with_reducible rfl)⟩) (by assumption) ?_; (try simp only [Act.put, List.setIfInBounds_toArray, List.set_cons_zero, List.set_cons_succ])
  refine take_at (i := 6) (oi := _) (dst := some 11) (v := ?_) rfl rfl (by kernel_rfl) (by kernel_rfl) (by kernel_rfl) (fun _ _ _ h => h) (Or.inl ⟨by rfl, by intro w hSw; (try dsimp only at hSw); go_simp; (try with_reducible rfl)⟩) (by assumption) ?_; (try simp only [Act.put, List.setIfInBounds_toArray, List.set_cons_zero, List.set_cons_succ])
  refine take_at (i := 7) (oi := _) (dst := some 12) (v := ?_) rfl rfl (by kernel_rfl) (by kernel_rfl) (by kernel_rfl) (fun _ _ _ h => h) (Or.inl ⟨by rfl, by intro w hSw; (try dsimp only at hSw); go_simp; (try with_reducible rfl)⟩) (by assumption) ?_; (try simp only [Act.put, List.setIfInBounds_toArray, List.set_cons_zero, List.set_cons_succ])
  refine wpAnyH_ready (rs := [5]) (by kernel_rfl) (by simp) ?_; refine AllReadyH.cons (o := _) rfl (fun K hK => ?_) AllReadyH.nil; go_simp
  · refine (conf_any A B n c m d l k _ (HC.out.below hb4.drew) hn hm).mono ?_
    rintro e w5 ⟨hb5, A5, c5, B5, d5, rfl, ho5⟩
    refine hK.out _ _ (Ext.below hS hb5) (fun hS5 => ?_)
    clear hK
    refine wpAnyH_ready (rs := [8]) (by kernel_rfl) (by simp) ?_; refine AllReadyH.cons (o := _) rfl (fun K hK => ?_) AllReadyH.nil; go_simp
    refine (clone_bytes D p f z w5 (H.out.below (hb4.trans (hS5.2.2.mono (by omega)))) hp).mono ?_
    rintro e w6 ⟨hb6, D5, f5, rfl, ho6⟩
    refine hK.out _ _ (Ext.below hS5 hb6) (fun hS6 => ?_)
    clear hK
    have ho5 : OwnConf w6 w4.heap.size A5 B5 n c5 m d5 l k := ⟨ho5.1.below hb6, ho5.2.below hb6⟩
    have ho6 := ho6.lower (base' := w4.heap.size) hS5.2.2.size
    clear hb5 hb6 hS5
    have k3 := Blk.ext (w := w4) k3 hS6.2.2
    refine take_at (i := 9) (oi := _) (dst := some 14) (v := ?_) rfl rfl (by kernel_rfl) (by kernel_rfl) (by kernel_rfl) (fun _ _ _ h => h) (Or.inl ⟨by rfl, by intro w hSw; (try dsimp only at hSw); go_simp; (try with_reducible rfl)⟩) (by assumption) ?_; (try simp only [Act.put, List.setIfInBounds_toArray, List.set_cons_zero, List.set_cons_succ])
    refine wpAnyH_done (by kernel_rfl) ?_ _
    go_wp2_with (with_reducible refine stop_store ?_)
    refine hide (wpList_store_blk rfl 28 (.tmp 4) (.tmp 14) rfl (w.heap.size + 2) [.int .u64 pi, .int .u64 pt, .slice A5 n c5, .slice B5 m d5, .slice D5 p f5] rfl rfl _ k3 rfl (by kernel_rfl) rfl ?_)
    intro w7 k7 hg7 hz7
    go_wp2
    have hb46 : Below w.heap.size w4 w6 := hS6.2.2.mono (by omega)
    have hz6 := hS6.2.2.size
    have hb47 : Below w.heap.size w4 w7 := by
      refine hb46.grown hg7 (by omega) ?_
      intro g hg
      injection hg with hg
      omega
    refine bodyPost_ret (v := .agg #[.int .u64 pi, .int .u64 pt, .slice A5 n c5, .slice B5 m d5, .slice D5 p f5]) ?_ rfl ⟨hb4.trans hb47, A5, c5, B5, d5, D5, f5, rfl, ⟨?_, ?_⟩, ?_⟩
    · simp [results, Try.results17, go_sem, k7.cell]
    · exact (ho5.1.grown hg7 (by intro g hg; injection hg with hg; omega)).lower (by omega)
    · exact (ho5.2.grown hg7 (by intro g hg; injection hg with hg; omega)).lower (by omega)
    · exact (ho6.grown hg7 (by intro g hg; injection hg with hg; omega)).lower (by omega)
set_option maxHeartbeats 1600000 in
theorem wholeRef_any (pi pt : Int) (A B D : Option Addr) (n c m d p f : Nat) (l k z : List Int) (w : World) (h : SlA w 1 D p (nums .u8 z)) (hc : IsConf w A B n m l k) (hn : n * 8 ≤ 140737488355328) (hm : m * 8 ≤ 140737488355328) (hp : p ≤ 140737488355328) :
    Calls Try.prog 18 #[.agg #[.int .u64 pi, .int .u64 pt, .slice D p f], .agg #[.slice A n c, .slice B m d]] w fun e w' => Below w.heap.size w w' ∧
      ∃ A' c' B' d' D' f', e = .returned (.agg #[.int .u64 pi, .int .u64 pt, .slice A' n c', .slice B' m d', .slice D' p f']) ∧ OwnSnap w' w.heap.size A' B' D' n c' m d' p f' l k z := by
  obtain ⟨i0, hi, hz0, hz1', hz2'⟩ := info_parts infoU8
  have H := Lib.hid h
  have HC := Lib.hid hc
  clear h hc
  go_enter Try.func18, Try.ntmps18
  go_wp2_with fail
  refine name_world (fun w4 hw4 => ?_)
  have k1 : Blk w4 w.heap.size [.int .u64 pi, .int .u64 pt, .slice D p f] := by rw [hw4]; exact ((Blk.new w _ _ _ rfl).alloc _).alloc _
  have k2 : Blk w4 (w.heap.size + 1) [.slice A n c, .slice B m d] := by rw [hw4]; exact (Blk.new _ _ _ _ (by simp)).alloc _
  have k3 : Blk w4 (w.heap.size + 2) [.int .u64 0, .int .u64 0, .slice none 0 0, .slice none 0 0, .slice none 0 0] := by rw [hw4]; exact Blk.new _ _ _ _ (by simp)
  have hb4 : Below w.heap.size w w4 := by rw [hw4]; exact (by (repeat first | refine Below.setCell ?_ (by first | omega | (dsimp only; omega) | (simp only [heap_drew, World.size_alloc, Gz.size_setCell]; omega)) _ | refine Below.alloc ?_ (by first | omega | (dsimp only; omega) | (simp only [heap_drew, World.size_alloc, Gz.size_setCell]; omega)) _ | refine Below.drew ?_); exact Below.refl _ _)
  have hz4 : w.heap.size + 3 ≤ w4.heap.size := by rw [hw4]; simp
  clear hw4
  have c1 := k1.cell
  have c2 := k2.cell
  refine wp_region_phase 11 (S := Ext w4) (by kernel_rfl) rfl (by kernel_rfl) (fun hS => ?_) Ext.start
  simp only [List.take_succ_cons, List.take_zero, List.drop_succ_cons, List.drop_zero]
  refine take_at (i := 0) (oi := _) (dst := some 5) (v := ?_) rfl rfl (by kernel_rfl) (by kernel_rfl) (by kernel_rfl) (fun _ _ _ h => h) (Or.inl ⟨by rfl, by intro w hSw; (try dsimp only at hSw); go_simp; (try with_reducible rfl)⟩) (by assumption) ?_; (try simp only [Act.put, List.setIfInBounds_toArray, List.set_cons_zero, List.set_cons_succ])
  refine take_at (i := 1) (oi := _) (dst := some 6) (v := ?_) rfl rfl (by kernel_rfl) (by kernel_rfl) (by kernel_rfl) (fun _ _ _ h => h) (Or.inl ⟨by rfl, by intro w hSw; (try dsimp only at hSw); go_simp; (try with_reducible rfl)⟩) (by assumption) ?_; (try simp only [Act.put, List.setIfInBounds_toArray, List.set_cons_zero, List.set_cons_succ])
  refine take_at (i := 2) (oi := _) (dst := some 7) (v := ?_) rfl rfl (by kernel_rfl) (by kernel_rfl) (by kernel_rfl) (fun _ _ _ h => h) (Or.inl ⟨by rfl, by intro w hSw; (try dsimp only at hSw); go_simp; (try with_reducible rfl)⟩) (by assumption) ?_; (try simp only [Act.put, List.setIfInBounds_toArray, List.set_cons_zero, List.set_cons_succ])
  refine take_at (i := 3) (oi := _) (dst := some 8) (v := ?_) rfl rfl (by kernel_rfl) (by kernel_rfl) (by kernel_rfl) (fun _ _ _ h => h) (Or.inl ⟨by rfl, by intro w hSw; (try dsimp only at hSw); go_simp; (try with_reducible rfl)⟩) (by assumption) ?_; (try simp only [Act.put, List.setIfInBounds_toArray, List.set_cons_zero, List.set_cons_succ])
  refine take_at (i := 4) (oi := _) (dst := some 9) (v := ?_) rfl rfl (by kernel_rfl) (by kernel_rfl) (by kernel_rfl) (fun _ _ _ h => h) (Or.inl ⟨by rfl, by intro w hSw; (try dsimp only at hSw); go_simp; (try with_reducible rfl)⟩) (by assumption) ?_; (try simp only [Act.put, List.setIfInBounds_toArray, List.set_cons_zero, List.set_cons_succ])
  refine take_at (i := 7) (oi := _) (dst := some 12) (v := ?_) rfl rfl (by kernel_rfl) (by kernel_rfl) (by kernel_rfl) (fun _ _ _ h => h) (Or.inl ⟨by rfl, by intro w hSw; (try dsimp only at hSw); go_simp; (try with_reducible rfl)⟩) (by assumption) ?_; (try simp only [Act.put, List.setIfInBounds_toArray, List.set_cons_zero, List.set_cons_succ])
  refine take_at (i := 8) (oi := _) (dst := some 13) (v := ?_) rfl rfl (by kernel_rfl) (by kernel_rfl) (by kernel_rfl) (fun _ _ _ h => h) (Or.inl ⟨by rfl, by intro w hSw; (try dsimp only at hSw); go_simp; (try with_reducible rfl)⟩) (by assumption) ?_; (try simp only [Act.put, List.setIfInBounds_toArray, List.set_cons_zero, List.set_cons_succ])
  refine wpAnyH_ready (rs := [5, 6]) (by kernel_rfl) (by simp) ?_
  refine AllReadyH.cons (o := _) rfl (fun K hK => ?_) (AllReadyH.cons (o := _) rfl (fun K hK => ?_) AllReadyH.nil)
  · go_simp
    refine (cloneConf_any A B n c m d l k _ (HC.out.below hb4.drew) hn hm).mono ?_
    rintro e w5 ⟨hb5, A5, c5, B5, d5, rfl, ho5⟩
    refine hK.out _ _ (Ext.below hS hb5) (fun hS5 => ?_)
    clear hK
    refine wpAnyH_ready (rs := [6]) (by kernel_rfl) (by simp) ?_; refine AllReadyH.cons (o := _) rfl (fun K hK => ?_) AllReadyH.nil; go_simp
    refine hK.out _ _ (Ext.alloc hS5 _) (fun hS55 => ?_)
    clear hK
    refine wpAnyH_ready (rs := [9]) (by kernel_rfl) (by simp) ?_; refine AllReadyH.cons (o := _) rfl (fun K hK => ?_) AllReadyH.nil
    refine step_append_empty (some 14) rfl rfl (.tmp 11) (.tmp 13) _ rfl 5 i0 (.int .u8 0) 1 1 Try.underlying26 hi hz0 hz1' hz2' rfl _ rfl D p f (nums .u8 z) rfl (H.out.below (hb4.trans (hS55.2.2.mono (by omega)))) (by omega) (by omega) ?_
    intro D5 f5 w6 ho6 hb6
    refine hK.out _ _ (Ext.below hS55 hb6) (fun hS6 => ?_)
    clear hK
    simp only [Act.put, List.setIfInBounds_toArray, List.set_cons_zero, List.set_cons_succ]
    have ho5 : OwnConf w6 w4.heap.size A5 B5 n c5 m d5 l k := ⟨(ho5.1.alloc _).below hb6, (ho5.2.alloc _).below hb6⟩
    have ho6 := ho6.lower (base' := w4.heap.size) hS55.2.2.size
    clear hb5 hb6 hS5 hS55
    have k3 := Blk.ext (w := w4) k3 hS6.2.2
    refine take_at (i := 10) (oi := _) (dst := some 15) (v := ?_) rfl rfl (by kernel_rfl) (by kernel_rfl) (by kernel_rfl) (fun _ _ _ h => h) (Or.inl ⟨by rfl, by intro w hSw; (try dsimp only at hSw); go_simp; (try with_reducible rfl)⟩) (by assumption) ?_; (try simp only [Act.put, List.setIfInBounds_toArray, List.set_cons_zero, List.set_cons_succ])
    refine wpAnyH_done (by kernel_rfl) ?_ _
    go_wp2_with (with_reducible refine stop_store ?_)
    refine hide (wpList_store_blk rfl 28 (.tmp 4) (.tmp 15) rfl (w.heap.size + 2) [.int .u64 pi, .int .u64 pt, .slice A5 n c5, .slice B5 m d5, .slice D5 p f5] rfl rfl _ k3 rfl (by kernel_rfl) rfl ?_)
    intro w7 k7 hg7 hz7
    go_wp2
    have hb46 : Below w.heap.size w4 w6 := hS6.2.2.mono (by omega)
    have hz6 := hS6.2.2.size
    have hb47 : Below w.heap.size w4 w7 := by
      refine hb46.grown hg7 (by omega) ?_
      intro g hg
      injection hg with hg
      omega
    refine bodyPost_ret (v := .agg #[.int .u64 pi, .int .u64 pt, .slice A5 n c5, .slice B5 m d5, .slice D5 p f5]) ?_ rfl ⟨hb4.trans hb47, A5, c5, B5, d5, D5, f5, rfl, ⟨?_, ?_⟩, ?_⟩
    · simp [results, Try.results18, go_sem, k7.cell]
    · exact (ho5.1.grown hg7 (by intro g hg; injection hg with hg; omega)).lower (by omega)
    · exact (ho5.2.grown hg7 (by intro g hg; injection hg with hg; omega)).lower (by omega)
    · exact (ho6.grown hg7 (by intro g hg; injection hg with hg; omega)).lower (by omega)
  · go_simp
    refine hK.out _ _ (Ext.alloc hS _) (fun hS5 => ?_)
    clear hK
    refine wpAnyH_ready (rs := [5]) (by kernel_rfl) (by simp) ?_; refine AllReadyH.cons (o := _) rfl (fun K hK => ?_) AllReadyH.nil; go_simp
    refine (cloneConf_any A B n c m d l k _ (HC.out.below (hb4.trans (hS5.2.2.mono (by omega)))) hn hm).mono ?_
    rintro e w5 ⟨hb5, A5, c5, B5, d5, rfl, ho5⟩
    refine hK.out _ _ (Ext.below hS5 hb5) (fun hS55 => ?_)
    clear hK
    refine wpAnyH_ready (rs := [9]) (by kernel_rfl) (by simp) ?_; refine AllReadyH.cons (o := _) rfl (fun K hK => ?_) AllReadyH.nil
    refine step_append_empty (some 14) rfl rfl (.tmp 11) (.tmp 13) _ rfl 5 i0 (.int .u8 0) 1 1 Try.underlying26 hi hz0 hz1' hz2' rfl _ rfl D p f (nums .u8 z) rfl (H.out.below (hb4.trans (hS55.2.2.mono (by omega)))) (by omega) (by omega) ?_
    intro D5 f5 w6 ho6 hb6
    refine hK.out _ _ (Ext.below hS55 hb6) (fun hS6 => ?_)
    clear hK
    simp only [Act.put, List.setIfInBounds_toArray, List.set_cons_zero, List.set_cons_succ]
    have hz5 := hS5.2.2.size
    have ho5 : OwnConf w6 w4.heap.size A5 B5 n c5 m d5 l k := ⟨(ho5.1.below hb6).lower hz5, (ho5.2.below hb6).lower hz5⟩
    have ho6 := ho6.lower (base' := w4.heap.size) hS55.2.2.size
    clear hb5 hb6 hS5 hS55 hz5
    have k3 := Blk.ext (w := w4) k3 hS6.2.2
    refine take_at (i := 10) (oi := _) (dst := some 15) (v := ?_) rfl rfl (by kernel_rfl) (by kernel_rfl) (by kernel_rfl) (fun _ _ _ h => h) (Or.inl ⟨by rfl, by intro w hSw; (try dsimp only at hSw); go_simp; (try with_reducible rfl)⟩) (by assumption) ?_; (try simp only [Act.put, List.setIfInBounds_toArray, List.set_cons_zero, List.set_cons_succ])
    refine wpAnyH_done (by kernel_rfl) ?_ _
    go_wp2_with (with_reducible refine stop_store ?_)
    refine hide (wpList_store_blk rfl 28 (.tmp 4) (.tmp 15) rfl (w.heap.size + 2) [.int .u64 pi, .int .u64 pt, .slice A5 n c5, .slice B5 m d5, .slice D5 p f5] rfl rfl _ k3 rfl (by kernel_rfl) rfl ?_)
    intro w7 k7 hg7 hz7
    go_wp2
    have hb46 : Below w.heap.size w4 w6 := hS6.2.2.mono (by omega)
    have hz6 := hS6.2.2.size
    have hb47 : Below w.heap.size w4 w7 := by
      refine hb46.grown hg7 (by omega) ?_
      intro g hg
      injection hg with hg
      omega
    refine bodyPost_ret (v := .agg #[.int .u64 pi, .int .u64 pt, .slice A5 n c5, .slice B5 m d5, .slice D5 p f5]) ?_ rfl ⟨hb4.trans hb47, A5, c5, B5, d5, D5, f5, rfl, ⟨?_, ?_⟩, ?_⟩
    · simp [results, Try.results18, go_sem, k7.cell]
    · exact (ho5.1.grown hg7 (by intro g hg; injection hg with hg; omega)).lower (by omega)
    · exact (ho5.2.grown hg7 (by intro g hg; injection hg with hg; omega)).lower (by omega)
    · exact (ho6.grown hg7 (by intro g hg; injection hg with hg; omega)).lower (by omega)
end Go.Proofs.Ytmjohallhdcdnaa

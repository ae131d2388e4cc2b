/- Contracts of entry and Clone: an entry in new memory. -/
import Derived.Test.YtglabhfmeinogaaLEnt
namespace Go.Proofs.Ytglabhfmeinogaa
open Go.RowKit Go.Gz
attribute [local go_sem] World.cell?_alloc_some frozen?_alloc_some

set_option maxHeartbeats 1600000 in
theorem entry_any (cs : List Value) (x : Ent) (w : World) (h : IsE w cs x) (hf : Fits x) :
    Calls Try.prog 52 #[.agg cs.toArray] w fun e w' => Below w.heap.size w w' ∧ ∃ cs' : List Value, e = .returned (.agg cs'.toArray) ∧ OwnE w' w.heap.size cs' x := by
  obtain ⟨i, t, k, ds, vs, ls⟩ := x
  obtain ⟨D, dc, V, vc, L, lc, rfl, hs, hc⟩ := h
  dsimp only at hs hc
  obtain ⟨hf1, hf2, hf3⟩ := hf
  dsimp only at hf1 hf2 hf3
  have HS := Lib.hid hs
  have HC := Lib.hid hc
  clear hs hc
  dsimp only
  go_enter Try.func52, Try.ntmps52
  go_wp2_with fail
  refine name_world (fun w1 hw1 => ?_)
  have k1 : Blk w1 w.heap.size [.int .u64 i, .int .u64 t, .int .i64 k, .slice D ds.length dc, .slice V vs.length vc, .slice L ls.length lc] := by rw [hw1]; exact (Blk.new _ _ _ _ rfl).alloc _
  have k2 : Blk w1 (w.heap.size + 1) [.int .u64 0, .int .u64 0, .int .i64 0, .slice none 0 0, .slice none 0 0, .slice none 0 0] := by rw [hw1]; exact Blk.new _ _ _ _ (by simp)
  have hb1 : Below w.heap.size w w1 := by rw [hw1]; exact (by (repeat first | refine Below.setCell ?_ (by first | omega | (dsimp only; omega) | (simp only [heap_drew, World.size_alloc, Gz.size_setCell]; omega)) _ | refine Below.alloc ?_ (by first | omega | (dsimp only; omega) | (simp only [heap_drew, World.size_alloc, Gz.size_setCell]; omega)) _ | refine Below.drew ?_); exact Below.refl _ _)
  have hz1 : w1.heap.size = w.heap.size + 2 := by rw [hw1]; simp
  clear hw1
  have c1 := k1.cell
  refine wp_region_phase 7 (S := Ext w1) (by kernel_rfl) rfl (by kernel_rfl) (fun hS => ?_) Ext.start
  simp only [List.take_succ_cons, List.take_zero, List.drop_succ_cons, List.drop_zero]
  refine take_at (i := 0) (oi := _) (dst := some 3) (v := ?_) rfl rfl (by kernel_rfl) (by kernel_rfl) (by kernel_rfl) (fun _ _ _ h => h) (Or.inl ⟨by rfl, by intro w hSw; (try dsimp only at hSw); go_simp; (try with_reducible rfl)⟩) (by assumption) ?_; (try simp only [Act.put, List.setIfInBounds_toArray, List.set_cons_zero, List.set_cons_succ])
  refine take_at (i := 1) (oi := _) (dst := some 4) (v := ?_) rfl rfl (by kernel_rfl) (by kernel_rfl) (by kernel_rfl) (fun _ _ _ h => h) (Or.inl ⟨by rfl, by intro w hSw; (try dsimp only at hSw); go_simp; (try with_reducible rfl)⟩) (by assumption) ?_; (try simp only [Act.put, List.setIfInBounds_toArray, List.set_cons_zero, List.set_cons_succ])
  refine take_at (i := 3) (oi := _) (dst := some 6) (v := ?_) rfl rfl (by kernel_rfl) (by kernel_rfl) (by kernel_rfl) (fun _ _ _ h => h) (Or.inl ⟨by rfl, by intro w hSw; (try dsimp only at hSw); go_simp; (try with_reducible rfl)⟩) (by assumption) ?_; (try simp only [Act.put, List.setIfInBounds_toArray, List.set_cons_zero, List.set_cons_succ])
  refine take_at (i := 4) (oi := _) (dst := some 7) (v := ?_) rfl rfl (by kernel_rfl) (by kernel_rfl) (by kernel_rfl) (fun _ _ _ h => h) (Or.inl ⟨by rfl, by intro w hSw; (try dsimp only at hSw); go_simp; (try with_reducible rfl)⟩) (by assumption) ?_; (try simp only [Act.put, List.setIfInBounds_toArray, List.set_cons_zero, List.set_cons_succ])
  refine wpAnyH_ready (rs := [2]) (by kernel_rfl) (by simp) ?_; refine AllReadyH.cons (o := _) rfl (fun K hK => ?_) AllReadyH.nil; go_simp
  refine (clone_bytes D ds.length dc ds _ (HS.out.below (hb1.trans (hS.2.2.mono hb1.size))) hf1).mono ?_
  rintro e w2 ⟨hb2, D2, d2, rfl, ho2⟩
  refine hK.out _ _ (Ext.below hS hb2) (fun hS2 => ?_)
  clear hK
  refine take_at (i := 6) (oi := _) (dst := some 9) (v := ?_) rfl rfl (by kernel_rfl) (by kernel_rfl) (by kernel_rfl) (fun _ _ _ h => h) (Or.inl ⟨by rfl, by intro w hSw; (try dsimp only at hSw); go_simp; (try with_reducible rfl)⟩) (by assumption) ?_; (try simp only [Act.put, List.setIfInBounds_toArray, List.set_cons_zero, List.set_cons_succ])
  refine wpAnyH_ready (rs := [5]) (by kernel_rfl) (by simp) ?_; refine AllReadyH.cons (o := _) rfl (fun K hK => ?_) AllReadyH.nil; go_simp
  refine (conf_any V L vs.length vc ls.length lc vs ls _ (HC.out.below (hb1.trans (hS2.2.2.mono hb1.size))) hf2 hf3).mono ?_
  rintro e w3 ⟨hb3, V3, v3, L3, l3, rfl, ho3⟩
  refine hK.out _ _ (Ext.below hS2 hb3) (fun hS3 => ?_)
  clear hK
  refine wpAnyH_done (by kernel_rfl) ?_ _
  have k1 := k1.below hS3.2.2 (by omega)
  have k2 := k2.below hS3.2.2 (by omega)
  have ho2 := (ho2.below hb3).lower (base' := w1.heap.size) (Nat.le_refl _)
  have ho3 : OwnConf w3 w1.heap.size V3 L3 vs.length v3 ls.length l3 vs ls := ho3.lower hS2.2.2.size
  have hb3' : Below w.heap.size w w3 := hb1.trans (hS3.2.2.mono hb1.size)
  have hz3 := hS3.2.2.size
  clear c1
  go_wp2_with (with_reducible refine stop_store ?_)
  refine hide (wpList_store_part rfl 26 (.tmp 9) (.tmp 5) rfl w.heap.size 3 _ [.slice D2 ds.length d2] rfl rfl rfl _ k1 (by simp) (by kernel_rfl) rfl _ rfl ?_)
  intro w4 k1 hg4 hz4
  have k2 := blk_grown k2 hg4 (by omega)
  go_wp2_with (with_reducible refine stop_store ?_)
  refine hide (wpList_store_part rfl 25 (.tmp 10) (.tmp 8) rfl w.heap.size 4 _ [.slice V3 vs.length v3, .slice L3 ls.length l3] rfl rfl rfl _ k1 (by simp) (by kernel_rfl) rfl _ rfl ?_)
  intro w5 k1 hg5 hz5
  have k2 := blk_grown k2 hg5 (by omega)
  have c1 := k1.cell
  simp only [List.take_succ_cons, List.take_zero, List.drop_succ_cons, List.drop_zero, List.cons_append, List.nil_append, List.length_cons, List.length_nil] at c1
  go_wp2_with (with_reducible refine stop_store ?_)
  refine hide (wpList_store_blk rfl 47 (.tmp 2) (.tmp 11) rfl (w.heap.size + 1) [.int .u64 i, .int .u64 t, .int .i64 k, .slice D2 ds.length d2, .slice V3 vs.length v3, .slice L3 ls.length l3] rfl rfl _ k2 rfl (by kernel_rfl) rfl ?_)
  intro w6 k2 hg6 hz6
  go_wp2
  have hbase : ∀ g, g < w1.heap.size → ∀ k, some g = some k → k < w1.heap.size := fun g hg k hk => by injection hk with hk; omega
  refine bodyPost_ret (v := .agg #[.int .u64 i, .int .u64 t, .int .i64 k, .slice D2 ds.length d2, .slice V3 vs.length v3, .slice L3 ls.length l3]) ?_ rfl ⟨?_, _, rfl, D2, d2, V3, v3, L3, l3, rfl, ?_, ?_⟩
  · simp [results, Try.results52, go_sem, k2.cell]
  · exact below_grown (below_grown (below_grown hb3' hg4 (by omega) (by omega)) hg5 (by omega) (by omega)) hg6 (by omega) (by omega)
  · exact (((ho2.grown hg4 (hbase _ (by omega))).grown hg5 (hbase _ (by omega))).grown hg6 (hbase _ (by omega))).lower (by omega)
  · exact OwnConf.lower ⟨((ho3.1.grown hg4 (hbase _ (by omega))).grown hg5 (hbase _ (by omega))).grown hg6 (hbase _ (by omega)), ((ho3.2.grown hg4 (hbase _ (by omega))).grown hg5 (hbase _ (by omega))).grown hg6 (hbase _ (by omega))⟩ (by omega)

set_option maxHeartbeats 1600000 in
theorem clone_any (cs : List Value) (x : Ent) (w : World) (h : IsE w cs x) (hf : Fits x) :
    Calls Try.prog 45 #[.agg cs.toArray] w fun e w' => Below w.heap.size w w' ∧ ∃ cs' : List Value, e = .returned (.agg cs'.toArray) ∧ OwnE w' w.heap.size cs' x := by
  obtain ⟨i0, hi, hz0, hz1', hz2'⟩ := info_parts infoU8
  obtain ⟨i, t, k, ds, vs, ls⟩ := x
  obtain ⟨D, dc, V, vc, L, lc, rfl, hs, hc⟩ := h
  dsimp only at hs hc
  obtain ⟨hf1, hf2, hf3⟩ := hf
  dsimp only at hf1 hf2 hf3
  have HS := Lib.hid hs
  have HC := Lib.hid hc
  clear hs hc
  dsimp only
  go_enter Try.func45, Try.ntmps45
  go_wp2_with (with_reducible refine stop_at (d := 6) ?_)
  refine hide (name_list (fun w1 hw1 => ?_))
  have k1 : Blk w1 w.heap.size [.int .u64 i, .int .u64 t, .int .i64 k, .slice D ds.length dc, .slice V vs.length vc, .slice L ls.length lc] := by rw [hw1]; exact ((Blk.new _ _ _ _ rfl).alloc _).alloc _
  have k2 : Blk w1 (w.heap.size + 1) [.int .u64 0, .int .u64 0, .int .i64 0, .slice none 0 0, .slice none 0 0, .slice none 0 0] := by rw [hw1]; exact (Blk.new _ _ _ _ (by simp)).alloc _
  have hb1 : Below w.heap.size w w1 := by rw [hw1]; exact (by (repeat first | refine Below.setCell ?_ (by first | omega | (dsimp only; omega) | (simp only [heap_drew, World.size_alloc, Gz.size_setCell]; omega)) _ | refine Below.alloc ?_ (by first | omega | (dsimp only; omega) | (simp only [heap_drew, World.size_alloc, Gz.size_setCell]; omega)) _ | refine Below.drew ?_); exact Below.refl _ _)
  have hz1 : w1.heap.size = w.heap.size + 3 := by rw [hw1]; simp
  clear hw1
  refine hide (wpList_append_empty rfl (.tmp 3) (.tmp 5) 26 rfl 5 i0 (.int .u8 0) 1 1 Try.underlying26 hi hz0 hz1' hz2' rfl _ rfl D ds.length dc (nums .u8 ds) rfl (HS.out.below hb1) (by omega) (by omega) ?_)
  intro D2 d2 w2 ho2 hb2
  have k1 := k1.ext hb2
  have k2 := k2.ext hb2
  have hb2' : Below w.heap.size w w2 := hb1.trans (hb2.mono hb1.size)
  have hz2 := hb2.size
  go_wp2_with (with_reducible refine stop_store ?_)
  refine hide (wpList_store_part rfl 26 (.tmp 7) (.tmp 6) rfl w.heap.size 3 _ [.slice D2 ds.length d2] rfl rfl rfl _ k1 (by simp) (by kernel_rfl) rfl _ rfl ?_)
  intro w3 k1 hg3 hz3
  have k2 := blk_grown k2 hg3 (by omega)
  have hb3 : Below w.heap.size w w3 := below_grown hb2' hg3 (by omega) (by omega)
  have ho3 := ho2.grown hg3 (by intro k hk; injection hk with hk; omega)
  have c1 := k1.cell
  simp only [List.take_succ_cons, List.take_zero, List.drop_succ_cons, List.drop_zero, List.cons_append, List.nil_append, List.length_cons, List.length_nil] at c1
  clear ho2 hg3 hb2
  go_wp2_with fail
  refine (cloneConf_any V L vs.length vc ls.length lc vs ls w3 (HC.out.below hb3) hf2 hf3).mono ?_
  rintro e w4 ⟨hb4, V4, v4, L4, l4, rfl, ho4⟩
  have k1 := k1.ext hb4
  have k2 := k2.ext hb4
  have ho3 := ho3.below hb4
  have hb4' := hb3.trans (hb4.mono hb3.size)
  have hz4 := hb4.size
  clear c1
  go_wp2_with (with_reducible refine stop_store ?_)
  refine hide (wpList_store_part rfl 25 (.tmp 11) (.tmp 10) rfl w.heap.size 4 _ [.slice V4 vs.length v4, .slice L4 ls.length l4] rfl rfl rfl _ k1 (by simp) (by kernel_rfl) rfl _ rfl ?_)
  intro w5 k1 hg5 hz5
  have k2 := blk_grown k2 hg5 (by omega)
  have c1 := k1.cell
  simp only [List.take_succ_cons, List.take_zero, List.drop_succ_cons, List.drop_zero, List.cons_append, List.nil_append, List.length_cons, List.length_nil] at c1
  go_wp2_with (with_reducible refine stop_store ?_)
  refine hide (wpList_store_blk rfl 47 (.tmp 2) (.tmp 12) rfl (w.heap.size + 1) [.int .u64 i, .int .u64 t, .int .i64 k, .slice D2 ds.length d2, .slice V4 vs.length v4, .slice L4 ls.length l4] rfl rfl _ k2 rfl (by kernel_rfl) rfl ?_)
  intro w6 k2 hg6 hz6
  go_wp2
  have hbase : ∀ g, g < w1.heap.size → ∀ k, some g = some k → k < w1.heap.size := fun g hg k hk => by injection hk with hk; omega
  have hbase2 : ∀ g, g < w1.heap.size → ∀ k, some g = some k → k < w3.heap.size := fun g hg k hk => by injection hk with hk; omega
  refine bodyPost_ret (v := .agg #[.int .u64 i, .int .u64 t, .int .i64 k, .slice D2 ds.length d2, .slice V4 vs.length v4, .slice L4 ls.length l4]) ?_ rfl ⟨?_, _, rfl, D2, d2, V4, v4, L4, l4, rfl, ?_, ?_⟩
  · simp [results, Try.results45, go_sem, k2.cell]
  · exact below_grown (below_grown hb4' hg5 (by omega) (by omega)) hg6 (by omega) (by omega)
  · exact ((ho3.grown hg5 (hbase _ (by omega))).grown hg6 (hbase _ (by omega))).lower (by omega)
  · exact OwnConf.lower ⟨(ho4.1.grown hg5 (hbase2 _ (by omega))).grown hg6 (hbase2 _ (by omega)), (ho4.2.grown hg5 (hbase2 _ (by omega))).grown hg6 (hbase2 _ (by omega))⟩ (by omega)
end Go.Proofs.Ytglabhfmeinogaa

/- A step: Send. -/
import Derived.Test.YtjihiohmemmabaaNStepC
namespace Go.Proofs.Ytjihiohmemmabaa
open Go.RowKit Go.Gz
attribute [local go_sem] World.cell?_alloc_some frozen?_alloc_some

set_option maxHeartbeats 16000000 in
set_option maxRecDepth 40000 in
theorem step_send0 (w0 w : World) (F0 : Nat → Prop) (g r n N : Nat) (f : Bags) (S : Sides) (cs : List Value) (o : OpV) (ht : TS w0 w w F0 g r n N f S f S []) (hs : Sane n f) (hn : n ≤ 7) (hN0 : 17592186044416 ≤ N) (hN : N < maxLen) (ho : IsO w0 cs o) (hgo : GoodO o) (hdl : o.2.2.2.2.2.1.length ≤ 140737488351232) (hk : pickI o.1 9 = 0) :
    Calls Try.prog 21 #[.pointer (some ⟨g, 0, none⟩), .pointer (some ⟨r, 0, none⟩), .agg cs.toArray] w fun e w' => StepIs w0 w w' F0 g r n N f o e := by
  obtain ⟨D, dc, E0, ec, rfl, hD, hE, hdc⟩ := ho
  have HT := Lib.hid ht
  have HD := Lib.hid hD
  have HE := Lib.hid hE
  have HGO := Lib.hid hgo
  have hc0 := hgo.call.1
  have hc1 := hgo.call.2
  have HS := Lib.hid hs
  have HKK := Lib.hid hk
  clear ht hD hE hs hgo
  go_enter Try.func21, Try.ntmps21
  go_wp2_with fail
  refine name_calls (fun w1 hw1 => ?_)
  have hb1 : Below w.heap.size w w1 := by rw [hw1]; exact below_alloc_one _ _
  have kb : BlkT w1 w.heap.size 42 [.int .i64 o.1, .int .i64 o.2.1, .int .i64 o.2.2.1, .int .i64 o.2.2.2.1, .int .i64 o.2.2.2.2.1, .slice D o.2.2.2.2.2.1.length dc, .slice E0 o.2.2.2.2.2.2.length ec] := by rw [hw1]; exact BlkT.new _ _ _
  clear hw1
  have HT1 := Lib.hid (HT.out.new hb1 kb (Nat.le_refl _))
  refine (pick_any o.1 9 w1 (by decide) (by decide) hc0 hc1).mono ?_
  rintro e w1' ⟨rfl, hw1'⟩
  rw [hw1', hk]
  clear hw1' w1' hk hc0 hc1 hb1
  have c5 := kb.blk.cell
  have hdl' : o.2.2.2.2.2.1.length ≤ 140737488355328 := by omega
  obtain ⟨i0, hi, hz0, hz1', hz2'⟩ := info_parts infoByte
  go_wp2_with fail
  refine wp_region_phase 10 (S := Ext w1) (by kernel_rfl) rfl (by kernel_rfl) (fun hS => ?_) Ext.start
  simp only [List.take_succ_cons, List.take_zero, List.drop_succ_cons, List.drop_zero]
  refine take_at (i := 1) (oi := _) (dst := some 30) (v := ?_) rfl rfl (by kernel_rfl) (by kernel_rfl) (by kernel_rfl) (fun _ _ _ h => h) (Or.inl ⟨by rfl, by intro w hSw; (try dsimp only at hSw); go_simp; (try with_reducible rfl)⟩) (by assumption) ?_; (try simp only [Act.put, List.setIfInBounds_toArray, List.set_cons_zero, List.set_cons_succ])
  refine take_at (i := 2) (oi := _) (dst := some 31) (v := ?_) rfl rfl (by kernel_rfl) (by kernel_rfl) (by kernel_rfl) (fun _ _ _ h => h) (Or.inl ⟨by rfl, by intro w hSw; (try dsimp only at hSw); go_simp; (try with_reducible rfl)⟩) (by assumption) ?_; (try simp only [Act.put, List.setIfInBounds_toArray, List.set_cons_zero, List.set_cons_succ])
  refine take_at (i := 6) (oi := _) (dst := some 35) (v := ?_) rfl rfl (by kernel_rfl) (by kernel_rfl) (by kernel_rfl) (fun _ _ _ h => h) (Or.inl ⟨by rfl, by intro w hSw; (try dsimp only at hSw); go_simp; (try with_reducible rfl)⟩) (by assumption) ?_; (try simp only [Act.put, List.setIfInBounds_toArray, List.set_cons_zero, List.set_cons_succ])
  refine take_at (i := 7) (oi := _) (dst := some 36) (v := ?_) rfl rfl (by kernel_rfl) (by kernel_rfl) (by kernel_rfl) (fun _ _ _ h => h) (Or.inl ⟨by rfl, by intro w hSw; (try dsimp only at hSw); go_simp; (try with_reducible rfl)⟩) (by assumption) ?_; (try simp only [Act.put, List.setIfInBounds_toArray, List.set_cons_zero, List.set_cons_succ])
  refine take_at (i := 8) (oi := _) (dst := some 37) (v := ?_) rfl rfl (by kernel_rfl) (by kernel_rfl) (by kernel_rfl) (fun _ _ _ h => h) (Or.inl ⟨by rfl, by intro w hSw; (try dsimp only at hSw); go_simp; (try with_reducible rfl)⟩) (by assumption) ?_; (try simp only [Act.put, List.setIfInBounds_toArray, List.set_cons_zero, List.set_cons_succ])
  clear c5
  refine wpAnyH_ready (rs := [0, 4]) (by kernel_rfl) (by simp) ?_
  refine AllReadyH.cons (o := _) rfl (fun K hK => ?_) (AllReadyH.cons (o := _) rfl (fun K hK => ?_) AllReadyH.nil)
  · go_simp
    refine hK.out _ _ (Ext.alloc hS _) (fun hS2 => ?_)
    clear hK
    refine wpAnyH_ready (rs := [3, 4]) (by kernel_rfl) (by simp) ?_
    refine AllReadyH.cons (o := _) rfl (fun K hK => ?_) (AllReadyH.cons (o := _) rfl (fun K hK => ?_) AllReadyH.nil)
    · refine step_append_own_sl (some 32) rfl rfl (.tmp 29) (.tmp 31) 22 rfl _ 5 i0 _ 1 1 Try.underlying22 hi hz0 hz1' hz2' rfl (by omega) (some ⟨_, 0, none⟩) 0 0 [] rfl (.inl ⟨rfl, rfl, rfl⟩) D o.2.2.2.2.2.1.length dc (nums .u8 o.2.2.2.2.2.1) rfl (HD.out.below (HT1.out.bel.trans (hS2.2.2.mono HT1.out.bel.size))) (fun u hu => by
        obtain ⟨q, _, rfl⟩ := List.mem_map.1 hu
        rfl) (by omega) (by omega) (Nat.le_refl _) ?_
      intro A3 c3 w3 ho3 hb3 hg3
      rw [Nat.zero_add, List.nil_append] at ho3
      rw [Nat.zero_add]
      have hE3 := Ext.below hS2 hb3
      have ho3 := ho3.lower (base' := w1.heap.size) hS2.2.2.size
      refine hK.out _ _ hE3 (fun hS3 => ?_)
      clear hK
      refine wpAnyH_ready (rs := [4]) (by kernel_rfl) (by simp) ?_; refine AllReadyH.cons (o := _) rfl (fun K hK => ?_) AllReadyH.nil; go_simp
      have hb34 := below_alloc_one w3 (.cells #[.int .u8 7] 5)
      have k7 : SlA (w3.alloc (.cells #[.int .u8 7] 5)) 1 (some ⟨w3.heap.size, 0, none⟩) 1 [.int .u8 7] := sl_new w3 _ _ rfl _ _ 1 1 rfl
      have ho4 := ho3.alloc (.cells #[.int .u8 7] 5)
      refine hK.out _ _ (Ext.alloc hS3 _) (fun hS4 => ?_)
      clear hK
      refine wpAnyH_ready (rs := [5]) (by kernel_rfl) (by simp) ?_; refine AllReadyH.cons (o := _) rfl (fun K hK => ?_) AllReadyH.nil
      refine step_append_own_sl (some 34) rfl rfl (.tmp 32) (.tmp 33) 22 rfl w1.heap.size 5 i0 _ 1 1 Try.underlying22 hi hz0 hz1' hz2' rfl (by omega) A3 o.2.2.2.2.2.1.length c3 (nums .u8 o.2.2.2.2.2.1) rfl ho4 (some ⟨_, 0, none⟩) 1 1 [.int .u8 7] rfl k7 (by simp; rfl) (by omega) (by omega) hS4.2.2.size ?_
      intro A5 c5' w5 ho5 hb5 hg5
      have hb5 := hS4.2.2.trans hb5
      refine hK.out _ _ (Ext.of hb5) (fun hS5 => ?_)
      clear hK hg5
      have hs9 := run_slice_high (P := Try.prog) 22 5 i0 Try.underlying22 hi .i64 A5 (o.2.2.2.2.2.1.length + 1) c5' o.2.2.2.2.2.1.length (by have := ho5.le; omega)
      refine take_at (i := 9) (oi := _) (dst := some 38) (v := ?_) rfl rfl (by kernel_rfl) (by kernel_rfl) (by kernel_rfl) (fun _ _ _ h => h) (Or.inl ⟨by rfl, by intro w hSw; (try dsimp only at hSw); go_simp; (try with_reducible rfl)⟩) (by assumption) ?_; (try simp only [Act.put, List.setIfInBounds_toArray, List.set_cons_zero, List.set_cons_succ])
      refine wpAnyH_done (by kernel_rfl) ?_ _
      have hslD : SlA w5 1 A5 o.2.2.2.2.2.1.length (nums .u8 o.2.2.2.2.2.1) := by
        have h := ho5.sl.take (k := o.2.2.2.2.2.1.length) (by omega)
        rw [List.take_append_of_le_length (by simp [nums]), List.take_of_length_le (by simp [nums])] at h
        exact h
      obtain ⟨q, cl, rfl, hq1, kq, hbt⟩ : ∃ (q : Nat) (cl : List Value), A5 = some ⟨q, 0, none⟩ ∧ w1.heap.size ≤ q ∧ BlkT w5 q 5 cl ∧ Bytes cl o.2.2.2.2.2.1.length := by
        rcases ho5 with ⟨h0, _⟩ | h1
        · omega
        · rcases h1.2 with ⟨_, h0⟩ | ⟨g, cap, cur, hv, hbg, hgg, hnc, hcm, hcs, htake⟩
          · omega
          · injection hv with hv _ _
            refine ⟨g, cur.toList, hv, hbg, ?_, fun j hj => ?_⟩
            · show w5.heap[g]? = _
              rw [hgg]
            · have h3 : (cur.toList.take ((o.2.2.2.2.2.1.length + 1) * 1))[j]? = (nums .u8 o.2.2.2.2.2.1 ++ [.int .u8 7])[j]? := by rw [htake]
              rw [List.getElem?_take, if_pos (by omega)] at h3
              rw [h3, List.getElem?_append_left (by simpa [nums] using hj)]
              exact ⟨o.2.2.2.2.2.1[j], by simp [nums, hj]⟩
      have HT5 := Lib.hid (HT1.out.new hb5 kq hq1)
      have HSLD := Lib.hid hslD
      have HBT := Lib.hid hbt
      have c5 := (HT5.out.blk (q := w.heap.size) (List.mem_cons_of_mem _ (List.mem_cons_self ..))).blk.cell
      clear hs9 hslD hbt ho5 kq hb5 kb
      go_wp2_with (with_reducible refine stop_store ?_)
      refine hide (name_list (fun w6 hw6 => ?_))
      have hb56 : Below w5.heap.size w5 w6 := by rw [hw6]; exact (by (repeat first | refine Below.setCell ?_ (by first | omega | (dsimp only; omega) | (simp only [heap_drew, World.size_alloc, Gz.size_setCell]; omega)) _ | refine Below.alloc ?_ (by first | omega | (dsimp only; omega) | (simp only [heap_drew, World.size_alloc, Gz.size_setCell]; omega)) _ | refine Below.drew ?_); exact Below.refl _ _)
      have k8 : BlkT w6 w5.heap.size 29 [.int .i64 0, .int .i64 0, .int .i64 0, .slice none 0 0] := by rw [hw6]; exact blkT_at _ _ _ _ (by simp)
      have hz6 : w6.heap.size = w5.heap.size + 1 := by rw [hw6]; simp
      clear hw6
      refine hide (wpList_store_partT rfl 29 (.tmp 8) (.tmp 46) rfl w5.heap.size 0 29 _ [.int .i64 o.2.1, .int .i64 o.2.2.1, .int .i64 o.2.2.2.2.1, .slice (some ⟨q, 0, none⟩) o.2.2.2.2.2.1.length c5'] rfl rfl rfl _ k8 (by simp) (by kernel_rfl) rfl _ rfl ?_)
      intro w7 k8 hg7 hz7
      simp only [List.take_succ_cons, List.take_zero, List.drop_succ_cons, List.drop_zero, List.cons_append, List.nil_append, List.length_cons, List.length_nil] at k8
      have hb57 := below_grown hb56 hg7 (Nat.le_refl _) (by omega)
      have HT7 := Lib.hid (HT5.out.below hb57)
      have hip : IsP w7 [.int .i64 o.2.1, .int .i64 o.2.2.1, .int .i64 o.2.2.2.2.1, .slice (some ⟨q, 0, none⟩) o.2.2.2.2.2.1.length c5'] (o.2.1, o.2.2.1, o.2.2.2.2.1, o.2.2.2.2.2.1) := ⟨_, c5', rfl, HSLD.out.below hb57⟩
      have c8 := k8.blk.cell
      clear hb56 hg7 hz7 hz6 hb57 k8 c5 HSLD
      go_wp2_with fail
      refine (ts_send1 HT7.out hn hN hip hdl').mono ?_
      rintro e w8 ⟨E, f', rfl, hv, hts⟩
      have HV := Lib.hid hv
      have HT8 := Lib.hid hts
      have c5 := (hts.blk (q := w.heap.size) (List.mem_cons_of_mem _ (List.mem_cons_self ..))).blk.cell
      have hip2 : IsP w8 [.int .i64 o.2.1, .int .i64 o.2.2.1, .int .i64 o.2.2.2.2.1, .slice D o.2.2.2.2.2.1.length dc] (o.2.1, o.2.2.1, o.2.2.2.2.1, o.2.2.2.2.2.1) := ⟨_, dc, rfl, HD.out.below hts.bel⟩
      clear hv hts c8 hip
      go_wp2_with fail
      refine (ts_send2 HT8.out HV.out hn hip2 hdl').mono ?_
      rintro e w9 ⟨rfl, hts⟩
      have HT9 := Lib.hid (hts.sub (ks' := [(q, 5, cl)]) (fun z hz => by simp only [List.mem_singleton] at hz; subst hz; exact List.mem_cons_self ..))
      clear hts hip2 c5
      have eE : (E == E) = true := by simp
      go_wp2_with fail
      go_loopw [11] (fun s11 wr => ∃ (i : Nat) (cl' : List Value), s11 = .int .i64 i ∧ i ≤ o.2.2.2.2.2.1.length ∧ TS w0 w wr F0 g r n (N + 1) f' S f' S [(q, 5, cl')] ∧ Bytes cl' o.2.2.2.2.2.1.length) (fun s11 _ => (o.2.2.2.2.2.1.length - RowKit.intOf s11).toNat)
      case atStart => exact ⟨0, cl, rfl, Nat.zero_le _, HT9.out, HBT.out⟩
      case round =>
        clear HT9 HBT
        obtain ⟨i, cl', rfl, hi', hts, hbt⟩ := hrel
        have HTR := Lib.hid hts
        by_cases hlt : i < o.2.2.2.2.2.1.length
        · have q0 : (0 : Int) ≤ (i : Int) := by omega
          have q1 : (i : Int) < (o.2.2.2.2.2.1.length : Int) := by omega
          obtain ⟨v, hv⟩ := hbt i hlt
          have kq := hts.blk (List.mem_cons_self ..)
          have cq := kq.blk.cell i
          rw [hv] at cq
          have hjl := (List.getElem?_eq_some_iff.1 hv).1
          have HBT := Lib.hid hbt
          have KQ := Lib.hid kq
          clear hv hts hbt kq
          go_wp2_with (with_reducible refine stop_store ?_)
          refine hide (wpList_store_partT rfl 5 (.tmp 72) (.tmp 71) rfl q i 5 _ [.int .u8 (IntKind.u8.wrap (v + 1))] rfl rfl rfl cl' KQ.out (by simp; omega) (by kernel_rfl) rfl _ (list_set_take hjl) ?_)
          intro w10 kq10 hg10 hz10
          have HT10 := Lib.hid (HTR.out.store hg10 kq10 (fun z hz => by cases hz))
          clear kq10 hg10 hz10 cq
          go_wp2
          go_roundw
          case rel => exact ⟨i + 1, _, by go_num, by omega, HT10.out, HBT.out.set i _⟩
          case measure => simp [RowKit.intOf]; omega
        · obtain rfl : i = o.2.2.2.2.2.1.length := by omega
          have q1 : ¬ (o.2.2.2.2.2.1.length : Int) < (o.2.2.2.2.2.1.length : Int) := by omega
          clear hts hbt
          go_wp2
          go_ret
          exact ⟨rfl, f', S, HTR.out.sub (fun z hz => by cases hz), HV.out.sane HS.out hdl', fun _ p q hpq => HV.out.other hpq⟩
    · go_simp
      have k7 : SlA ((w1.drew.alloc (.cells #[] 5)).alloc (.cells #[.int .u8 7] 5)) 1 (some ⟨w1.heap.size + 1, 0, none⟩) 1 [.int .u8 7] := sl_new _ _ _ (by simp) _ _ 1 1 rfl
      refine hK.out _ _ (Ext.alloc hS2 _) (fun hS2b => ?_)
      clear hK
      refine wpAnyH_ready (rs := [3]) (by kernel_rfl) (by simp) ?_; refine AllReadyH.cons (o := _) rfl (fun K hK => ?_) AllReadyH.nil
      refine step_append_own_sl (some 32) rfl rfl (.tmp 29) (.tmp 31) 22 rfl _ 5 i0 _ 1 1 Try.underlying22 hi hz0 hz1' hz2' rfl (by omega) (some ⟨_, 0, none⟩) 0 0 [] rfl (.inl ⟨rfl, rfl, rfl⟩) D o.2.2.2.2.2.1.length dc (nums .u8 o.2.2.2.2.2.1) rfl (HD.out.below (HT1.out.bel.trans (hS2b.2.2.mono HT1.out.bel.size))) (fun u hu => by
        obtain ⟨q, _, rfl⟩ := List.mem_map.1 hu
        rfl) (by omega) (by omega) (Nat.le_refl _) ?_
      intro A3 c3 w3 ho3 hb3 hg3
      rw [Nat.zero_add, List.nil_append] at ho3
      rw [Nat.zero_add]
      have hE3 := Ext.below hS2b hb3
      have ho3 := ho3.lower (base' := w1.heap.size) hS2b.2.2.size
      refine hK.out _ _ hE3 (fun hS3 => ?_)
      clear hK
      have k7' := k7.below hb3
      refine wpAnyH_ready (rs := [5]) (by kernel_rfl) (by simp) ?_; refine AllReadyH.cons (o := _) rfl (fun K hK => ?_) AllReadyH.nil
      refine step_append_own_sl (some 34) rfl rfl (.tmp 32) (.tmp 33) 22 rfl w1.heap.size 5 i0 _ 1 1 Try.underlying22 hi hz0 hz1' hz2' rfl (by omega) A3 o.2.2.2.2.2.1.length c3 (nums .u8 o.2.2.2.2.2.1) rfl ho3 (some ⟨_, 0, none⟩) 1 1 [.int .u8 7] rfl k7' (by simp; rfl) (by omega) (by omega) hS3.2.2.size ?_
      intro A5 c5' w5 ho5 hb5 hg5
      have hb5 := hS3.2.2.trans hb5
      refine hK.out _ _ (Ext.of hb5) (fun hS5 => ?_)
      clear hK hg5
      have hs9 := run_slice_high (P := Try.prog) 22 5 i0 Try.underlying22 hi .i64 A5 (o.2.2.2.2.2.1.length + 1) c5' o.2.2.2.2.2.1.length (by have := ho5.le; omega)
      refine take_at (i := 9) (oi := _) (dst := some 38) (v := ?_) rfl rfl (by kernel_rfl) (by kernel_rfl) (by kernel_rfl) (fun _ _ _ h => h) (Or.inl ⟨by rfl, by intro w hSw; (try dsimp only at hSw); go_simp; (try with_reducible rfl)⟩) (by assumption) ?_; (try simp only [Act.put, List.setIfInBounds_toArray, List.set_cons_zero, List.set_cons_succ])
      refine wpAnyH_done (by kernel_rfl) ?_ _
      have hslD : SlA w5 1 A5 o.2.2.2.2.2.1.length (nums .u8 o.2.2.2.2.2.1) := by
        have h := ho5.sl.take (k := o.2.2.2.2.2.1.length) (by omega)
        rw [List.take_append_of_le_length (by simp [nums]), List.take_of_length_le (by simp [nums])] at h
        exact h
      obtain ⟨q, cl, rfl, hq1, kq, hbt⟩ : ∃ (q : Nat) (cl : List Value), A5 = some ⟨q, 0, none⟩ ∧ w1.heap.size ≤ q ∧ BlkT w5 q 5 cl ∧ Bytes cl o.2.2.2.2.2.1.length := by
        rcases ho5 with ⟨h0, _⟩ | h1
        · omega
        · rcases h1.2 with ⟨_, h0⟩ | ⟨g, cap, cur, hv, hbg, hgg, hnc, hcm, hcs, htake⟩
          · omega
          · injection hv with hv _ _
            refine ⟨g, cur.toList, hv, hbg, ?_, fun j hj => ?_⟩
            · show w5.heap[g]? = _
              rw [hgg]
            · have h3 : (cur.toList.take ((o.2.2.2.2.2.1.length + 1) * 1))[j]? = (nums .u8 o.2.2.2.2.2.1 ++ [.int .u8 7])[j]? := by rw [htake]
              rw [List.getElem?_take, if_pos (by omega)] at h3
              rw [h3, List.getElem?_append_left (by simpa [nums] using hj)]
              exact ⟨o.2.2.2.2.2.1[j], by simp [nums, hj]⟩
      have HT5 := Lib.hid (HT1.out.new hb5 kq hq1)
      have HSLD := Lib.hid hslD
      have HBT := Lib.hid hbt
      have c5 := (HT5.out.blk (q := w.heap.size) (List.mem_cons_of_mem _ (List.mem_cons_self ..))).blk.cell
      clear hs9 hslD hbt ho5 kq hb5 kb
      go_wp2_with (with_reducible refine stop_store ?_)
      refine hide (name_list (fun w6 hw6 => ?_))
      have hb56 : Below w5.heap.size w5 w6 := by rw [hw6]; exact (by (repeat first | refine Below.setCell ?_ (by first | omega | (dsimp only; omega) | (simp only [heap_drew, World.size_alloc, Gz.size_setCell]; omega)) _ | refine Below.alloc ?_ (by first | omega | (dsimp only; omega) | (simp only [heap_drew, World.size_alloc, Gz.size_setCell]; omega)) _ | refine Below.drew ?_); exact Below.refl _ _)
      have k8 : BlkT w6 w5.heap.size 29 [.int .i64 0, .int .i64 0, .int .i64 0, .slice none 0 0] := by rw [hw6]; exact blkT_at _ _ _ _ (by simp)
      have hz6 : w6.heap.size = w5.heap.size + 1 := by rw [hw6]; simp
      clear hw6
      refine hide (wpList_store_partT rfl 29 (.tmp 8) (.tmp 46) rfl w5.heap.size 0 29 _ [.int .i64 o.2.1, .int .i64 o.2.2.1, .int .i64 o.2.2.2.2.1, .slice (some ⟨q, 0, none⟩) o.2.2.2.2.2.1.length c5'] rfl rfl rfl _ k8 (by simp) (by kernel_rfl) rfl _ rfl ?_)
      intro w7 k8 hg7 hz7
      simp only [List.take_succ_cons, List.take_zero, List.drop_succ_cons, List.drop_zero, List.cons_append, List.nil_append, List.length_cons, List.length_nil] at k8
      have hb57 := below_grown hb56 hg7 (Nat.le_refl _) (by omega)
      have HT7 := Lib.hid (HT5.out.below hb57)
      have hip : IsP w7 [.int .i64 o.2.1, .int .i64 o.2.2.1, .int .i64 o.2.2.2.2.1, .slice (some ⟨q, 0, none⟩) o.2.2.2.2.2.1.length c5'] (o.2.1, o.2.2.1, o.2.2.2.2.1, o.2.2.2.2.2.1) := ⟨_, c5', rfl, HSLD.out.below hb57⟩
      have c8 := k8.blk.cell
      clear hb56 hg7 hz7 hz6 hb57 k8 c5 HSLD
      go_wp2_with fail
      refine (ts_send1 HT7.out hn hN hip hdl').mono ?_
      rintro e w8 ⟨E, f', rfl, hv, hts⟩
      have HV := Lib.hid hv
      have HT8 := Lib.hid hts
      have c5 := (hts.blk (q := w.heap.size) (List.mem_cons_of_mem _ (List.mem_cons_self ..))).blk.cell
      have hip2 : IsP w8 [.int .i64 o.2.1, .int .i64 o.2.2.1, .int .i64 o.2.2.2.2.1, .slice D o.2.2.2.2.2.1.length dc] (o.2.1, o.2.2.1, o.2.2.2.2.1, o.2.2.2.2.2.1) := ⟨_, dc, rfl, HD.out.below hts.bel⟩
      clear hv hts c8 hip
      go_wp2_with fail
      refine (ts_send2 HT8.out HV.out hn hip2 hdl').mono ?_
      rintro e w9 ⟨rfl, hts⟩
      have HT9 := Lib.hid (hts.sub (ks' := [(q, 5, cl)]) (fun z hz => by simp only [List.mem_singleton] at hz; subst hz; exact List.mem_cons_self ..))
      clear hts hip2 c5
      have eE : (E == E) = true := by simp
      go_wp2_with fail
      go_loopw [11] (fun s11 wr => ∃ (i : Nat) (cl' : List Value), s11 = .int .i64 i ∧ i ≤ o.2.2.2.2.2.1.length ∧ TS w0 w wr F0 g r n (N + 1) f' S f' S [(q, 5, cl')] ∧ Bytes cl' o.2.2.2.2.2.1.length) (fun s11 _ => (o.2.2.2.2.2.1.length - RowKit.intOf s11).toNat)
      case atStart => exact ⟨0, cl, rfl, Nat.zero_le _, HT9.out, HBT.out⟩
      case round =>
        clear HT9 HBT
        obtain ⟨i, cl', rfl, hi', hts, hbt⟩ := hrel
        have HTR := Lib.hid hts
        by_cases hlt : i < o.2.2.2.2.2.1.length
        · have q0 : (0 : Int) ≤ (i : Int) := by omega
          have q1 : (i : Int) < (o.2.2.2.2.2.1.length : Int) := by omega
          obtain ⟨v, hv⟩ := hbt i hlt
          have kq := hts.blk (List.mem_cons_self ..)
          have cq := kq.blk.cell i
          rw [hv] at cq
          have hjl := (List.getElem?_eq_some_iff.1 hv).1
          have HBT := Lib.hid hbt
          have KQ := Lib.hid kq
          clear hv hts hbt kq
          go_wp2_with (with_reducible refine stop_store ?_)
          refine hide (wpList_store_partT rfl 5 (.tmp 72) (.tmp 71) rfl q i 5 _ [.int .u8 (IntKind.u8.wrap (v + 1))] rfl rfl rfl cl' KQ.out (by simp; omega) (by kernel_rfl) rfl _ (list_set_take hjl) ?_)
          intro w10 kq10 hg10 hz10
          have HT10 := Lib.hid (HTR.out.store hg10 kq10 (fun z hz => by cases hz))
          clear kq10 hg10 hz10 cq
          go_wp2
          go_roundw
          case rel => exact ⟨i + 1, _, by go_num, by omega, HT10.out, HBT.out.set i _⟩
          case measure => simp [RowKit.intOf]; omega
        · obtain rfl : i = o.2.2.2.2.2.1.length := by omega
          have q1 : ¬ (o.2.2.2.2.2.1.length : Int) < (o.2.2.2.2.2.1.length : Int) := by omega
          clear hts hbt
          go_wp2
          go_ret
          exact ⟨rfl, f', S, HTR.out.sub (fun z hz => by cases hz), HV.out.sane HS.out hdl', fun _ p q hpq => HV.out.other hpq⟩
  · go_simp
    refine hK.out _ _ (Ext.alloc hS _) (fun hS2 => ?_)
    clear hK
    refine wpAnyH_ready (rs := [0]) (by kernel_rfl) (by simp) ?_; refine AllReadyH.cons (o := _) rfl (fun K hK => ?_) AllReadyH.nil; go_simp
    have k7 : SlA ((w1.drew.alloc (.cells #[.int .u8 7] 5)).alloc (.cells #[] 5)) 1 (some ⟨w1.heap.size, 0, none⟩) 1 [.int .u8 7] := (sl_new _ _ _ (by simp) _ _ 1 1 rfl).below (below_alloc_one _ _)
    refine hK.out _ _ (Ext.alloc hS2 _) (fun hS2b => ?_)
    clear hK
    refine wpAnyH_ready (rs := [3]) (by kernel_rfl) (by simp) ?_; refine AllReadyH.cons (o := _) rfl (fun K hK => ?_) AllReadyH.nil
    refine step_append_own_sl (some 32) rfl rfl (.tmp 29) (.tmp 31) 22 rfl _ 5 i0 _ 1 1 Try.underlying22 hi hz0 hz1' hz2' rfl (by omega) (some ⟨_, 0, none⟩) 0 0 [] rfl (.inl ⟨rfl, rfl, rfl⟩) D o.2.2.2.2.2.1.length dc (nums .u8 o.2.2.2.2.2.1) rfl (HD.out.below (HT1.out.bel.trans (hS2b.2.2.mono HT1.out.bel.size))) (fun u hu => by
      obtain ⟨q, _, rfl⟩ := List.mem_map.1 hu
      rfl) (by omega) (by omega) (Nat.le_refl _) ?_
    intro A3 c3 w3 ho3 hb3 hg3
    rw [Nat.zero_add, List.nil_append] at ho3
    rw [Nat.zero_add]
    have hE3 := Ext.below hS2b hb3
    have ho3 := ho3.lower (base' := w1.heap.size) hS2b.2.2.size
    refine hK.out _ _ hE3 (fun hS3 => ?_)
    clear hK
    have k7' := k7.below hb3
    refine wpAnyH_ready (rs := [5]) (by kernel_rfl) (by simp) ?_; refine AllReadyH.cons (o := _) rfl (fun K hK => ?_) AllReadyH.nil
    refine step_append_own_sl (some 34) rfl rfl (.tmp 32) (.tmp 33) 22 rfl w1.heap.size 5 i0 _ 1 1 Try.underlying22 hi hz0 hz1' hz2' rfl (by omega) A3 o.2.2.2.2.2.1.length c3 (nums .u8 o.2.2.2.2.2.1) rfl ho3 (some ⟨_, 0, none⟩) 1 1 [.int .u8 7] rfl k7' (by simp; rfl) (by omega) (by omega) hS3.2.2.size ?_
    intro A5 c5' w5 ho5 hb5 hg5
    have hb5 := hS3.2.2.trans hb5
    refine hK.out _ _ (Ext.of hb5) (fun hS5 => ?_)
    clear hK hg5
    have hs9 := run_slice_high (P := Try.prog) 22 5 i0 Try.underlying22 hi .i64 A5 (o.2.2.2.2.2.1.length + 1) c5' o.2.2.2.2.2.1.length (by have := ho5.le; omega)
    refine take_at (i := 9) (oi := _) (dst := some 38) (v := ?_) rfl rfl (by kernel_rfl) (by kernel_rfl) (by kernel_rfl) (fun _ _ _ h => h) (Or.inl ⟨by rfl, by intro w hSw; (try dsimp only at hSw); go_simp; (try with_reducible rfl)⟩) (by assumption) ?_; (try simp only [Act.put, List.setIfInBounds_toArray, List.set_cons_zero, List.set_cons_succ])
    refine wpAnyH_done (by kernel_rfl) ?_ _
    have hslD : SlA w5 1 A5 o.2.2.2.2.2.1.length (nums .u8 o.2.2.2.2.2.1) := by
      have h := ho5.sl.take (k := o.2.2.2.2.2.1.length) (by omega)
      rw [List.take_append_of_le_length (by simp [nums]), List.take_of_length_le (by simp [nums])] at h
      exact h
    obtain ⟨q, cl, rfl, hq1, kq, hbt⟩ : ∃ (q : Nat) (cl : List Value), A5 = some ⟨q, 0, none⟩ ∧ w1.heap.size ≤ q ∧ BlkT w5 q 5 cl ∧ Bytes cl o.2.2.2.2.2.1.length := by
      rcases ho5 with ⟨h0, _⟩ | h1
      · omega
      · rcases h1.2 with ⟨_, h0⟩ | ⟨g, cap, cur, hv, hbg, hgg, hnc, hcm, hcs, htake⟩
        · omega
        · injection hv with hv _ _
          refine ⟨g, cur.toList, hv, hbg, ?_, fun j hj => ?_⟩
          · show w5.heap[g]? = _
            rw [hgg]
          · have h3 : (cur.toList.take ((o.2.2.2.2.2.1.length + 1) * 1))[j]? = (nums .u8 o.2.2.2.2.2.1 ++ [.int .u8 7])[j]? := by rw [htake]
            rw [List.getElem?_take, if_pos (by omega)] at h3
            rw [h3, List.getElem?_append_left (by simpa [nums] using hj)]
            exact ⟨o.2.2.2.2.2.1[j], by simp [nums, hj]⟩
    have HT5 := Lib.hid (HT1.out.new hb5 kq hq1)
    have HSLD := Lib.hid hslD
    have HBT := Lib.hid hbt
    have c5 := (HT5.out.blk (q := w.heap.size) (List.mem_cons_of_mem _ (List.mem_cons_self ..))).blk.cell
    clear hs9 hslD hbt ho5 kq hb5 kb
    go_wp2_with (with_reducible refine stop_store ?_)
    refine hide (name_list (fun w6 hw6 => ?_))
    have hb56 : Below w5.heap.size w5 w6 := by rw [hw6]; exact (by (repeat first | refine Below.setCell ?_ (by first | omega | (dsimp only; omega) | (simp only [heap_drew, World.size_alloc, Gz.size_setCell]; omega)) _ | refine Below.alloc ?_ (by first | omega | (dsimp only; omega) | (simp only [heap_drew, World.size_alloc, Gz.size_setCell]; omega)) _ | refine Below.drew ?_); exact Below.refl _ _)
    have k8 : BlkT w6 w5.heap.size 29 [.int .i64 0, .int .i64 0, .int .i64 0, .slice none 0 0] := by rw [hw6]; exact blkT_at _ _ _ _ (by simp)
    have hz6 : w6.heap.size = w5.heap.size + 1 := by rw [hw6]; simp
    clear hw6
    refine hide (wpList_store_partT rfl 29 (.tmp 8) (.tmp 46) rfl w5.heap.size 0 29 _ [.int .i64 o.2.1, .int .i64 o.2.2.1, .int .i64 o.2.2.2.2.1, .slice (some ⟨q, 0, none⟩) o.2.2.2.2.2.1.length c5'] rfl rfl rfl _ k8 (by simp) (by kernel_rfl) rfl _ rfl ?_)
    intro w7 k8 hg7 hz7
    simp only [List.take_succ_cons, List.take_zero, List.drop_succ_cons, List.drop_zero, List.cons_append, List.nil_append, List.length_cons, List.length_nil] at k8
    have hb57 := below_grown hb56 hg7 (Nat.le_refl _) (by omega)
    have HT7 := Lib.hid (HT5.out.below hb57)
    have hip : IsP w7 [.int .i64 o.2.1, .int .i64 o.2.2.1, .int .i64 o.2.2.2.2.1, .slice (some ⟨q, 0, none⟩) o.2.2.2.2.2.1.length c5'] (o.2.1, o.2.2.1, o.2.2.2.2.1, o.2.2.2.2.2.1) := ⟨_, c5', rfl, HSLD.out.below hb57⟩
    have c8 := k8.blk.cell
    clear hb56 hg7 hz7 hz6 hb57 k8 c5 HSLD
    go_wp2_with fail
    refine (ts_send1 HT7.out hn hN hip hdl').mono ?_
    rintro e w8 ⟨E, f', rfl, hv, hts⟩
    have HV := Lib.hid hv
    have HT8 := Lib.hid hts
    have c5 := (hts.blk (q := w.heap.size) (List.mem_cons_of_mem _ (List.mem_cons_self ..))).blk.cell
    have hip2 : IsP w8 [.int .i64 o.2.1, .int .i64 o.2.2.1, .int .i64 o.2.2.2.2.1, .slice D o.2.2.2.2.2.1.length dc] (o.2.1, o.2.2.1, o.2.2.2.2.1, o.2.2.2.2.2.1) := ⟨_, dc, rfl, HD.out.below hts.bel⟩
    clear hv hts c8 hip
    go_wp2_with fail
    refine (ts_send2 HT8.out HV.out hn hip2 hdl').mono ?_
    rintro e w9 ⟨rfl, hts⟩
    have HT9 := Lib.hid (hts.sub (ks' := [(q, 5, cl)]) (fun z hz => by simp only [List.mem_singleton] at hz; subst hz; exact List.mem_cons_self ..))
    clear hts hip2 c5
    have eE : (E == E) = true := by simp
    go_wp2_with fail
    go_loopw [11] (fun s11 wr => ∃ (i : Nat) (cl' : List Value), s11 = .int .i64 i ∧ i ≤ o.2.2.2.2.2.1.length ∧ TS w0 w wr F0 g r n (N + 1) f' S f' S [(q, 5, cl')] ∧ Bytes cl' o.2.2.2.2.2.1.length) (fun s11 _ => (o.2.2.2.2.2.1.length - RowKit.intOf s11).toNat)
    case atStart => exact ⟨0, cl, rfl, Nat.zero_le _, HT9.out, HBT.out⟩
    case round =>
      clear HT9 HBT
      obtain ⟨i, cl', rfl, hi', hts, hbt⟩ := hrel
      have HTR := Lib.hid hts
      by_cases hlt : i < o.2.2.2.2.2.1.length
      · have q0 : (0 : Int) ≤ (i : Int) := by omega
        have q1 : (i : Int) < (o.2.2.2.2.2.1.length : Int) := by omega
        obtain ⟨v, hv⟩ := hbt i hlt
        have kq := hts.blk (List.mem_cons_self ..)
        have cq := kq.blk.cell i
        rw [hv] at cq
        have hjl := (List.getElem?_eq_some_iff.1 hv).1
        have HBT := Lib.hid hbt
        have KQ := Lib.hid kq
        clear hv hts hbt kq
        go_wp2_with (with_reducible refine stop_store ?_)
        refine hide (wpList_store_partT rfl 5 (.tmp 72) (.tmp 71) rfl q i 5 _ [.int .u8 (IntKind.u8.wrap (v + 1))] rfl rfl rfl cl' KQ.out (by simp; omega) (by kernel_rfl) rfl _ (list_set_take hjl) ?_)
        intro w10 kq10 hg10 hz10
        have HT10 := Lib.hid (HTR.out.store hg10 kq10 (fun z hz => by cases hz))
        clear kq10 hg10 hz10 cq
        go_wp2
        go_roundw
        case rel => exact ⟨i + 1, _, by go_num, by omega, HT10.out, HBT.out.set i _⟩
        case measure => simp [RowKit.intOf]; omega
      · obtain rfl : i = o.2.2.2.2.2.1.length := by omega
        have q1 : ¬ (o.2.2.2.2.2.1.length : Int) < (o.2.2.2.2.2.1.length : Int) := by omega
        clear hts hbt
        go_wp2
        go_ret
        exact ⟨rfl, f', S, HTR.out.sub (fun z hz => by cases hz), HV.out.sane HS.out hdl', fun _ p q hpq => HV.out.other hpq⟩
set_option maxHeartbeats 16000000 in
set_option maxRecDepth 40000 in
theorem step_send1 (w0 w : World) (F0 : Nat → Prop) (g r n N : Nat) (f : Bags) (S : Sides) (cs : List Value) (o : OpV) (ht : TS w0 w w F0 g r n N f S f S []) (hs : Sane n f) (hn : n ≤ 7) (hN0 : 17592186044416 ≤ N) (hN : N < maxLen) (ho : IsO w0 cs o) (hgo : GoodO o) (hdl : o.2.2.2.2.2.1.length ≤ 140737488351232) (hk : pickI o.1 9 = 1) :
    Calls Try.prog 21 #[.pointer (some ⟨g, 0, none⟩), .pointer (some ⟨r, 0, none⟩), .agg cs.toArray] w fun e w' => StepIs w0 w w' F0 g r n N f o e := by
  obtain ⟨D, dc, E0, ec, rfl, hD, hE, hdc⟩ := ho
  have HT := Lib.hid ht
  have HD := Lib.hid hD
  have HE := Lib.hid hE
  have HGO := Lib.hid hgo
  have hc0 := hgo.call.1
  have hc1 := hgo.call.2
  have HS := Lib.hid hs
  have HKK := Lib.hid hk
  clear ht hD hE hs hgo
  go_enter Try.func21, Try.ntmps21
  go_wp2_with fail
  refine name_calls (fun w1 hw1 => ?_)
  have hb1 : Below w.heap.size w w1 := by rw [hw1]; exact below_alloc_one _ _
  have kb : BlkT w1 w.heap.size 42 [.int .i64 o.1, .int .i64 o.2.1, .int .i64 o.2.2.1, .int .i64 o.2.2.2.1, .int .i64 o.2.2.2.2.1, .slice D o.2.2.2.2.2.1.length dc, .slice E0 o.2.2.2.2.2.2.length ec] := by rw [hw1]; exact BlkT.new _ _ _
  clear hw1
  have HT1 := Lib.hid (HT.out.new hb1 kb (Nat.le_refl _))
  refine (pick_any o.1 9 w1 (by decide) (by decide) hc0 hc1).mono ?_
  rintro e w1' ⟨rfl, hw1'⟩
  rw [hw1', hk]
  clear hw1' w1' hk hc0 hc1 hb1
  have c5 := kb.blk.cell
  have hdl' : o.2.2.2.2.2.1.length ≤ 140737488355328 := by omega
  obtain ⟨i0, hi, hz0, hz1', hz2'⟩ := info_parts infoByte
  go_wp2_with fail
  refine wp_region_phase 10 (S := Ext w1) (by kernel_rfl) rfl (by kernel_rfl) (fun hS => ?_) Ext.start
  simp only [List.take_succ_cons, List.take_zero, List.drop_succ_cons, List.drop_zero]
  refine take_at (i := 1) (oi := _) (dst := some 30) (v := ?_) rfl rfl (by kernel_rfl) (by kernel_rfl) (by kernel_rfl) (fun _ _ _ h => h) (Or.inl ⟨by rfl, by intro w hSw; (try dsimp only at hSw); go_simp; (try with_reducible rfl)⟩) (by assumption) ?_; (try simp only [Act.put, List.setIfInBounds_toArray, List.set_cons_zero, List.set_cons_succ])
  refine take_at (i := 2) (oi := _) (dst := some 31) (v := ?_) rfl rfl (by kernel_rfl) (by kernel_rfl) (by kernel_rfl) (fun _ _ _ h => h) (Or.inl ⟨by rfl, by intro w hSw; (try dsimp only at hSw); go_simp; (try with_reducible rfl)⟩) (by assumption) ?_; (try simp only [Act.put, List.setIfInBounds_toArray, List.set_cons_zero, List.set_cons_succ])
  refine take_at (i := 6) (oi := _) (dst := some 35) (v := ?_) rfl rfl (by kernel_rfl) (by kernel_rfl) (by kernel_rfl) (fun _ _ _ h => h) (Or.inl ⟨by rfl, by intro w hSw; (try dsimp only at hSw); go_simp; (try with_reducible rfl)⟩) (by assumption) ?_; (try simp only [Act.put, List.setIfInBounds_toArray, List.set_cons_zero, List.set_cons_succ])
  refine take_at (i := 7) (oi := _) (dst := some 36) (v := ?_) rfl rfl (by kernel_rfl) (by kernel_rfl) (by kernel_rfl) (fun _ _ _ h => h) (Or.inl ⟨by rfl, by intro w hSw; (try dsimp only at hSw); go_simp; (try with_reducible rfl)⟩) (by assumption) ?_; (try simp only [Act.put, List.setIfInBounds_toArray, List.set_cons_zero, List.set_cons_succ])
  refine take_at (i := 8) (oi := _) (dst := some 37) (v := ?_) rfl rfl (by kernel_rfl) (by kernel_rfl) (by kernel_rfl) (fun _ _ _ h => h) (Or.inl ⟨by rfl, by intro w hSw; (try dsimp only at hSw); go_simp; (try with_reducible rfl)⟩) (by assumption) ?_; (try simp only [Act.put, List.setIfInBounds_toArray, List.set_cons_zero, List.set_cons_succ])
  clear c5
  refine wpAnyH_ready (rs := [0, 4]) (by kernel_rfl) (by simp) ?_
  refine AllReadyH.cons (o := _) rfl (fun K hK => ?_) (AllReadyH.cons (o := _) rfl (fun K hK => ?_) AllReadyH.nil)
  · go_simp
    refine hK.out _ _ (Ext.alloc hS _) (fun hS2 => ?_)
    clear hK
    refine wpAnyH_ready (rs := [3, 4]) (by kernel_rfl) (by simp) ?_
    refine AllReadyH.cons (o := _) rfl (fun K hK => ?_) (AllReadyH.cons (o := _) rfl (fun K hK => ?_) AllReadyH.nil)
    · refine step_append_own_sl (some 32) rfl rfl (.tmp 29) (.tmp 31) 22 rfl _ 5 i0 _ 1 1 Try.underlying22 hi hz0 hz1' hz2' rfl (by omega) (some ⟨_, 0, none⟩) 0 0 [] rfl (.inl ⟨rfl, rfl, rfl⟩) D o.2.2.2.2.2.1.length dc (nums .u8 o.2.2.2.2.2.1) rfl (HD.out.below (HT1.out.bel.trans (hS2.2.2.mono HT1.out.bel.size))) (fun u hu => by
        obtain ⟨q, _, rfl⟩ := List.mem_map.1 hu
        rfl) (by omega) (by omega) (Nat.le_refl _) ?_
      intro A3 c3 w3 ho3 hb3 hg3
      rw [Nat.zero_add, List.nil_append] at ho3
      rw [Nat.zero_add]
      have hE3 := Ext.below hS2 hb3
      have ho3 := ho3.lower (base' := w1.heap.size) hS2.2.2.size
      refine hK.out _ _ hE3 (fun hS3 => ?_)
      clear hK
      refine wpAnyH_ready (rs := [4]) (by kernel_rfl) (by simp) ?_; refine AllReadyH.cons (o := _) rfl (fun K hK => ?_) AllReadyH.nil; go_simp
      have hb34 := below_alloc_one w3 (.cells #[.int .u8 7] 5)
      have k7 : SlA (w3.alloc (.cells #[.int .u8 7] 5)) 1 (some ⟨w3.heap.size, 0, none⟩) 1 [.int .u8 7] := sl_new w3 _ _ rfl _ _ 1 1 rfl
      have ho4 := ho3.alloc (.cells #[.int .u8 7] 5)
      refine hK.out _ _ (Ext.alloc hS3 _) (fun hS4 => ?_)
      clear hK
      refine wpAnyH_ready (rs := [5]) (by kernel_rfl) (by simp) ?_; refine AllReadyH.cons (o := _) rfl (fun K hK => ?_) AllReadyH.nil
      refine step_append_own_sl (some 34) rfl rfl (.tmp 32) (.tmp 33) 22 rfl w1.heap.size 5 i0 _ 1 1 Try.underlying22 hi hz0 hz1' hz2' rfl (by omega) A3 o.2.2.2.2.2.1.length c3 (nums .u8 o.2.2.2.2.2.1) rfl ho4 (some ⟨_, 0, none⟩) 1 1 [.int .u8 7] rfl k7 (by simp; rfl) (by omega) (by omega) hS4.2.2.size ?_
      intro A5 c5' w5 ho5 hb5 hg5
      have hb5 := hS4.2.2.trans hb5
      refine hK.out _ _ (Ext.of hb5) (fun hS5 => ?_)
      clear hK hg5
      have hs9 := run_slice_high (P := Try.prog) 22 5 i0 Try.underlying22 hi .i64 A5 (o.2.2.2.2.2.1.length + 1) c5' o.2.2.2.2.2.1.length (by have := ho5.le; omega)
      refine take_at (i := 9) (oi := _) (dst := some 38) (v := ?_) rfl rfl (by kernel_rfl) (by kernel_rfl) (by kernel_rfl) (fun _ _ _ h => h) (Or.inl ⟨by rfl, by intro w hSw; (try dsimp only at hSw); go_simp; (try with_reducible rfl)⟩) (by assumption) ?_; (try simp only [Act.put, List.setIfInBounds_toArray, List.set_cons_zero, List.set_cons_succ])
      refine wpAnyH_done (by kernel_rfl) ?_ _
      have hslD : SlA w5 1 A5 o.2.2.2.2.2.1.length (nums .u8 o.2.2.2.2.2.1) := by
        have h := ho5.sl.take (k := o.2.2.2.2.2.1.length) (by omega)
        rw [List.take_append_of_le_length (by simp [nums]), List.take_of_length_le (by simp [nums])] at h
        exact h
      obtain ⟨q, cl, rfl, hq1, kq, hbt⟩ : ∃ (q : Nat) (cl : List Value), A5 = some ⟨q, 0, none⟩ ∧ w1.heap.size ≤ q ∧ BlkT w5 q 5 cl ∧ Bytes cl o.2.2.2.2.2.1.length := by
        rcases ho5 with ⟨h0, _⟩ | h1
        · omega
        · rcases h1.2 with ⟨_, h0⟩ | ⟨g, cap, cur, hv, hbg, hgg, hnc, hcm, hcs, htake⟩
          · omega
          · injection hv with hv _ _
            refine ⟨g, cur.toList, hv, hbg, ?_, fun j hj => ?_⟩
            · show w5.heap[g]? = _
              rw [hgg]
            · have h3 : (cur.toList.take ((o.2.2.2.2.2.1.length + 1) * 1))[j]? = (nums .u8 o.2.2.2.2.2.1 ++ [.int .u8 7])[j]? := by rw [htake]
              rw [List.getElem?_take, if_pos (by omega)] at h3
              rw [h3, List.getElem?_append_left (by simpa [nums] using hj)]
              exact ⟨o.2.2.2.2.2.1[j], by simp [nums, hj]⟩
      have HT5 := Lib.hid (HT1.out.new hb5 kq hq1)
      have HSLD := Lib.hid hslD
      have HBT := Lib.hid hbt
      have c5 := (HT5.out.blk (q := w.heap.size) (List.mem_cons_of_mem _ (List.mem_cons_self ..))).blk.cell
      clear hs9 hslD hbt ho5 kq hb5 kb
      go_wp2_with (with_reducible refine stop_store ?_)
      refine hide (name_list (fun w6 hw6 => ?_))
      have hb56 : Below w5.heap.size w5 w6 := by rw [hw6]; exact (by (repeat first | refine Below.setCell ?_ (by first | omega | (dsimp only; omega) | (simp only [heap_drew, World.size_alloc, Gz.size_setCell]; omega)) _ | refine Below.alloc ?_ (by first | omega | (dsimp only; omega) | (simp only [heap_drew, World.size_alloc, Gz.size_setCell]; omega)) _ | refine Below.drew ?_); exact Below.refl _ _)
      have k8 : BlkT w6 w5.heap.size 29 [.int .i64 0, .int .i64 0, .int .i64 0, .slice none 0 0] := by rw [hw6]; exact blkT_at _ _ _ _ (by simp)
      have hz6 : w6.heap.size = w5.heap.size + 1 := by rw [hw6]; simp
      clear hw6
      refine hide (wpList_store_partT rfl 29 (.tmp 8) (.tmp 46) rfl w5.heap.size 0 29 _ [.int .i64 o.2.1, .int .i64 o.2.2.1, .int .i64 o.2.2.2.2.1, .slice (some ⟨q, 0, none⟩) o.2.2.2.2.2.1.length c5'] rfl rfl rfl _ k8 (by simp) (by kernel_rfl) rfl _ rfl ?_)
      intro w7 k8 hg7 hz7
      simp only [List.take_succ_cons, List.take_zero, List.drop_succ_cons, List.drop_zero, List.cons_append, List.nil_append, List.length_cons, List.length_nil] at k8
      have hb57 := below_grown hb56 hg7 (Nat.le_refl _) (by omega)
      have HT7 := Lib.hid (HT5.out.below hb57)
      have hip : IsP w7 [.int .i64 o.2.1, .int .i64 o.2.2.1, .int .i64 o.2.2.2.2.1, .slice (some ⟨q, 0, none⟩) o.2.2.2.2.2.1.length c5'] (o.2.1, o.2.2.1, o.2.2.2.2.1, o.2.2.2.2.2.1) := ⟨_, c5', rfl, HSLD.out.below hb57⟩
      have c8 := k8.blk.cell
      clear hb56 hg7 hz7 hz6 hb57 k8 c5 HSLD
      go_wp2_with fail
      refine (ts_send1 HT7.out hn hN hip hdl').mono ?_
      rintro e w8 ⟨E, f', rfl, hv, hts⟩
      have HV := Lib.hid hv
      have HT8 := Lib.hid hts
      have c5 := (hts.blk (q := w.heap.size) (List.mem_cons_of_mem _ (List.mem_cons_self ..))).blk.cell
      have hip2 : IsP w8 [.int .i64 o.2.1, .int .i64 o.2.2.1, .int .i64 o.2.2.2.2.1, .slice D o.2.2.2.2.2.1.length dc] (o.2.1, o.2.2.1, o.2.2.2.2.1, o.2.2.2.2.2.1) := ⟨_, dc, rfl, HD.out.below hts.bel⟩
      clear hv hts c8 hip
      go_wp2_with fail
      refine (ts_send2 HT8.out HV.out hn hip2 hdl').mono ?_
      rintro e w9 ⟨rfl, hts⟩
      have HT9 := Lib.hid (hts.sub (ks' := [(q, 5, cl)]) (fun z hz => by simp only [List.mem_singleton] at hz; subst hz; exact List.mem_cons_self ..))
      clear hts hip2 c5
      have eE : (E == E) = true := by simp
      go_wp2_with fail
      go_loopw [11] (fun s11 wr => ∃ (i : Nat) (cl' : List Value), s11 = .int .i64 i ∧ i ≤ o.2.2.2.2.2.1.length ∧ TS w0 w wr F0 g r n (N + 1) f' S f' S [(q, 5, cl')] ∧ Bytes cl' o.2.2.2.2.2.1.length) (fun s11 _ => (o.2.2.2.2.2.1.length - RowKit.intOf s11).toNat)
      case atStart => exact ⟨0, cl, rfl, Nat.zero_le _, HT9.out, HBT.out⟩
      case round =>
        clear HT9 HBT
        obtain ⟨i, cl', rfl, hi', hts, hbt⟩ := hrel
        have HTR := Lib.hid hts
        by_cases hlt : i < o.2.2.2.2.2.1.length
        · have q0 : (0 : Int) ≤ (i : Int) := by omega
          have q1 : (i : Int) < (o.2.2.2.2.2.1.length : Int) := by omega
          obtain ⟨v, hv⟩ := hbt i hlt
          have kq := hts.blk (List.mem_cons_self ..)
          have cq := kq.blk.cell i
          rw [hv] at cq
          have hjl := (List.getElem?_eq_some_iff.1 hv).1
          have HBT := Lib.hid hbt
          have KQ := Lib.hid kq
          clear hv hts hbt kq
          go_wp2_with (with_reducible refine stop_store ?_)
          refine hide (wpList_store_partT rfl 5 (.tmp 72) (.tmp 71) rfl q i 5 _ [.int .u8 (IntKind.u8.wrap (v + 1))] rfl rfl rfl cl' KQ.out (by simp; omega) (by kernel_rfl) rfl _ (list_set_take hjl) ?_)
          intro w10 kq10 hg10 hz10
          have HT10 := Lib.hid (HTR.out.store hg10 kq10 (fun z hz => by cases hz))
          clear kq10 hg10 hz10 cq
          go_wp2
          go_roundw
          case rel => exact ⟨i + 1, _, by go_num, by omega, HT10.out, HBT.out.set i _⟩
          case measure => simp [RowKit.intOf]; omega
        · obtain rfl : i = o.2.2.2.2.2.1.length := by omega
          have q1 : ¬ (o.2.2.2.2.2.1.length : Int) < (o.2.2.2.2.2.1.length : Int) := by omega
          clear hts hbt
          go_wp2
          go_ret
          exact ⟨rfl, f', S, HTR.out.sub (fun z hz => by cases hz), HV.out.sane HS.out hdl', fun _ p q hpq => HV.out.other hpq⟩
    · go_simp
      have k7 : SlA ((w1.drew.alloc (.cells #[] 5)).alloc (.cells #[.int .u8 7] 5)) 1 (some ⟨w1.heap.size + 1, 0, none⟩) 1 [.int .u8 7] := sl_new _ _ _ (by simp) _ _ 1 1 rfl
      refine hK.out _ _ (Ext.alloc hS2 _) (fun hS2b => ?_)
      clear hK
      refine wpAnyH_ready (rs := [3]) (by kernel_rfl) (by simp) ?_; refine AllReadyH.cons (o := _) rfl (fun K hK => ?_) AllReadyH.nil
      refine step_append_own_sl (some 32) rfl rfl (.tmp 29) (.tmp 31) 22 rfl _ 5 i0 _ 1 1 Try.underlying22 hi hz0 hz1' hz2' rfl (by omega) (some ⟨_, 0, none⟩) 0 0 [] rfl (.inl ⟨rfl, rfl, rfl⟩) D o.2.2.2.2.2.1.length dc (nums .u8 o.2.2.2.2.2.1) rfl (HD.out.below (HT1.out.bel.trans (hS2b.2.2.mono HT1.out.bel.size))) (fun u hu => by
        obtain ⟨q, _, rfl⟩ := List.mem_map.1 hu
        rfl) (by omega) (by omega) (Nat.le_refl _) ?_
      intro A3 c3 w3 ho3 hb3 hg3
      rw [Nat.zero_add, List.nil_append] at ho3
      rw [Nat.zero_add]
      have hE3 := Ext.below hS2b hb3
      have ho3 := ho3.lower (base' := w1.heap.size) hS2b.2.2.size
      refine hK.out _ _ hE3 (fun hS3 => ?_)
      clear hK
      have k7' := k7.below hb3
      refine wpAnyH_ready (rs := [5]) (by kernel_rfl) (by simp) ?_; refine AllReadyH.cons (o := _) rfl (fun K hK => ?_) AllReadyH.nil
      refine step_append_own_sl (some 34) rfl rfl (.tmp 32) (.tmp 33) 22 rfl w1.heap.size 5 i0 _ 1 1 Try.underlying22 hi hz0 hz1' hz2' rfl (by omega) A3 o.2.2.2.2.2.1.length c3 (nums .u8 o.2.2.2.2.2.1) rfl ho3 (some ⟨_, 0, none⟩) 1 1 [.int .u8 7] rfl k7' (by simp; rfl) (by omega) (by omega) hS3.2.2.size ?_
      intro A5 c5' w5 ho5 hb5 hg5
      have hb5 := hS3.2.2.trans hb5
      refine hK.out _ _ (Ext.of hb5) (fun hS5 => ?_)
      clear hK hg5
      have hs9 := run_slice_high (P := Try.prog) 22 5 i0 Try.underlying22 hi .i64 A5 (o.2.2.2.2.2.1.length + 1) c5' o.2.2.2.2.2.1.length (by have := ho5.le; omega)
      refine take_at (i := 9) (oi := _) (dst := some 38) (v := ?_) rfl rfl (by kernel_rfl) (by kernel_rfl) (by kernel_rfl) (fun _ _ _ h => h) (Or.inl ⟨by rfl, by intro w hSw; (try dsimp only at hSw); go_simp; (try with_reducible rfl)⟩) (by assumption) ?_; (try simp only [Act.put, List.setIfInBounds_toArray, List.set_cons_zero, List.set_cons_succ])
      refine wpAnyH_done (by kernel_rfl) ?_ _
      have hslD : SlA w5 1 A5 o.2.2.2.2.2.1.length (nums .u8 o.2.2.2.2.2.1) := by
        have h := ho5.sl.take (k := o.2.2.2.2.2.1.length) (by omega)
        rw [List.take_append_of_le_length (by simp [nums]), List.take_of_length_le (by simp [nums])] at h
        exact h
      obtain ⟨q, cl, rfl, hq1, kq, hbt⟩ : ∃ (q : Nat) (cl : List Value), A5 = some ⟨q, 0, none⟩ ∧ w1.heap.size ≤ q ∧ BlkT w5 q 5 cl ∧ Bytes cl o.2.2.2.2.2.1.length := by
        rcases ho5 with ⟨h0, _⟩ | h1
        · omega
        · rcases h1.2 with ⟨_, h0⟩ | ⟨g, cap, cur, hv, hbg, hgg, hnc, hcm, hcs, htake⟩
          · omega
          · injection hv with hv _ _
            refine ⟨g, cur.toList, hv, hbg, ?_, fun j hj => ?_⟩
            · show w5.heap[g]? = _
              rw [hgg]
            · have h3 : (cur.toList.take ((o.2.2.2.2.2.1.length + 1) * 1))[j]? = (nums .u8 o.2.2.2.2.2.1 ++ [.int .u8 7])[j]? := by rw [htake]
              rw [List.getElem?_take, if_pos (by omega)] at h3
              rw [h3, List.getElem?_append_left (by simpa [nums] using hj)]
              exact ⟨o.2.2.2.2.2.1[j], by simp [nums, hj]⟩
      have HT5 := Lib.hid (HT1.out.new hb5 kq hq1)
      have HSLD := Lib.hid hslD
      have HBT := Lib.hid hbt
      have c5 := (HT5.out.blk (q := w.heap.size) (List.mem_cons_of_mem _ (List.mem_cons_self ..))).blk.cell
      clear hs9 hslD hbt ho5 kq hb5 kb
      go_wp2_with (with_reducible refine stop_store ?_)
      refine hide (name_list (fun w6 hw6 => ?_))
      have hb56 : Below w5.heap.size w5 w6 := by rw [hw6]; exact (by (repeat first | refine Below.setCell ?_ (by first | omega | (dsimp only; omega) | (simp only [heap_drew, World.size_alloc, Gz.size_setCell]; omega)) _ | refine Below.alloc ?_ (by first | omega | (dsimp only; omega) | (simp only [heap_drew, World.size_alloc, Gz.size_setCell]; omega)) _ | refine Below.drew ?_); exact Below.refl _ _)
      have k8 : BlkT w6 w5.heap.size 29 [.int .i64 0, .int .i64 0, .int .i64 0, .slice none 0 0] := by rw [hw6]; exact blkT_at _ _ _ _ (by simp)
      have hz6 : w6.heap.size = w5.heap.size + 1 := by rw [hw6]; simp
      clear hw6
      refine hide (wpList_store_partT rfl 29 (.tmp 8) (.tmp 46) rfl w5.heap.size 0 29 _ [.int .i64 o.2.1, .int .i64 o.2.2.1, .int .i64 o.2.2.2.2.1, .slice (some ⟨q, 0, none⟩) o.2.2.2.2.2.1.length c5'] rfl rfl rfl _ k8 (by simp) (by kernel_rfl) rfl _ rfl ?_)
      intro w7 k8 hg7 hz7
      simp only [List.take_succ_cons, List.take_zero, List.drop_succ_cons, List.drop_zero, List.cons_append, List.nil_append, List.length_cons, List.length_nil] at k8
      have hb57 := below_grown hb56 hg7 (Nat.le_refl _) (by omega)
      have HT7 := Lib.hid (HT5.out.below hb57)
      have hip : IsP w7 [.int .i64 o.2.1, .int .i64 o.2.2.1, .int .i64 o.2.2.2.2.1, .slice (some ⟨q, 0, none⟩) o.2.2.2.2.2.1.length c5'] (o.2.1, o.2.2.1, o.2.2.2.2.1, o.2.2.2.2.2.1) := ⟨_, c5', rfl, HSLD.out.below hb57⟩
      have c8 := k8.blk.cell
      clear hb56 hg7 hz7 hz6 hb57 k8 c5 HSLD
      go_wp2_with fail
      refine (ts_send1 HT7.out hn hN hip hdl').mono ?_
      rintro e w8 ⟨E, f', rfl, hv, hts⟩
      have HV := Lib.hid hv
      have HT8 := Lib.hid hts
      have c5 := (hts.blk (q := w.heap.size) (List.mem_cons_of_mem _ (List.mem_cons_self ..))).blk.cell
      have hip2 : IsP w8 [.int .i64 o.2.1, .int .i64 o.2.2.1, .int .i64 o.2.2.2.2.1, .slice D o.2.2.2.2.2.1.length dc] (o.2.1, o.2.2.1, o.2.2.2.2.1, o.2.2.2.2.2.1) := ⟨_, dc, rfl, HD.out.below hts.bel⟩
      clear hv hts c8 hip
      go_wp2_with fail
      refine (ts_send2 HT8.out HV.out hn hip2 hdl').mono ?_
      rintro e w9 ⟨rfl, hts⟩
      have HT9 := Lib.hid (hts.sub (ks' := [(q, 5, cl)]) (fun z hz => by simp only [List.mem_singleton] at hz; subst hz; exact List.mem_cons_self ..))
      clear hts hip2 c5
      have eE : (E == E) = true := by simp
      go_wp2_with fail
      go_loopw [11] (fun s11 wr => ∃ (i : Nat) (cl' : List Value), s11 = .int .i64 i ∧ i ≤ o.2.2.2.2.2.1.length ∧ TS w0 w wr F0 g r n (N + 1) f' S f' S [(q, 5, cl')] ∧ Bytes cl' o.2.2.2.2.2.1.length) (fun s11 _ => (o.2.2.2.2.2.1.length - RowKit.intOf s11).toNat)
      case atStart => exact ⟨0, cl, rfl, Nat.zero_le _, HT9.out, HBT.out⟩
      case round =>
        clear HT9 HBT
        obtain ⟨i, cl', rfl, hi', hts, hbt⟩ := hrel
        have HTR := Lib.hid hts
        by_cases hlt : i < o.2.2.2.2.2.1.length
        · have q0 : (0 : Int) ≤ (i : Int) := by omega
          have q1 : (i : Int) < (o.2.2.2.2.2.1.length : Int) := by omega
          obtain ⟨v, hv⟩ := hbt i hlt
          have kq := hts.blk (List.mem_cons_self ..)
          have cq := kq.blk.cell i
          rw [hv] at cq
          have hjl := (List.getElem?_eq_some_iff.1 hv).1
          have HBT := Lib.hid hbt
          have KQ := Lib.hid kq
          clear hv hts hbt kq
          go_wp2_with (with_reducible refine stop_store ?_)
          refine hide (wpList_store_partT rfl 5 (.tmp 72) (.tmp 71) rfl q i 5 _ [.int .u8 (IntKind.u8.wrap (v + 1))] rfl rfl rfl cl' KQ.out (by simp; omega) (by kernel_rfl) rfl _ (list_set_take hjl) ?_)
          intro w10 kq10 hg10 hz10
          have HT10 := Lib.hid (HTR.out.store hg10 kq10 (fun z hz => by cases hz))
          clear kq10 hg10 hz10 cq
          go_wp2
          go_roundw
          case rel => exact ⟨i + 1, _, by go_num, by omega, HT10.out, HBT.out.set i _⟩
          case measure => simp [RowKit.intOf]; omega
        · obtain rfl : i = o.2.2.2.2.2.1.length := by omega
          have q1 : ¬ (o.2.2.2.2.2.1.length : Int) < (o.2.2.2.2.2.1.length : Int) := by omega
          clear hts hbt
          go_wp2
          go_ret
          exact ⟨rfl, f', S, HTR.out.sub (fun z hz => by cases hz), HV.out.sane HS.out hdl', fun _ p q hpq => HV.out.other hpq⟩
  · go_simp
    refine hK.out _ _ (Ext.alloc hS _) (fun hS2 => ?_)
    clear hK
    refine wpAnyH_ready (rs := [0]) (by kernel_rfl) (by simp) ?_; refine AllReadyH.cons (o := _) rfl (fun K hK => ?_) AllReadyH.nil; go_simp
    have k7 : SlA ((w1.drew.alloc (.cells #[.int .u8 7] 5)).alloc (.cells #[] 5)) 1 (some ⟨w1.heap.size, 0, none⟩) 1 [.int .u8 7] := (sl_new _ _ _ (by simp) _ _ 1 1 rfl).below (below_alloc_one _ _)
    refine hK.out _ _ (Ext.alloc hS2 _) (fun hS2b => ?_)
    clear hK
    refine wpAnyH_ready (rs := [3]) (by kernel_rfl) (by simp) ?_; refine AllReadyH.cons (o := _) rfl (fun K hK => ?_) AllReadyH.nil
    refine step_append_own_sl (some 32) rfl rfl (.tmp 29) (.tmp 31) 22 rfl _ 5 i0 _ 1 1 Try.underlying22 hi hz0 hz1' hz2' rfl (by omega) (some ⟨_, 0, none⟩) 0 0 [] rfl (.inl ⟨rfl, rfl, rfl⟩) D o.2.2.2.2.2.1.length dc (nums .u8 o.2.2.2.2.2.1) rfl (HD.out.below (HT1.out.bel.trans (hS2b.2.2.mono HT1.out.bel.size))) (fun u hu => by
      obtain ⟨q, _, rfl⟩ := List.mem_map.1 hu
      rfl) (by omega) (by omega) (Nat.le_refl _) ?_
    intro A3 c3 w3 ho3 hb3 hg3
    rw [Nat.zero_add, List.nil_append] at ho3
    rw [Nat.zero_add]
    have hE3 := Ext.below hS2b hb3
    have ho3 := ho3.lower (base' := w1.heap.size) hS2b.2.2.size
    refine hK.out _ _ hE3 (fun hS3 => ?_)
    clear hK
    have k7' := k7.below hb3
    refine wpAnyH_ready (rs := [5]) (by kernel_rfl) (by simp) ?_; refine AllReadyH.cons (o := _) rfl (fun K hK => ?_) AllReadyH.nil
    refine step_append_own_sl (some 34) rfl rfl (.tmp 32) (.tmp 33) 22 rfl w1.heap.size 5 i0 _ 1 1 Try.underlying22 hi hz0 hz1' hz2' rfl (by omega) A3 o.2.2.2.2.2.1.length c3 (nums .u8 o.2.2.2.2.2.1) rfl ho3 (some ⟨_, 0, none⟩) 1 1 [.int .u8 7] rfl k7' (by simp; rfl) (by omega) (by omega) hS3.2.2.size ?_
    intro A5 c5' w5 ho5 hb5 hg5
    have hb5 := hS3.2.2.trans hb5
    refine hK.out _ _ (Ext.of hb5) (fun hS5 => ?_)
    clear hK hg5
    have hs9 := run_slice_high (P := Try.prog) 22 5 i0 Try.underlying22 hi .i64 A5 (o.2.2.2.2.2.1.length + 1) c5' o.2.2.2.2.2.1.length (by have := ho5.le; omega)
    refine take_at (i := 9) (oi := _) (dst := some 38) (v := ?_) rfl rfl (by kernel_rfl) (by kernel_rfl) (by kernel_rfl) (fun _ _ _ h => h) (Or.inl ⟨by rfl, by intro w hSw; (try dsimp only at hSw); go_simp; (try with_reducible rfl)⟩) (by assumption) ?_; (try simp only [Act.put, List.setIfInBounds_toArray, List.set_cons_zero, List.set_cons_succ])
    refine wpAnyH_done (by kernel_rfl) ?_ _
    have hslD : SlA w5 1 A5 o.2.2.2.2.2.1.length (nums .u8 o.2.2.2.2.2.1) := by
      have h := ho5.sl.take (k := o.2.2.2.2.2.1.length) (by omega)
      rw [List.take_append_of_le_length (by simp [nums]), List.take_of_length_le (by simp [nums])] at h
      exact h
    obtain ⟨q, cl, rfl, hq1, kq, hbt⟩ : ∃ (q : Nat) (cl : List Value), A5 = some ⟨q, 0, none⟩ ∧ w1.heap.size ≤ q ∧ BlkT w5 q 5 cl ∧ Bytes cl o.2.2.2.2.2.1.length := by
      rcases ho5 with ⟨h0, _⟩ | h1
      · omega
      · rcases h1.2 with ⟨_, h0⟩ | ⟨g, cap, cur, hv, hbg, hgg, hnc, hcm, hcs, htake⟩
        · omega
        · injection hv with hv _ _
          refine ⟨g, cur.toList, hv, hbg, ?_, fun j hj => ?_⟩
          · show w5.heap[g]? = _
            rw [hgg]
          · have h3 : (cur.toList.take ((o.2.2.2.2.2.1.length + 1) * 1))[j]? = (nums .u8 o.2.2.2.2.2.1 ++ [.int .u8 7])[j]? := by rw [htake]
            rw [List.getElem?_take, if_pos (by omega)] at h3
            rw [h3, List.getElem?_append_left (by simpa [nums] using hj)]
            exact ⟨o.2.2.2.2.2.1[j], by simp [nums, hj]⟩
    have HT5 := Lib.hid (HT1.out.new hb5 kq hq1)
    have HSLD := Lib.hid hslD
    have HBT := Lib.hid hbt
    have c5 := (HT5.out.blk (q := w.heap.size) (List.mem_cons_of_mem _ (List.mem_cons_self ..))).blk.cell
    clear hs9 hslD hbt ho5 kq hb5 kb
    go_wp2_with (with_reducible refine stop_store ?_)
    refine hide (name_list (fun w6 hw6 => ?_))
    have hb56 : Below w5.heap.size w5 w6 := by rw [hw6]; exact (by (repeat first | refine Below.setCell ?_ (by first | omega | (dsimp only; omega) | (simp only [heap_drew, World.size_alloc, Gz.size_setCell]; omega)) _ | refine Below.alloc ?_ (by first | omega | (dsimp only; omega) | (simp only [heap_drew, World.size_alloc, Gz.size_setCell]; omega)) _ | refine Below.drew ?_); exact Below.refl _ _)
    have k8 : BlkT w6 w5.heap.size 29 [.int .i64 0, .int .i64 0, .int .i64 0, .slice none 0 0] := by rw [hw6]; exact blkT_at _ _ _ _ (by simp)
    have hz6 : w6.heap.size = w5.heap.size + 1 := by rw [hw6]; simp
    clear hw6
    refine hide (wpList_store_partT rfl 29 (.tmp 8) (.tmp 46) rfl w5.heap.size 0 29 _ [.int .i64 o.2.1, .int .i64 o.2.2.1, .int .i64 o.2.2.2.2.1, .slice (some ⟨q, 0, none⟩) o.2.2.2.2.2.1.length c5'] rfl rfl rfl _ k8 (by simp) (by kernel_rfl) rfl _ rfl ?_)
    intro w7 k8 hg7 hz7
    simp only [List.take_succ_cons, List.take_zero, List.drop_succ_cons, List.drop_zero, List.cons_append, List.nil_append, List.length_cons, List.length_nil] at k8
    have hb57 := below_grown hb56 hg7 (Nat.le_refl _) (by omega)
    have HT7 := Lib.hid (HT5.out.below hb57)
    have hip : IsP w7 [.int .i64 o.2.1, .int .i64 o.2.2.1, .int .i64 o.2.2.2.2.1, .slice (some ⟨q, 0, none⟩) o.2.2.2.2.2.1.length c5'] (o.2.1, o.2.2.1, o.2.2.2.2.1, o.2.2.2.2.2.1) := ⟨_, c5', rfl, HSLD.out.below hb57⟩
    have c8 := k8.blk.cell
    clear hb56 hg7 hz7 hz6 hb57 k8 c5 HSLD
    go_wp2_with fail
    refine (ts_send1 HT7.out hn hN hip hdl').mono ?_
    rintro e w8 ⟨E, f', rfl, hv, hts⟩
    have HV := Lib.hid hv
    have HT8 := Lib.hid hts
    have c5 := (hts.blk (q := w.heap.size) (List.mem_cons_of_mem _ (List.mem_cons_self ..))).blk.cell
    have hip2 : IsP w8 [.int .i64 o.2.1, .int .i64 o.2.2.1, .int .i64 o.2.2.2.2.1, .slice D o.2.2.2.2.2.1.length dc] (o.2.1, o.2.2.1, o.2.2.2.2.1, o.2.2.2.2.2.1) := ⟨_, dc, rfl, HD.out.below hts.bel⟩
    clear hv hts c8 hip
    go_wp2_with fail
    refine (ts_send2 HT8.out HV.out hn hip2 hdl').mono ?_
    rintro e w9 ⟨rfl, hts⟩
    have HT9 := Lib.hid (hts.sub (ks' := [(q, 5, cl)]) (fun z hz => by simp only [List.mem_singleton] at hz; subst hz; exact List.mem_cons_self ..))
    clear hts hip2 c5
    have eE : (E == E) = true := by simp
    go_wp2_with fail
    go_loopw [11] (fun s11 wr => ∃ (i : Nat) (cl' : List Value), s11 = .int .i64 i ∧ i ≤ o.2.2.2.2.2.1.length ∧ TS w0 w wr F0 g r n (N + 1) f' S f' S [(q, 5, cl')] ∧ Bytes cl' o.2.2.2.2.2.1.length) (fun s11 _ => (o.2.2.2.2.2.1.length - RowKit.intOf s11).toNat)
    case atStart => exact ⟨0, cl, rfl, Nat.zero_le _, HT9.out, HBT.out⟩
    case round =>
      clear HT9 HBT
      obtain ⟨i, cl', rfl, hi', hts, hbt⟩ := hrel
      have HTR := Lib.hid hts
      by_cases hlt : i < o.2.2.2.2.2.1.length
      · have q0 : (0 : Int) ≤ (i : Int) := by omega
        have q1 : (i : Int) < (o.2.2.2.2.2.1.length : Int) := by omega
        obtain ⟨v, hv⟩ := hbt i hlt
        have kq := hts.blk (List.mem_cons_self ..)
        have cq := kq.blk.cell i
        rw [hv] at cq
        have hjl := (List.getElem?_eq_some_iff.1 hv).1
        have HBT := Lib.hid hbt
        have KQ := Lib.hid kq
        clear hv hts hbt kq
        go_wp2_with (with_reducible refine stop_store ?_)
        refine hide (wpList_store_partT rfl 5 (.tmp 72) (.tmp 71) rfl q i 5 _ [.int .u8 (IntKind.u8.wrap (v + 1))] rfl rfl rfl cl' KQ.out (by simp; omega) (by kernel_rfl) rfl _ (list_set_take hjl) ?_)
        intro w10 kq10 hg10 hz10
        have HT10 := Lib.hid (HTR.out.store hg10 kq10 (fun z hz => by cases hz))
        clear kq10 hg10 hz10 cq
        go_wp2
        go_roundw
        case rel => exact ⟨i + 1, _, by go_num, by omega, HT10.out, HBT.out.set i _⟩
        case measure => simp [RowKit.intOf]; omega
      · obtain rfl : i = o.2.2.2.2.2.1.length := by omega
        have q1 : ¬ (o.2.2.2.2.2.1.length : Int) < (o.2.2.2.2.2.1.length : Int) := by omega
        clear hts hbt
        go_wp2
        go_ret
        exact ⟨rfl, f', S, HTR.out.sub (fun z hz => by cases hz), HV.out.sane HS.out hdl', fun _ p q hpq => HV.out.other hpq⟩
end Go.Proofs.Ytjihiohmemmabaa

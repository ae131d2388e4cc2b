/- A step: Drop, Double, Part, Heal, Lose. -/
import Derived.Test.YtjihiohmemmabaaNStepA
namespace Go.Proofs.Ytjihiohmemmabaa
open Go.RowKit Go.Gz
attribute [local go_sem] World.cell?_alloc_some frozen?_alloc_some

set_option maxHeartbeats 8000000 in
set_option maxRecDepth 40000 in
theorem step_drop (w0 w : World) (F0 : Nat → Prop) (g r n N : Nat) (f : Bags) (S : Sides) (cs : List Value) (o : OpV) (ht : TS w0 w w F0 g r n N f S f S []) (hs : Sane n f) (hn : n ≤ 7) (hN0 : 17592186044416 ≤ N) (hN : N < maxLen) (ho : IsO w0 cs o) (hgo : GoodO o) (hk : pickI o.1 9 = 3) :
    Calls Try.prog 21 #[.pointer (some ⟨g, 0, none⟩), .pointer (some ⟨r, 0, none⟩), .agg cs.toArray] w fun e w' => StepIs w0 w w' F0 g r n N f o e := by
  obtain ⟨D, dc, E0, ec, rfl, hD, hE, hdc⟩ := ho
  have HT := Lib.hid ht
  have HD := Lib.hid hD
  have HE := Lib.hid hE
  have HGO := Lib.hid hgo
  have hc0 := hgo.call.1
  have hc1 := hgo.call.2
  have HS := Lib.hid hs
  have HKK := Lib.hid hk
  clear ht hD hE hs hgo
  go_enter Try.func21, Try.ntmps21
  go_wp2_with fail
  refine name_calls (fun w1 hw1 => ?_)
  have hb1 : Below w.heap.size w w1 := by rw [hw1]; exact below_alloc_one _ _
  have kb : BlkT w1 w.heap.size 42 [.int .i64 o.1, .int .i64 o.2.1, .int .i64 o.2.2.1, .int .i64 o.2.2.2.1, .int .i64 o.2.2.2.2.1, .slice D o.2.2.2.2.2.1.length dc, .slice E0 o.2.2.2.2.2.2.length ec] := by rw [hw1]; exact BlkT.new _ _ _
  clear hw1
  have HT1 := Lib.hid (HT.out.new hb1 kb (Nat.le_refl _))
  refine (pick_any o.1 9 w1 (by decide) (by decide) hc0 hc1).mono ?_
  rintro e w1' ⟨rfl, hw1'⟩
  rw [hw1', hk]
  clear hw1' w1' hk hc0 hc1 hb1
  have c5 := kb.blk.cell
  go_wp2_with fail
  refine wp_region_phase 17 (S := fun W => ∀ q, W.cell? ⟨w.heap.size, q, none⟩ = ([.int .i64 o.1, .int .i64 o.2.1, .int .i64 o.2.2.1, .int .i64 o.2.2.2.1, .int .i64 o.2.2.2.2.1, .slice D o.2.2.2.2.2.1.length dc, .slice E0 o.2.2.2.2.2.2.length ec] : List Value)[q]?) (by kernel_rfl) rfl (by kernel_rfl) (fun hS => ?_) c5
  simp only [List.take_succ_cons, List.take_zero, List.drop_succ_cons, List.drop_zero]
  refine take_at (i := 0) (oi := _) (dst := some 112) (v := ?_) rfl rfl (by kernel_rfl) (by kernel_rfl) (by kernel_rfl) (fun _ _ _ h => h) (Or.inl ⟨by rfl, by intro w hSw; (try dsimp only at hSw); go_simp; (try with_reducible rfl)⟩) (by assumption) ?_; (try simp only [Act.put, List.setIfInBounds_toArray, List.set_cons_zero, List.set_cons_succ])
  refine take_at (i := 1) (oi := _) (dst := some 113) (v := ?_) rfl rfl (by kernel_rfl) (by kernel_rfl) (by kernel_rfl) (fun _ _ _ h => h) (Or.inl ⟨by rfl, by intro w hSw; (try dsimp only at hSw); go_simp; (try with_reducible rfl)⟩) (by assumption) ?_; (try simp only [Act.put, List.setIfInBounds_toArray, List.set_cons_zero, List.set_cons_succ])
  refine take_at (i := 2) (oi := _) (dst := some 114) (v := ?_) rfl rfl (by kernel_rfl) (by kernel_rfl) (by kernel_rfl) (fun _ _ _ h => h) (Or.inl ⟨by rfl, by intro w hSw; (try dsimp only at hSw); go_simp; (try with_reducible rfl)⟩) (by assumption) ?_; (try simp only [Act.put, List.setIfInBounds_toArray, List.set_cons_zero, List.set_cons_succ])
  refine take_at (i := 3) (oi := _) (dst := some 115) (v := ?_) rfl rfl (by kernel_rfl) (by kernel_rfl) (by kernel_rfl) (fun _ _ _ h => h) (Or.inl ⟨by rfl, by intro w hSw; (try dsimp only at hSw); go_simp; (try with_reducible rfl)⟩) (by assumption) ?_; (try simp only [Act.put, List.setIfInBounds_toArray, List.set_cons_zero, List.set_cons_succ])
  refine take_at (i := 4) (oi := _) (dst := some 116) (v := ?_) rfl rfl (by kernel_rfl) (by kernel_rfl) (by kernel_rfl) (fun _ _ _ h => h) (Or.inl ⟨by rfl, by intro w hSw; (try dsimp only at hSw); go_simp; (try with_reducible rfl)⟩) (by assumption) ?_; (try simp only [Act.put, List.setIfInBounds_toArray, List.set_cons_zero, List.set_cons_succ])
  refine take_at (i := 5) (oi := _) (dst := some 117) (v := ?_) rfl rfl (by kernel_rfl) (by kernel_rfl) (by kernel_rfl) (fun _ _ _ h => h) (Or.inl ⟨by rfl, by intro w hSw; (try dsimp only at hSw); go_simp; (try with_reducible rfl)⟩) (by assumption) ?_; (try simp only [Act.put, List.setIfInBounds_toArray, List.set_cons_zero, List.set_cons_succ])
  refine take_at (i := 6) (oi := _) (dst := some 118) (v := ?_) rfl rfl (by kernel_rfl) (by kernel_rfl) (by kernel_rfl) (fun _ _ _ h => h) (Or.inl ⟨by rfl, by intro w hSw; (try dsimp only at hSw); go_simp; (try with_reducible rfl)⟩) (by assumption) ?_; (try simp only [Act.put, List.setIfInBounds_toArray, List.set_cons_zero, List.set_cons_succ])
  refine take_at (i := 8) (oi := _) (dst := some 120) (v := ?_) rfl rfl (by kernel_rfl) (by kernel_rfl) (by kernel_rfl) (fun _ _ _ h => h) (Or.inl ⟨by rfl, by intro w hSw; (try dsimp only at hSw); go_simp; (try with_reducible rfl)⟩) (by assumption) ?_; (try simp only [Act.put, List.setIfInBounds_toArray, List.set_cons_zero, List.set_cons_succ])
  refine take_at (i := 9) (oi := _) (dst := some 121) (v := ?_) rfl rfl (by kernel_rfl) (by kernel_rfl) (by kernel_rfl) (fun _ _ _ h => h) (Or.inl ⟨by rfl, by intro w hSw; (try dsimp only at hSw); go_simp; (try with_reducible rfl)⟩) (by assumption) ?_; (try simp only [Act.put, List.setIfInBounds_toArray, List.set_cons_zero, List.set_cons_succ])
  refine take_at (i := 10) (oi := _) (dst := some 122) (v := ?_) rfl rfl (by kernel_rfl) (by kernel_rfl) (by kernel_rfl) (fun _ _ _ h => h) (Or.inl ⟨by rfl, by intro w hSw; (try dsimp only at hSw); go_simp; (try with_reducible rfl)⟩) (by assumption) ?_; (try simp only [Act.put, List.setIfInBounds_toArray, List.set_cons_zero, List.set_cons_succ])
  refine take_at (i := 11) (oi := _) (dst := some 123) (v := ?_) rfl rfl (by kernel_rfl) (by kernel_rfl) (by kernel_rfl) (fun _ _ _ h => h) (Or.inl ⟨by rfl, by intro w hSw; (try dsimp only at hSw); go_simp; (try with_reducible rfl)⟩) (by assumption) ?_; (try simp only [Act.put, List.setIfInBounds_toArray, List.set_cons_zero, List.set_cons_succ])
  refine take_at (i := 12) (oi := _) (dst := some 124) (v := ?_) rfl rfl (by kernel_rfl) (by kernel_rfl) (by kernel_rfl) (fun _ _ _ h => h) (Or.inl ⟨by rfl, by intro w hSw; (try dsimp only at hSw); go_simp; (try with_reducible rfl)⟩) (by assumption) ?_; (try simp only [Act.put, List.setIfInBounds_toArray, List.set_cons_zero, List.set_cons_succ])
  refine take_at (i := 13) (oi := _) (dst := some 125) (v := ?_) rfl rfl (by kernel_rfl) (by kernel_rfl) (by kernel_rfl) (fun _ _ _ h => h) (Or.inl ⟨by rfl, by intro w hSw; (try dsimp only at hSw); go_simp; (try with_reducible rfl)⟩) (by assumption) ?_; (try simp only [Act.put, List.setIfInBounds_toArray, List.set_cons_zero, List.set_cons_succ])
  refine take_at (i := 14) (oi := _) (dst := some 126) (v := ?_) rfl rfl (by kernel_rfl) (by kernel_rfl) (by kernel_rfl) (fun _ _ _ h => h) (Or.inl ⟨by rfl, by intro w hSw; (try dsimp only at hSw); go_simp; (try with_reducible rfl)⟩) (by assumption) ?_; (try simp only [Act.put, List.setIfInBounds_toArray, List.set_cons_zero, List.set_cons_succ])
  refine wpAnyH_ready (rs := [7]) (by kernel_rfl) (by simp) ?_; refine AllReadyH.cons (o := _) rfl (fun K hK => ?_) AllReadyH.nil; go_simp
  refine (ts_drop1 HT1.out.drew HS.out hn hN).mono ?_
  rintro e w2 ⟨E, f', rfl, hv, hts⟩
  have HV := Lib.hid hv
  have HT2 := Lib.hid hts
  refine hK.out _ _ (hts.blk (List.mem_cons_self ..)).blk.cell (fun hS2 => ?_)
  clear hK hS hv hts c5 kb
  refine wpAnyH_ready (rs := [15]) (by kernel_rfl) (by simp) ?_; refine AllReadyH.cons (o := _) rfl (fun K hK => ?_) AllReadyH.nil; go_simp
  refine (ts_drop2 HT2.out HV.out HS.out hn).mono ?_
  rintro e w3 ⟨rfl, hts⟩
  have HT3 := Lib.hid hts
  refine hK.out _ _ (hts.blk (List.mem_cons_self ..)).blk.cell (fun hS3 => ?_)
  clear hK hS2 hts
  have eE : (E == E) = true := by simp
  refine take_at (i := 16) (oi := _) (dst := some 128) (v := ?_) rfl rfl (by kernel_rfl) (by kernel_rfl) (by kernel_rfl) (fun _ _ _ h => h) (Or.inl ⟨by rfl, by intro w hSw; (try dsimp only at hSw); go_simp; (try with_reducible rfl)⟩) (by assumption) ?_; (try simp only [Act.put, List.setIfInBounds_toArray, List.set_cons_zero, List.set_cons_succ])
  refine wpAnyH_done (by kernel_rfl) ?_ _
  clear hS3
  go_wp2
  go_ret
  exact ⟨rfl, f', S, HT3.out.sub (fun z hz => by cases hz), HV.out.sane HS.out, fun _ p q hpq => HV.out.other hpq⟩
set_option maxHeartbeats 8000000 in
set_option maxRecDepth 40000 in
theorem step_double (w0 w : World) (F0 : Nat → Prop) (g r n N : Nat) (f : Bags) (S : Sides) (cs : List Value) (o : OpV) (ht : TS w0 w w F0 g r n N f S f S []) (hs : Sane n f) (hn : n ≤ 7) (hN0 : 17592186044416 ≤ N) (hN : N < maxLen) (ho : IsO w0 cs o) (hgo : GoodO o) (hk : pickI o.1 9 = 4) :
    Calls Try.prog 21 #[.pointer (some ⟨g, 0, none⟩), .pointer (some ⟨r, 0, none⟩), .agg cs.toArray] w fun e w' => StepIs w0 w w' F0 g r n N f o e := by
  obtain ⟨D, dc, E0, ec, rfl, hD, hE, hdc⟩ := ho
  have HT := Lib.hid ht
  have HD := Lib.hid hD
  have HE := Lib.hid hE
  have HGO := Lib.hid hgo
  have hc0 := hgo.call.1
  have hc1 := hgo.call.2
  have HS := Lib.hid hs
  have HKK := Lib.hid hk
  clear ht hD hE hs hgo
  go_enter Try.func21, Try.ntmps21
  go_wp2_with fail
  refine name_calls (fun w1 hw1 => ?_)
  have hb1 : Below w.heap.size w w1 := by rw [hw1]; exact below_alloc_one _ _
  have kb : BlkT w1 w.heap.size 42 [.int .i64 o.1, .int .i64 o.2.1, .int .i64 o.2.2.1, .int .i64 o.2.2.2.1, .int .i64 o.2.2.2.2.1, .slice D o.2.2.2.2.2.1.length dc, .slice E0 o.2.2.2.2.2.2.length ec] := by rw [hw1]; exact BlkT.new _ _ _
  clear hw1
  have HT1 := Lib.hid (HT.out.new hb1 kb (Nat.le_refl _))
  refine (pick_any o.1 9 w1 (by decide) (by decide) hc0 hc1).mono ?_
  rintro e w1' ⟨rfl, hw1'⟩
  rw [hw1', hk]
  clear hw1' w1' hk hc0 hc1 hb1
  have c5 := kb.blk.cell
  go_wp2_with fail
  refine wp_region_phase 17 (S := fun W => ∀ q, W.cell? ⟨w.heap.size, q, none⟩ = ([.int .i64 o.1, .int .i64 o.2.1, .int .i64 o.2.2.1, .int .i64 o.2.2.2.1, .int .i64 o.2.2.2.2.1, .slice D o.2.2.2.2.2.1.length dc, .slice E0 o.2.2.2.2.2.2.length ec] : List Value)[q]?) (by kernel_rfl) rfl (by kernel_rfl) (fun hS => ?_) c5
  simp only [List.take_succ_cons, List.take_zero, List.drop_succ_cons, List.drop_zero]
  refine take_at (i := 0) (oi := _) (dst := some 131) (v := ?_) rfl rfl (by kernel_rfl) (by kernel_rfl) (by kernel_rfl) (fun _ _ _ h => h) (Or.inl ⟨by rfl, by intro w hSw; (try dsimp only at hSw); go_simp; (try with_reducible rfl)⟩) (by assumption) ?_; (try simp only [Act.put, List.setIfInBounds_toArray, List.set_cons_zero, List.set_cons_succ])
  refine take_at (i := 1) (oi := _) (dst := some 132) (v := ?_) rfl rfl (by kernel_rfl) (by kernel_rfl) (by kernel_rfl) (fun _ _ _ h => h) (Or.inl ⟨by rfl, by intro w hSw; (try dsimp only at hSw); go_simp; (try with_reducible rfl)⟩) (by assumption) ?_; (try simp only [Act.put, List.setIfInBounds_toArray, List.set_cons_zero, List.set_cons_succ])
  refine take_at (i := 2) (oi := _) (dst := some 133) (v := ?_) rfl rfl (by kernel_rfl) (by kernel_rfl) (by kernel_rfl) (fun _ _ _ h => h) (Or.inl ⟨by rfl, by intro w hSw; (try dsimp only at hSw); go_simp; (try with_reducible rfl)⟩) (by assumption) ?_; (try simp only [Act.put, List.setIfInBounds_toArray, List.set_cons_zero, List.set_cons_succ])
  refine take_at (i := 3) (oi := _) (dst := some 134) (v := ?_) rfl rfl (by kernel_rfl) (by kernel_rfl) (by kernel_rfl) (fun _ _ _ h => h) (Or.inl ⟨by rfl, by intro w hSw; (try dsimp only at hSw); go_simp; (try with_reducible rfl)⟩) (by assumption) ?_; (try simp only [Act.put, List.setIfInBounds_toArray, List.set_cons_zero, List.set_cons_succ])
  refine take_at (i := 4) (oi := _) (dst := some 135) (v := ?_) rfl rfl (by kernel_rfl) (by kernel_rfl) (by kernel_rfl) (fun _ _ _ h => h) (Or.inl ⟨by rfl, by intro w hSw; (try dsimp only at hSw); go_simp; (try with_reducible rfl)⟩) (by assumption) ?_; (try simp only [Act.put, List.setIfInBounds_toArray, List.set_cons_zero, List.set_cons_succ])
  refine take_at (i := 5) (oi := _) (dst := some 136) (v := ?_) rfl rfl (by kernel_rfl) (by kernel_rfl) (by kernel_rfl) (fun _ _ _ h => h) (Or.inl ⟨by rfl, by intro w hSw; (try dsimp only at hSw); go_simp; (try with_reducible rfl)⟩) (by assumption) ?_; (try simp only [Act.put, List.setIfInBounds_toArray, List.set_cons_zero, List.set_cons_succ])
  refine take_at (i := 6) (oi := _) (dst := some 137) (v := ?_) rfl rfl (by kernel_rfl) (by kernel_rfl) (by kernel_rfl) (fun _ _ _ h => h) (Or.inl ⟨by rfl, by intro w hSw; (try dsimp only at hSw); go_simp; (try with_reducible rfl)⟩) (by assumption) ?_; (try simp only [Act.put, List.setIfInBounds_toArray, List.set_cons_zero, List.set_cons_succ])
  refine take_at (i := 8) (oi := _) (dst := some 139) (v := ?_) rfl rfl (by kernel_rfl) (by kernel_rfl) (by kernel_rfl) (fun _ _ _ h => h) (Or.inl ⟨by rfl, by intro w hSw; (try dsimp only at hSw); go_simp; (try with_reducible rfl)⟩) (by assumption) ?_; (try simp only [Act.put, List.setIfInBounds_toArray, List.set_cons_zero, List.set_cons_succ])
  refine take_at (i := 9) (oi := _) (dst := some 140) (v := ?_) rfl rfl (by kernel_rfl) (by kernel_rfl) (by kernel_rfl) (fun _ _ _ h => h) (Or.inl ⟨by rfl, by intro w hSw; (try dsimp only at hSw); go_simp; (try with_reducible rfl)⟩) (by assumption) ?_; (try simp only [Act.put, List.setIfInBounds_toArray, List.set_cons_zero, List.set_cons_succ])
  refine take_at (i := 10) (oi := _) (dst := some 141) (v := ?_) rfl rfl (by kernel_rfl) (by kernel_rfl) (by kernel_rfl) (fun _ _ _ h => h) (Or.inl ⟨by rfl, by intro w hSw; (try dsimp only at hSw); go_simp; (try with_reducible rfl)⟩) (by assumption) ?_; (try simp only [Act.put, List.setIfInBounds_toArray, List.set_cons_zero, List.set_cons_succ])
  refine take_at (i := 11) (oi := _) (dst := some 142) (v := ?_) rfl rfl (by kernel_rfl) (by kernel_rfl) (by kernel_rfl) (fun _ _ _ h => h) (Or.inl ⟨by rfl, by intro w hSw; (try dsimp only at hSw); go_simp; (try with_reducible rfl)⟩) (by assumption) ?_; (try simp only [Act.put, List.setIfInBounds_toArray, List.set_cons_zero, List.set_cons_succ])
  refine take_at (i := 12) (oi := _) (dst := some 143) (v := ?_) rfl rfl (by kernel_rfl) (by kernel_rfl) (by kernel_rfl) (fun _ _ _ h => h) (Or.inl ⟨by rfl, by intro w hSw; (try dsimp only at hSw); go_simp; (try with_reducible rfl)⟩) (by assumption) ?_; (try simp only [Act.put, List.setIfInBounds_toArray, List.set_cons_zero, List.set_cons_succ])
  refine take_at (i := 13) (oi := _) (dst := some 144) (v := ?_) rfl rfl (by kernel_rfl) (by kernel_rfl) (by kernel_rfl) (fun _ _ _ h => h) (Or.inl ⟨by rfl, by intro w hSw; (try dsimp only at hSw); go_simp; (try with_reducible rfl)⟩) (by assumption) ?_; (try simp only [Act.put, List.setIfInBounds_toArray, List.set_cons_zero, List.set_cons_succ])
  refine take_at (i := 14) (oi := _) (dst := some 145) (v := ?_) rfl rfl (by kernel_rfl) (by kernel_rfl) (by kernel_rfl) (fun _ _ _ h => h) (Or.inl ⟨by rfl, by intro w hSw; (try dsimp only at hSw); go_simp; (try with_reducible rfl)⟩) (by assumption) ?_; (try simp only [Act.put, List.setIfInBounds_toArray, List.set_cons_zero, List.set_cons_succ])
  refine wpAnyH_ready (rs := [7]) (by kernel_rfl) (by simp) ?_; refine AllReadyH.cons (o := _) rfl (fun K hK => ?_) AllReadyH.nil; go_simp
  refine (ts_double1 HT1.out.drew HS.out hn hN).mono ?_
  rintro e w2 ⟨E, f', rfl, hv, hts⟩
  have HV := Lib.hid hv
  have HT2 := Lib.hid hts
  refine hK.out _ _ (hts.blk (List.mem_cons_self ..)).blk.cell (fun hS2 => ?_)
  clear hK hS hv hts c5 kb
  refine wpAnyH_ready (rs := [15]) (by kernel_rfl) (by simp) ?_; refine AllReadyH.cons (o := _) rfl (fun K hK => ?_) AllReadyH.nil; go_simp
  refine (ts_double2 HT2.out HV.out HS.out hn).mono ?_
  rintro e w3 ⟨rfl, hts⟩
  have HT3 := Lib.hid hts
  refine hK.out _ _ (hts.blk (List.mem_cons_self ..)).blk.cell (fun hS3 => ?_)
  clear hK hS2 hts
  have eE : (E == E) = true := by simp
  refine take_at (i := 16) (oi := _) (dst := some 147) (v := ?_) rfl rfl (by kernel_rfl) (by kernel_rfl) (by kernel_rfl) (fun _ _ _ h => h) (Or.inl ⟨by rfl, by intro w hSw; (try dsimp only at hSw); go_simp; (try with_reducible rfl)⟩) (by assumption) ?_; (try simp only [Act.put, List.setIfInBounds_toArray, List.set_cons_zero, List.set_cons_succ])
  refine wpAnyH_done (by kernel_rfl) ?_ _
  clear hS3
  go_wp2
  go_ret
  exact ⟨rfl, f', S, HT3.out.sub (fun z hz => by cases hz), HV.out.sane HS.out, fun _ p q hpq => HV.out.other hpq⟩
set_option maxHeartbeats 8000000 in
set_option maxRecDepth 40000 in
theorem step_part (w0 w : World) (F0 : Nat → Prop) (g r n N : Nat) (f : Bags) (S : Sides) (cs : List Value) (o : OpV) (ht : TS w0 w w F0 g r n N f S f S []) (hs : Sane n f) (hn : n ≤ 7) (hN0 : 17592186044416 ≤ N) (hN : N < maxLen) (ho : IsO w0 cs o) (hgo : GoodO o) (hk : pickI o.1 9 = 5) :
    Calls Try.prog 21 #[.pointer (some ⟨g, 0, none⟩), .pointer (some ⟨r, 0, none⟩), .agg cs.toArray] w fun e w' => StepIs w0 w w' F0 g r n N f o e := by
  obtain ⟨D, dc, E0, ec, rfl, hD, hE, hdc⟩ := ho
  have HT := Lib.hid ht
  have HD := Lib.hid hD
  have HE := Lib.hid hE
  have HGO := Lib.hid hgo
  have hc0 := hgo.call.1
  have hc1 := hgo.call.2
  have HS := Lib.hid hs
  have HKK := Lib.hid hk
  clear ht hD hE hs hgo
  go_enter Try.func21, Try.ntmps21
  go_wp2_with fail
  refine name_calls (fun w1 hw1 => ?_)
  have hb1 : Below w.heap.size w w1 := by rw [hw1]; exact below_alloc_one _ _
  have kb : BlkT w1 w.heap.size 42 [.int .i64 o.1, .int .i64 o.2.1, .int .i64 o.2.2.1, .int .i64 o.2.2.2.1, .int .i64 o.2.2.2.2.1, .slice D o.2.2.2.2.2.1.length dc, .slice E0 o.2.2.2.2.2.2.length ec] := by rw [hw1]; exact BlkT.new _ _ _
  clear hw1
  have HT1 := Lib.hid (HT.out.new hb1 kb (Nat.le_refl _))
  refine (pick_any o.1 9 w1 (by decide) (by decide) hc0 hc1).mono ?_
  rintro e w1' ⟨rfl, hw1'⟩
  rw [hw1', hk]
  clear hw1' w1' hk hc0 hc1 hb1
  have c5 := kb.blk.cell
  have hsd := HGO.out.side
  have hsl := HE.out.len
  go_wp2_with fail
  refine wp_region_phase 9 (S := fun W => ∀ q, W.cell? ⟨w.heap.size, q, none⟩ = ([.int .i64 o.1, .int .i64 o.2.1, .int .i64 o.2.2.1, .int .i64 o.2.2.2.1, .int .i64 o.2.2.2.2.1, .slice D o.2.2.2.2.2.1.length dc, .slice E0 o.2.2.2.2.2.2.length ec] : List Value)[q]?) (by kernel_rfl) rfl (by kernel_rfl) (fun hS => ?_) c5
  simp only [List.take_succ_cons, List.take_zero, List.drop_succ_cons, List.drop_zero]
  refine take_at (i := 0) (oi := _) (dst := some 150) (v := ?_) rfl rfl (by kernel_rfl) (by kernel_rfl) (by kernel_rfl) (fun _ _ _ h => h) (Or.inl ⟨by rfl, by intro w hSw; (try dsimp only at hSw); go_simp; (try with_reducible rfl)⟩) (by assumption) ?_; (try simp only [Act.put, List.setIfInBounds_toArray, List.set_cons_zero, List.set_cons_succ])
  refine take_at (i := 1) (oi := _) (dst := some 151) (v := ?_) rfl rfl (by kernel_rfl) (by kernel_rfl) (by kernel_rfl) (fun _ _ _ h => h) (Or.inl ⟨by rfl, by intro w hSw; (try dsimp only at hSw); go_simp; (try with_reducible rfl)⟩) (by assumption) ?_; (try simp only [Act.put, List.setIfInBounds_toArray, List.set_cons_zero, List.set_cons_succ])
  refine take_at (i := 2) (oi := _) (dst := some 152) (v := ?_) rfl rfl (by kernel_rfl) (by kernel_rfl) (by kernel_rfl) (fun _ _ _ h => h) (Or.inl ⟨by rfl, by intro w hSw; (try dsimp only at hSw); go_simp; (try with_reducible rfl)⟩) (by assumption) ?_; (try simp only [Act.put, List.setIfInBounds_toArray, List.set_cons_zero, List.set_cons_succ])
  refine take_at (i := 4) (oi := _) (dst := some 154) (v := ?_) rfl rfl (by kernel_rfl) (by kernel_rfl) (by kernel_rfl) (fun _ _ _ h => h) (Or.inl ⟨by rfl, by intro w hSw; (try dsimp only at hSw); go_simp; (try with_reducible rfl)⟩) (by assumption) ?_; (try simp only [Act.put, List.setIfInBounds_toArray, List.set_cons_zero, List.set_cons_succ])
  refine take_at (i := 5) (oi := _) (dst := some 155) (v := ?_) rfl rfl (by kernel_rfl) (by kernel_rfl) (by kernel_rfl) (fun _ _ _ h => h) (Or.inl ⟨by rfl, by intro w hSw; (try dsimp only at hSw); go_simp; (try with_reducible rfl)⟩) (by assumption) ?_; (try simp only [Act.put, List.setIfInBounds_toArray, List.set_cons_zero, List.set_cons_succ])
  refine take_at (i := 6) (oi := _) (dst := some 156) (v := ?_) rfl rfl (by kernel_rfl) (by kernel_rfl) (by kernel_rfl) (fun _ _ _ h => h) (Or.inl ⟨by rfl, by intro w hSw; (try dsimp only at hSw); go_simp; (try with_reducible rfl)⟩) (by assumption) ?_; (try simp only [Act.put, List.setIfInBounds_toArray, List.set_cons_zero, List.set_cons_succ])
  refine wpAnyH_ready (rs := [3]) (by kernel_rfl) (by simp) ?_; refine AllReadyH.cons (o := _) rfl (fun K hK => ?_) AllReadyH.nil; go_simp
  refine (ts_part1 HT1.out.drew hn HE.out (by omega) (by omega)).mono ?_
  rintro e w2 ⟨E, S', rfl, hv, hts⟩
  have HV := Lib.hid hv
  have HT2 := Lib.hid hts
  refine hK.out _ _ (hts.blk (List.mem_cons_self ..)).blk.cell (fun hS2 => ?_)
  clear hK hS hv hts c5 kb
  refine wpAnyH_ready (rs := [7]) (by kernel_rfl) (by simp) ?_; refine AllReadyH.cons (o := _) rfl (fun K hK => ?_) AllReadyH.nil; go_simp
  refine (ts_part2 HT2.out HV.out hn HE.out (by omega)).mono ?_
  rintro e w3 ⟨rfl, hts⟩
  have HT3 := Lib.hid hts
  refine hK.out _ _ (hts.blk (List.mem_cons_self ..)).blk.cell (fun hS3 => ?_)
  clear hK hS2 hts
  have eE : (E == E) = true := by simp
  refine take_at (i := 8) (oi := _) (dst := some 158) (v := ?_) rfl rfl (by kernel_rfl) (by kernel_rfl) (by kernel_rfl) (fun _ _ _ h => h) (Or.inl ⟨by rfl, by intro w hSw; (try dsimp only at hSw); go_simp; (try with_reducible rfl)⟩) (by assumption) ?_; (try simp only [Act.put, List.setIfInBounds_toArray, List.set_cons_zero, List.set_cons_succ])
  refine wpAnyH_done (by kernel_rfl) ?_ _
  clear hS3
  go_wp2
  go_ret
  exact ⟨rfl, f, S', (HT3.out.sub (fun z hz => by cases hz)).raise (by omega), HS.out, fun h => (h ⟨by rw [HKK.out]; decide, by rw [HKK.out]; decide⟩).elim⟩
set_option maxHeartbeats 8000000 in
set_option maxRecDepth 40000 in
theorem step_lose (w0 w : World) (F0 : Nat → Prop) (g r n N : Nat) (f : Bags) (S : Sides) (cs : List Value) (o : OpV) (ht : TS w0 w w F0 g r n N f S f S []) (hs : Sane n f) (hn : n ≤ 7) (hN0 : 17592186044416 ≤ N) (hN : N < maxLen) (ho : IsO w0 cs o) (hgo : GoodO o) (hk : pickI o.1 9 = 7) :
    Calls Try.prog 21 #[.pointer (some ⟨g, 0, none⟩), .pointer (some ⟨r, 0, none⟩), .agg cs.toArray] w fun e w' => StepIs w0 w w' F0 g r n N f o e := by
  obtain ⟨D, dc, E0, ec, rfl, hD, hE, hdc⟩ := ho
  have HT := Lib.hid ht
  have HD := Lib.hid hD
  have HE := Lib.hid hE
  have HGO := Lib.hid hgo
  have hc0 := hgo.call.1
  have hc1 := hgo.call.2
  have HS := Lib.hid hs
  have HKK := Lib.hid hk
  clear ht hD hE hs hgo
  go_enter Try.func21, Try.ntmps21
  go_wp2_with fail
  refine name_calls (fun w1 hw1 => ?_)
  have hb1 : Below w.heap.size w w1 := by rw [hw1]; exact below_alloc_one _ _
  have kb : BlkT w1 w.heap.size 42 [.int .i64 o.1, .int .i64 o.2.1, .int .i64 o.2.2.1, .int .i64 o.2.2.2.1, .int .i64 o.2.2.2.2.1, .slice D o.2.2.2.2.2.1.length dc, .slice E0 o.2.2.2.2.2.2.length ec] := by rw [hw1]; exact BlkT.new _ _ _
  clear hw1
  have HT1 := Lib.hid (HT.out.new hb1 kb (Nat.le_refl _))
  refine (pick_any o.1 9 w1 (by decide) (by decide) hc0 hc1).mono ?_
  rintro e w1' ⟨rfl, hw1'⟩
  rw [hw1', hk]
  clear hw1' w1' hk hc0 hc1 hb1
  have c5 := kb.blk.cell
  go_wp2_with fail
  refine wp_region_phase 9 (S := fun W => ∀ q, W.cell? ⟨w.heap.size, q, none⟩ = ([.int .i64 o.1, .int .i64 o.2.1, .int .i64 o.2.2.1, .int .i64 o.2.2.2.1, .int .i64 o.2.2.2.2.1, .slice D o.2.2.2.2.2.1.length dc, .slice E0 o.2.2.2.2.2.2.length ec] : List Value)[q]?) (by kernel_rfl) rfl (by kernel_rfl) (fun hS => ?_) c5
  simp only [List.take_succ_cons, List.take_zero, List.drop_succ_cons, List.drop_zero]
  refine take_at (i := 0) (oi := _) (dst := some 167) (v := ?_) rfl rfl (by kernel_rfl) (by kernel_rfl) (by kernel_rfl) (fun _ _ _ h => h) (Or.inl ⟨by rfl, by intro w hSw; (try dsimp only at hSw); go_simp; (try with_reducible rfl)⟩) (by assumption) ?_; (try simp only [Act.put, List.setIfInBounds_toArray, List.set_cons_zero, List.set_cons_succ])
  refine take_at (i := 1) (oi := _) (dst := some 168) (v := ?_) rfl rfl (by kernel_rfl) (by kernel_rfl) (by kernel_rfl) (fun _ _ _ h => h) (Or.inl ⟨by rfl, by intro w hSw; (try dsimp only at hSw); go_simp; (try with_reducible rfl)⟩) (by assumption) ?_; (try simp only [Act.put, List.setIfInBounds_toArray, List.set_cons_zero, List.set_cons_succ])
  refine take_at (i := 2) (oi := _) (dst := some 169) (v := ?_) rfl rfl (by kernel_rfl) (by kernel_rfl) (by kernel_rfl) (fun _ _ _ h => h) (Or.inl ⟨by rfl, by intro w hSw; (try dsimp only at hSw); go_simp; (try with_reducible rfl)⟩) (by assumption) ?_; (try simp only [Act.put, List.setIfInBounds_toArray, List.set_cons_zero, List.set_cons_succ])
  refine take_at (i := 4) (oi := _) (dst := some 171) (v := ?_) rfl rfl (by kernel_rfl) (by kernel_rfl) (by kernel_rfl) (fun _ _ _ h => h) (Or.inl ⟨by rfl, by intro w hSw; (try dsimp only at hSw); go_simp; (try with_reducible rfl)⟩) (by assumption) ?_; (try simp only [Act.put, List.setIfInBounds_toArray, List.set_cons_zero, List.set_cons_succ])
  refine take_at (i := 5) (oi := _) (dst := some 172) (v := ?_) rfl rfl (by kernel_rfl) (by kernel_rfl) (by kernel_rfl) (fun _ _ _ h => h) (Or.inl ⟨by rfl, by intro w hSw; (try dsimp only at hSw); go_simp; (try with_reducible rfl)⟩) (by assumption) ?_; (try simp only [Act.put, List.setIfInBounds_toArray, List.set_cons_zero, List.set_cons_succ])
  refine take_at (i := 6) (oi := _) (dst := some 173) (v := ?_) rfl rfl (by kernel_rfl) (by kernel_rfl) (by kernel_rfl) (fun _ _ _ h => h) (Or.inl ⟨by rfl, by intro w hSw; (try dsimp only at hSw); go_simp; (try with_reducible rfl)⟩) (by assumption) ?_; (try simp only [Act.put, List.setIfInBounds_toArray, List.set_cons_zero, List.set_cons_succ])
  refine wpAnyH_ready (rs := [3]) (by kernel_rfl) (by simp) ?_; refine AllReadyH.cons (o := _) rfl (fun K hK => ?_) AllReadyH.nil; go_simp
  refine (ts_lose1 HT1.out.drew).mono ?_
  rintro e w2 ⟨E, f', rfl, hv, hts⟩
  have HV := Lib.hid hv
  have HT2 := Lib.hid hts
  refine hK.out _ _ (hts.blk (List.mem_cons_self ..)).blk.cell (fun hS2 => ?_)
  clear hK hS hv hts c5 kb
  refine wpAnyH_ready (rs := [7]) (by kernel_rfl) (by simp) ?_; refine AllReadyH.cons (o := _) rfl (fun K hK => ?_) AllReadyH.nil; go_simp
  refine (ts_lose2 HT2.out HV.out hn).mono ?_
  rintro e w3 ⟨rfl, hts⟩
  have HT3 := Lib.hid hts
  refine hK.out _ _ (hts.blk (List.mem_cons_self ..)).blk.cell (fun hS3 => ?_)
  clear hK hS2 hts
  have eE : (E == E) = true := by simp
  refine take_at (i := 8) (oi := _) (dst := some 175) (v := ?_) rfl rfl (by kernel_rfl) (by kernel_rfl) (by kernel_rfl) (fun _ _ _ h => h) (Or.inl ⟨by rfl, by intro w hSw; (try dsimp only at hSw); go_simp; (try with_reducible rfl)⟩) (by assumption) ?_; (try simp only [Act.put, List.setIfInBounds_toArray, List.set_cons_zero, List.set_cons_succ])
  refine wpAnyH_done (by kernel_rfl) ?_ _
  clear hS3
  go_wp2
  go_ret
  exact ⟨rfl, f', S, (HT3.out.sub (fun z hz => by cases hz)).raise (by omega), HV.out.sane HS.out, fun h => (h ⟨by rw [HKK.out]; decide, by rw [HKK.out]; decide⟩).elim⟩
set_option maxHeartbeats 8000000 in
set_option maxRecDepth 40000 in
theorem step_heal (w0 w : World) (F0 : Nat → Prop) (g r n N : Nat) (f : Bags) (S : Sides) (cs : List Value) (o : OpV) (ht : TS w0 w w F0 g r n N f S f S []) (hs : Sane n f) (hn : n ≤ 7) (hN0 : 17592186044416 ≤ N) (hN : N < maxLen) (ho : IsO w0 cs o) (hgo : GoodO o) (hk : pickI o.1 9 = 6) :
    Calls Try.prog 21 #[.pointer (some ⟨g, 0, none⟩), .pointer (some ⟨r, 0, none⟩), .agg cs.toArray] w fun e w' => StepIs w0 w w' F0 g r n N f o e := by
  obtain ⟨D, dc, E0, ec, rfl, hD, hE, hdc⟩ := ho
  have HT := Lib.hid ht
  have HD := Lib.hid hD
  have HE := Lib.hid hE
  have HGO := Lib.hid hgo
  have hc0 := hgo.call.1
  have hc1 := hgo.call.2
  have HS := Lib.hid hs
  have HKK := Lib.hid hk
  clear ht hD hE hs hgo
  go_enter Try.func21, Try.ntmps21
  go_wp2_with fail
  refine name_calls (fun w1 hw1 => ?_)
  have hb1 : Below w.heap.size w w1 := by rw [hw1]; exact below_alloc_one _ _
  have kb : BlkT w1 w.heap.size 42 [.int .i64 o.1, .int .i64 o.2.1, .int .i64 o.2.2.1, .int .i64 o.2.2.2.1, .int .i64 o.2.2.2.2.1, .slice D o.2.2.2.2.2.1.length dc, .slice E0 o.2.2.2.2.2.2.length ec] := by rw [hw1]; exact BlkT.new _ _ _
  clear hw1
  have HT1 := Lib.hid (HT.out.new hb1 kb (Nat.le_refl _))
  refine (pick_any o.1 9 w1 (by decide) (by decide) hc0 hc1).mono ?_
  rintro e w1' ⟨rfl, hw1'⟩
  rw [hw1', hk]
  clear hw1' w1' hk hc0 hc1 hb1
  have c5 := kb.blk.cell
  clear c5 kb
  go_wp2_with fail
  refine (ts_heal1 HT1.out).mono ?_
  rintro e w2 ⟨rfl, hts⟩
  have HT2 := Lib.hid hts
  clear hts
  go_wp2_with fail
  refine (ts_heal2 HT2.out hn).mono ?_
  rintro e w3 ⟨rfl, hts⟩
  have HT3 := Lib.hid hts
  clear hts
  go_wp2
  go_ret
  exact ⟨rfl, f, _, (HT3.out.sub (fun z hz => by cases hz)).raise (by omega), HS.out, fun _ _ _ _ => rfl⟩
end Go.Proofs.Ytjihiohmemmabaa

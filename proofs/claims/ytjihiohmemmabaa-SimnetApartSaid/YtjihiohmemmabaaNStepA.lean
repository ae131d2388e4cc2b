/- A step: Deliver, Drop, Double, Part, Heal, Lose. -/
import Derived.Test.YtjihiohmemmabaaNStepT
namespace Go.Proofs.Ytjihiohmemmabaa
open Go.RowKit Go.Gz
attribute [local go_sem] World.cell?_alloc_some frozen?_alloc_some

def StepIs (w0 w w' : World) (F0 : Nat → Prop) (g r n N : Nat) (f : Bags) (o : OpV) (e : Ending) : Prop := e = .returned (.bool true) ∧
  ∃ (f' : Bags) (S' : Sides), TS w0 w w' F0 g r n (N + 1) f' S' f' S' [] ∧ Sane n f' ∧ (¬ (5 ≤ pickI o.1 9 ∧ pickI o.1 9 ≤ 7) → ∀ p q, ¬ (o.2.1 = p ∧ o.2.2.1 = q) → f' p q = f p q)
theorem TS.raise {w0 w wr : World} {F0 : Nat → Prop} {g r n N N' : Nat} {f f2 : Bags} {S S2 : Sides} {ks : List (Nat × TypeId × List Value)} (h : TS w0 w wr F0 g r n N f S f2 S2 ks) (hN : N ≤ N') : TS w0 w wr F0 g r n N' f S f2 S2 ks := by
  obtain ⟨h0, F, G, h1, h2, h3, h4⟩ := h
  exact ⟨h0, F, G, h1.raise hN, h2, h3, h4⟩
theorem TS.drew {w0 w wr : World} {F0 : Nat → Prop} {g r n N : Nat} {f f2 : Bags} {S S2 : Sides} {ks : List (Nat × TypeId × List Value)} (h : TS w0 w wr F0 g r n N f S f2 S2 ks) : TS w0 w wr.drew F0 g r n N f S f2 S2 ks := h.below (Below.refl _ _).drew
theorem lit_is {w : World} {cs : List Value} {x : Pkt} (h : IsP w cs x) (arr : Array Value) (t : TypeId) (q : Nat) (hq : q = w.heap.size) (e : arr = cs.toArray := by rfl) : IsPs (w.alloc (.cells arr t)) (some ⟨q, 0, none⟩) 1 [x] := by
  subst e hq
  exact ⟨[(cs, x)], rfl, rfl, sl_new w _ _ rfl t _ 4 1 (by simp [h.len]) (by simp), fun z hz => by simp only [List.mem_singleton] at hz; subst hz; exact h.below (below_alloc_one w _)⟩

set_option maxHeartbeats 8000000 in
set_option maxRecDepth 40000 in
theorem step_deliver (w0 w : World) (F0 : Nat → Prop) (g r n N : Nat) (f : Bags) (S : Sides) (cs : List Value) (o : OpV) (ht : TS w0 w w F0 g r n N f S f S []) (hs : Sane n f) (hn : n ≤ 7) (hN : N < maxLen) (ho : IsO w0 cs o) (hgo : GoodO o) (hk : pickI o.1 9 = 2) :
    Calls Try.prog 21 #[.pointer (some ⟨g, 0, none⟩), .pointer (some ⟨r, 0, none⟩), .agg cs.toArray] w fun e w' => StepIs w0 w w' F0 g r n N f o e := by
  obtain ⟨D, dc, E0, ec, rfl, hD, hE, hdc⟩ := ho
  have HT := Lib.hid ht
  have HD := Lib.hid hD
  have HE := Lib.hid hE
  have HGO := Lib.hid hgo
  have hc0 := hgo.call.1
  have hc1 := hgo.call.2
  have HS := Lib.hid hs
  have HKK := Lib.hid hk
  clear ht hD hE hs hgo
  go_enter Try.func21, Try.ntmps21
  go_wp2_with fail
  refine name_calls (fun w1 hw1 => ?_)
  have hb1 : Below w.heap.size w w1 := by rw [hw1]; exact below_alloc_one _ _
  have kb : BlkT w1 w.heap.size 42 [.int .i64 o.1, .int .i64 o.2.1, .int .i64 o.2.2.1, .int .i64 o.2.2.2.1, .int .i64 o.2.2.2.2.1, .slice D o.2.2.2.2.2.1.length dc, .slice E0 o.2.2.2.2.2.2.length ec] := by rw [hw1]; exact BlkT.new _ _ _
  clear hw1
  have HT1 := Lib.hid (HT.out.new hb1 kb (Nat.le_refl _))
  refine (pick_any o.1 9 w1 (by decide) (by decide) hc0 hc1).mono ?_
  rintro e w1' ⟨rfl, hw1'⟩
  rw [hw1', hk]
  clear hw1' w1' hk hc0 hc1 hb1
  have c5 := kb.blk.cell
  go_wp2_with fail
  refine (ts_deliver1 HT1.out HS.out hn hN).mono ?_
  rintro e w2 ⟨x, D1, d1, E, f', rfl, hv, htp⟩
  have HV := Lib.hid hv
  have HP := Lib.hid htp
  clear hv htp c5 kb
  go_wp2_with (with_reducible refine stop_store ?_)
  refine hide (name_list (fun w3 hw3 => ?_))
  have hb23 : Below w2.heap.size w2 w3 := by rw [hw3]; exact (by (repeat first | refine Below.setCell ?_ (by first | omega | (dsimp only; omega) | (simp only [heap_drew, World.size_alloc, Gz.size_setCell]; omega)) _ | refine Below.alloc ?_ (by first | omega | (dsimp only; omega) | (simp only [heap_drew, World.size_alloc, Gz.size_setCell]; omega)) _ | refine Below.drew ?_); exact Below.refl _ _)
  have k12 : BlkT w3 w2.heap.size 29 [.int .i64 0, .int .i64 0, .int .i64 0, .slice none 0 0] := by rw [hw3]; exact blkT_at _ _ _ _ (by simp)
  have hz3 : w3.heap.size = w2.heap.size + 1 := by rw [hw3]; simp
  clear hw3
  refine hide (wpList_store_partT rfl 29 (.tmp 12) (.tmp 87) rfl w2.heap.size 0 29 _ [.int .i64 x.1, .int .i64 x.2.1, .int .i64 x.2.2.1, .slice D1 x.2.2.2.length d1] rfl rfl rfl _ k12 (by simp) (by kernel_rfl) rfl _ rfl ?_)
  intro w4 k12 hg4 hz4
  simp only [List.take_succ_cons, List.take_zero, List.drop_succ_cons, List.drop_zero, List.cons_append, List.nil_append, List.length_cons, List.length_nil] at k12
  have hb24 := below_grown hb23 hg4 (Nat.le_refl _) (by omega)
  have HP4 := Lib.hid (HP.out.new hb24 k12 (Nat.le_refl _))
  clear hb23 hg4 hz4 hz3 k12 hb24 HP
  have c5 := (HP4.out.ts.blk (q := w.heap.size) (List.mem_cons_of_mem _ (List.mem_cons_self ..))).blk.cell
  go_wp2_with fail
  refine (ts_deliver2 HP4.out HV.out HS.out hn).mono ?_
  rintro e w5 ⟨D2, d2, rfl, hi1, hi2, hts⟩
  have HI1 := Lib.hid hi1
  have HI2 := Lib.hid hi2
  have k12 := hts.blk (List.mem_cons_self ..)
  have hlt12 := k12.lt
  have HT5 := Lib.hid hts
  clear hi1 hi2 hts c5
  go_wp2_with (with_reducible refine stop_store ?_)
  refine hide (name_list (fun w6 hw6 => ?_))
  have hb56 : Below w5.heap.size w5 w6 := by rw [hw6]; exact (by (repeat first | refine Below.setCell ?_ (by first | omega | (dsimp only; omega) | (simp only [heap_drew, World.size_alloc, Gz.size_setCell]; omega)) _ | refine Below.alloc ?_ (by first | omega | (dsimp only; omega) | (simp only [heap_drew, World.size_alloc, Gz.size_setCell]; omega)) _ | refine Below.drew ?_); exact Below.refl _ _)
  have k14 : BlkT w6 w5.heap.size 29 [.int .i64 0, .int .i64 0, .int .i64 0, .slice none 0 0] := by rw [hw6]; exact blkT_at _ _ _ _ (by simp)
  have hz6 : w6.heap.size = w5.heap.size + 1 := by rw [hw6]; simp
  clear hw6
  refine hide (wpList_store_partT rfl 29 (.tmp 14) (.tmp 98) rfl w5.heap.size 0 29 _ [.int .i64 x.1, .int .i64 x.2.1, .int .i64 x.2.2.1, .slice D2 x.2.2.2.length d2] rfl rfl rfl _ k14 (by simp) (by kernel_rfl) rfl _ rfl ?_)
  intro w7 k14 hg7 hz7
  simp only [List.take_succ_cons, List.take_zero, List.drop_succ_cons, List.drop_zero, List.cons_append, List.nil_append, List.length_cons, List.length_nil] at k14
  have hb57 := below_grown hb56 hg7 (Nat.le_refl _) (by omega)
  have HT7 := Lib.hid (HT5.out.below hb57)
  have HI1 := Lib.hid (HI1.out.below hb57)
  have HI2 := Lib.hid (HI2.out.below hb57)
  have c12 := (k12.below hb57).blk.cell
  have c14 := k14.blk.cell
  have eE : (E == E) = true := by simp
  clear hb56 hg7 hz7 hz6 hb57 HT5 k12 k14 hlt12
  go_wp2_with fail
  refine name_calls (fun w8 hw8 => ?_)
  have hb8 : Below w7.heap.size w7 w8 := by rw [hw8]; exact (by (repeat first | refine Below.setCell ?_ (by first | omega | (dsimp only; omega) | (simp only [heap_drew, World.size_alloc, Gz.size_setCell]; omega)) _ | refine Below.alloc ?_ (by first | omega | (dsimp only; omega) | (simp only [heap_drew, World.size_alloc, Gz.size_setCell]; omega)) _ | refine Below.drew ?_); exact Below.refl _ _)
  have hp1 : IsPs w8 (some ⟨w7.heap.size, 0, none⟩) 1 [x] := by rw [hw8]; exact (lit_is HI1.out _ _ _ rfl).below (below_alloc_one _ _)
  have hp2 : IsPs w8 (some ⟨w7.heap.size + 1, 0, none⟩) 1 [x] := by rw [hw8]; exact lit_is (HI2.out.below (below_alloc_one _ _)) _ _ _ (by simp)
  clear hw8
  have HT8 := Lib.hid (HT7.out.below hb8)
  refine (same_any _ _ 1 1 1 1 [x] [x] w8 hp1 hp2 (by decide)).mono ?_
  rintro e w9 ⟨rfl, hb9⟩
  rw [decide_eq_true rfl]
  have HT9 := Lib.hid (HT8.out.below hb9)
  clear hp1 hp2 hb8 hb9 c12 c14
  go_wp2
  go_ret
  exact ⟨rfl, f', S, HT9.out.sub (fun z hz => by cases hz), HV.out.sane HS.out, fun _ p q hpq => HV.out.other hpq⟩
end Go.Proofs.Ytjihiohmemmabaa

/- way, Send. -/
import Derived.Test.YtjihiohmemmabaaNPut
namespace Go.Proofs.Ytjihiohmemmabaa
open Go.RowKit Go.Gz
attribute [local go_sem] World.cell?_alloc_some frozen?_alloc_some

def okWay (nodes a b : Int) : Prop := (1 ≤ a ∧ a ≤ nodes) ∧ (1 ≤ b ∧ b ≤ nodes) ∧ ¬ a = b
/-- What way answers. -/
def WayIs (nodes a b : Int) (e : Ending) : Prop := (okWay nodes a b ∧ e = .returned (.tuple #[.agg #[.int .i64 a, .int .i64 b], .int .i64 0])) ∨ (¬ okWay nodes a b ∧ e = .returned (.tuple #[.agg #[.int .i64 0, .int .i64 0], .int .i64 31]))
theorem Beside.mono {F G : Nat → Prop} {w w' : World} (h : Beside F w w') (hF : ∀ b, F b → G b) : Beside G w w' := ⟨h.1, h.2.1, h.2.2.1, h.2.2.2.1, fun k hk hG => h.2.2.2.2 k hk (fun hh => hG (hF k hh))⟩
theorem Beside.after {F : Nat → Prop} {w w1 w2 : World} (h : Below w.heap.size w w1) (k : Beside F w1 w2) : Beside F w w2 := (Beside.of_below h).trans (k.mono (fun _ hb => .inl hb))
theorem grow_after {F : Nat → Prop} {w w1 w2 : World} (h : Below w.heap.size w w1) : ∀ b, grow F w1 w2 b → grow F w w2 b := fun b hb => hb.imp id (fun hh => ⟨Nat.le_trans h.size hh.1, hh.2⟩)

set_option maxHeartbeats 1600000 in
theorem way_any (w : World) (F : Nat → Prop) (g : Nat) (nodes : Int) (N : Nat) (f : Int → Int → List Pkt) (S : Int → Bool) (a b : Int) (h : NetIs w F g nodes N f S) :
    Calls Try.prog 23 #[.pointer (some ⟨g, 0, none⟩), .int .i64 a, .int .i64 b] w fun e w' => Below w.heap.size w w' ∧ WayIs nodes a b e := by
  have H := Lib.hid h
  clear h
  go_enter Try.func23, Try.ntmps23
  go_wp2_with fail
  refine name_calls (fun w1 hw1 => ?_)
  have k6 : Blk w1 w.heap.size [.int .i64 0, .int .i64 0] := by rw [hw1]; exact Blk.new _ _ _ _ rfl
  have hb1 : Below w.heap.size w w1 := by rw [hw1]; exact (by (repeat first | refine Below.setCell ?_ (by first | omega | (dsimp only; omega) | (simp only [heap_drew, World.size_alloc, Gz.size_setCell]; omega)) _ | refine Below.alloc ?_ (by first | omega | (dsimp only; omega) | (simp only [heap_drew, World.size_alloc, Gz.size_setCell]; omega)) _ | refine Below.drew ?_); exact Below.refl _ _)
  clear hw1
  refine (has_any w1 F g nodes N f S a (H.out.below hb1)).mono ?_
  rintro e w2 ⟨rfl, hb2⟩
  have k6 := k6.ext hb2
  have hb2 := hb1.trans (hb2.mono hb1.size)
  by_cases ha : 1 ≤ a ∧ a ≤ nodes
  rotate_left 1
  · have e1 : (decide (1 ≤ a) && decide (a ≤ nodes)) = false := by simp; omega
    rw [e1]
    go_wp2_with (with_reducible refine stop_store ?_)
    refine hide (wpList_store_blk rfl 60 (.tmp 6) (.tmp 23) rfl w.heap.size [.int .i64 0, .int .i64 0] rfl rfl _ k6 rfl (by kernel_rfl) rfl ?_)
    intro wf kf hgf hzf
    go_wp2
    refine bodyPost_ret (v := .tuple #[.agg #[.int .i64 0, .int .i64 0], .int .i64 31]) ?_ rfl ⟨below_grown hb2 hgf (Nat.le_refl _) (k6).lt, .inr ⟨(fun q => ha q.1), rfl⟩⟩
    simp [results, Try.results23, go_sem, kf.cell]
  have e1 : (decide (1 ≤ a) && decide (a ≤ nodes)) = true := by simp; omega
  rw [e1]
  clear e1
  go_wp2_with fail
  refine (has_any w2 F g nodes N f S b (H.out.below hb2)).mono ?_
  rintro e w3 ⟨rfl, hb3⟩
  have k6 := k6.ext hb3
  have hb3 := hb2.trans (hb3.mono hb2.size)
  by_cases hb : 1 ≤ b ∧ b ≤ nodes
  rotate_left 1
  · have e1 : (decide (1 ≤ b) && decide (b ≤ nodes)) = false := by simp; omega
    rw [e1]
    go_wp2_with (with_reducible refine stop_store ?_)
    refine hide (wpList_store_blk rfl 60 (.tmp 6) (.tmp 23) rfl w.heap.size [.int .i64 0, .int .i64 0] rfl rfl _ k6 rfl (by kernel_rfl) rfl ?_)
    intro wf kf hgf hzf
    go_wp2
    refine bodyPost_ret (v := .tuple #[.agg #[.int .i64 0, .int .i64 0], .int .i64 31]) ?_ rfl ⟨below_grown hb3 hgf (Nat.le_refl _) (k6).lt, .inr ⟨(fun q => hb q.2.1), rfl⟩⟩
    simp [results, Try.results23, go_sem, kf.cell]
  have e1 : (decide (1 ≤ b) && decide (b ≤ nodes)) = true := by simp; omega
  rw [e1]
  clear e1
  by_cases hab : a = b
  · have HAB := Lib.hid hab
    have e2 : (a == b) = true := beq_iff_eq.2 hab
    clear hab
    go_wp2_with (with_reducible refine stop_store ?_)
    refine hide (wpList_store_blk rfl 60 (.tmp 6) (.tmp 23) rfl w.heap.size [.int .i64 0, .int .i64 0] rfl rfl _ k6 rfl (by kernel_rfl) rfl ?_)
    intro wf kf hgf hzf
    go_wp2
    refine bodyPost_ret (v := .tuple #[.agg #[.int .i64 0, .int .i64 0], .int .i64 31]) ?_ rfl ⟨below_grown hb3 hgf (Nat.le_refl _) (k6).lt, .inr ⟨(fun q => q.2.2 HAB.out), rfl⟩⟩
    simp [results, Try.results23, go_sem, kf.cell]
  · have e2 : (a == b) = false := beq_eq_false_iff_ne.2 hab
    go_wp2_with (with_reducible refine stop_store ?_)
    refine hide (wpList_store_blk rfl 60 (.tmp 6) (.tmp 26) rfl w.heap.size [.int .i64 a, .int .i64 b] rfl rfl _ k6 rfl (by kernel_rfl) rfl ?_)
    intro wf kf hgf hzf
    go_wp2
    refine bodyPost_ret (v := .tuple #[.agg #[.int .i64 a, .int .i64 b], .int .i64 0]) ?_ rfl ⟨below_grown hb3 hgf (Nat.le_refl _) k6.lt, .inl ⟨⟨ha, hb, hab⟩, rfl⟩⟩
    simp [results, Try.results23, go_sem, kf.cell]

theorem small_wf {i : Int} (h : Small i) : (Lit.int .i64 i).wf = true := by
  have h1 := h.1
  have h2 := h.2
  have h3 : i = 0 ∨ i = 1 ∨ i = 2 ∨ i = 3 ∨ i = 4 ∨ i = 5 ∨ i = 6 ∨ i = 7 := by omega
  rcases h3 with rfl | rfl | rfl | rfl | rfl | rfl | rfl | rfl <;> rfl
theorem aside_lookup {w : World} {am N : Nat} {S : Int → Bool} (h : AsideAt w am N S) {i : Int} (hi : (Lit.int .i64 i).wf = true) : (Instr.lookup 56 (.map (some am)) (.int .i64 i) false).run Try.prog w = .ok (.bool (S i)) w := by
  obtain ⟨D, h1, h2⟩ := h
  obtain ⟨v, ps, hrun, hv⟩ := h1.lookup (Maps.int_keyed Try.underlying3) Try.underlying56 (Try.zeroValue4 w) (zd := .lit (.bool false)) (zp := []) (plainElem_bool Try.underlying4 false) (Maps.keyOf_int_mk Try.underlying3 hi)
  rw [h2 i hi] at hv
  unfold plainElem at hv
  rw [Try.underlying4] at hv
  cases v <;> simp at hv
  rw [← hv.1]
  exact hrun

/-- What Send answers, and the bags then. -/
def SendF (nodes : Int) (f : Int → Int → List Pkt) (S : Int → Bool) (x : Pkt) (e : Ending) (f' : Int → Int → List Pkt) : Prop :=
  (¬ okWay nodes x.1 x.2.1 ∧ e = .returned (.int .i64 31) ∧ f' = f) ∨
  (okWay nodes x.1 x.2.1 ∧ ¬ S x.1 = S x.2.1 ∧ e = .returned (.int .i64 0) ∧ f' = f) ∨
  (okWay nodes x.1 x.2.1 ∧ S x.1 = S x.2.1 ∧ 64 ≤ (f x.1 x.2.1).length ∧ e = .returned (.int .i64 32) ∧ f' = f) ∨
  (okWay nodes x.1 x.2.1 ∧ S x.1 = S x.2.1 ∧ (f x.1 x.2.1).length < 64 ∧ e = .returned (.int .i64 0) ∧ f' = updF f x.1 x.2.1 (f x.1 x.2.1 ++ [x]))
def SendIs (w w' : World) (F : Nat → Prop) (g : Nat) (nodes : Int) (N : Nat) (f : Int → Int → List Pkt) (S : Int → Bool) (x : Pkt) (e : Ending) : Prop := Beside F w w' ∧ ∃ f', SendF nodes f S x e f' ∧ NetIs w' (grow F w w') g nodes (N + 1) f' S

set_option maxHeartbeats 4000000 in
theorem send_any (w : World) (F : Nat → Prop) (g : Nat) (nodes : Int) (N : Nat) (f : Int → Int → List Pkt) (S : Int → Bool) (cs : List Value) (x : Pkt) (h : NetIs w F g nodes N f S) (hF : ∀ b, F b → b < w.heap.size) (hn : nodes ≤ 7) (hN : N < maxLen) (hx : IsP w cs x) (hxl : x.2.2.2.length ≤ 140737488355328) :
    Calls Try.prog 10 #[.pointer (some ⟨g, 0, none⟩), .agg cs.toArray] w fun e w' => SendIs w w' F g nodes N f S x e := by
  have H := Lib.hid h
  clear h
  obtain ⟨D0, d0, rfl, hD⟩ := hx
  have HX := Lib.hid (show IsP w [.int .i64 x.1, .int .i64 x.2.1, .int .i64 x.2.2.1, .slice D0 x.2.2.2.length d0] x from ⟨D0, d0, rfl, hD⟩)
  clear hD
  go_enter Try.func10, Try.ntmps10
  go_wp2_with fail
  refine name_calls (fun w1 hw1 => ?_)
  have k3 : Blk w1 w.heap.size [.int .i64 x.1, .int .i64 x.2.1, .int .i64 x.2.2.1, .slice D0 x.2.2.2.length d0] := by rw [hw1]; exact Blk.new _ _ _ _ rfl
  have hb1 : Below w.heap.size w w1 := by rw [hw1]; exact (by (repeat first | refine Below.setCell ?_ (by first | omega | (dsimp only; omega) | (simp only [heap_drew, World.size_alloc, Gz.size_setCell]; omega)) _ | refine Below.alloc ?_ (by first | omega | (dsimp only; omega) | (simp only [heap_drew, World.size_alloc, Gz.size_setCell]; omega)) _ | refine Below.drew ?_); exact Below.refl _ _)
  clear hw1
  refine (way_any w1 F g nodes N f S x.1 x.2.1 (H.out.below hb1)).mono ?_
  rintro e w2 ⟨hb2, hway⟩
  have k3 := k3.ext hb2
  have hz2 := hb2.size
  have hb2 := hb1.trans (hb2.mono hb1.size)
  rcases hway with ⟨hok, rfl⟩ | ⟨hno, rfl⟩
  rotate_left 1
  · have HNO := Lib.hid hno
    clear hno
    go_wp2
    go_ret
    have hb3 : Below w.heap.size w (w2.alloc (.cells #[.int .i64 0, .int .i64 0] 60)) := hb2.alloc hb2.size _
    exact ⟨Beside.of_below hb3, f, .inl ⟨HNO.out, rfl, rfl⟩, (H.out.below hb3).mono (fun b hb => .inl hb) (by omega)⟩
  have HOK := Lib.hid hok
  have s1 : Small x.1 := ⟨by have := hok.1.1; omega, by have := hok.1.2; omega⟩
  have s2 : Small x.2.1 := ⟨by have := hok.2.1.1; omega, by have := hok.2.1.2; omega⟩
  have HS1 := Lib.hid s1
  have HS2 := Lib.hid s2
  clear hok s1 s2
  go_wp2_with fail
  refine name_world (fun w3 hw3 => ?_)
  have hb3 : Below w.heap.size w w3 := by rw [hw3]; exact hb2.alloc hb2.size _
  have k3 : Blk w3 w.heap.size [.int .i64 x.1, .int .i64 x.2.1, .int .i64 x.2.2.1, .slice D0 x.2.2.2.length d0] := by rw [hw3]; exact k3.alloc _
  have k5 : Blk w3 w2.heap.size [.int .i64 x.1, .int .i64 x.2.1] := by rw [hw3]; exact Blk.new _ _ _ _ rfl
  clear hw3
  have HN3 := Lib.hid (H.out.below hb3)
  obtain ⟨bm, am, kg, _, _, _, _, hside⟩ := HN3.out
  have hl1 := aside_lookup (w := w3.drew) hside (i := x.1) (small_wf HS1.out)
  have hl2 := aside_lookup (w := w3.drew) hside (i := x.2.1) (small_wf HS2.out)
  obtain ⟨b1, hb1'⟩ : ∃ b1, b1 = S x.1 := ⟨_, rfl⟩
  obtain ⟨b2, hb2'⟩ : ∃ b2, b2 = S x.2.1 := ⟨_, rfl⟩
  rw [← hb1'] at hl1
  rw [← hb2'] at hl2
  have HB1 := Lib.hid hb1'
  have HB2 := Lib.hid hb2'
  have cg := kg.blk.cell 2
  have c3 := k3.cell
  clear hb1' hb2' hside kg
  refine wp_region_held_drew (S := fun W => W = w3.drew) (by kernel_rfl) rfl (fun hS => ?_)
  simp only [List.size_toArray, List.length_cons, List.length_nil]
  refine take_at (i := 0) (oi := _) (dst := some 19) (v := ?_) rfl rfl (by kernel_rfl) (by kernel_rfl) (by kernel_rfl) (fun _ _ _ h => h) (Or.inl ⟨by rfl, by intro w hSw; (try dsimp only at hSw); go_simp; (try with_reducible rfl)⟩) (by assumption) ?_; (try simp only [Act.put, List.setIfInBounds_toArray, List.set_cons_zero, List.set_cons_succ])
  refine take_at (i := 1) (oi := _) (dst := some 20) (v := ?_) rfl rfl (by kernel_rfl) (by kernel_rfl) (by kernel_rfl) (fun _ _ _ h => h) (Or.inl ⟨by rfl, by intro w hSw; (try dsimp only at hSw); go_simp; (try with_reducible rfl)⟩) (by assumption) ?_; (try simp only [Act.put, List.setIfInBounds_toArray, List.set_cons_zero, List.set_cons_succ])
  refine take_at (i := 2) (oi := _) (dst := some 21) (v := ?_) rfl rfl (by kernel_rfl) (by kernel_rfl) (by kernel_rfl) (fun _ _ _ h => h) (Or.inl ⟨by rfl, by intro w hSw; (try dsimp only at hSw); go_simp; (try with_reducible rfl)⟩) (by assumption) ?_; (try simp only [Act.put, List.setIfInBounds_toArray, List.set_cons_zero, List.set_cons_succ])
  refine take_at (i := 3) (oi := _) (dst := some 22) (v := ?_) rfl rfl (by kernel_rfl) (by kernel_rfl) (by kernel_rfl) (fun _ _ _ h => h) (Or.inl ⟨by rfl, by intro w hSw; (try dsimp only at hSw); go_simp; (try with_reducible rfl)⟩) (by assumption) ?_; (try simp only [Act.put, List.setIfInBounds_toArray, List.set_cons_zero, List.set_cons_succ])
  refine take_at (i := 4) (oi := _) (dst := some 23) (v := ?_) rfl rfl (by kernel_rfl) (by kernel_rfl) (by kernel_rfl) (fun _ _ _ h => h) (Or.inl ⟨by rfl, by intro w hSw; (try dsimp only at hSw); go_simp; (try with_reducible rfl)⟩) (by assumption) ?_; (try simp only [Act.put, List.setIfInBounds_toArray, List.set_cons_zero, List.set_cons_succ])
  refine take_at (i := 5) (oi := _) (dst := some 24) (v := ?_) rfl rfl (by kernel_rfl) (by kernel_rfl) (by kernel_rfl) (fun _ _ _ h => h) (Or.inl ⟨by rfl, by intro w hSw; (try dsimp only at hSw); go_simp; (try with_reducible rfl)⟩) (by assumption) ?_; (try simp only [Act.put, List.setIfInBounds_toArray, List.set_cons_zero, List.set_cons_succ])
  refine take_at (i := 6) (oi := _) (dst := some 25) (v := ?_) rfl rfl (by kernel_rfl) (by kernel_rfl) (by kernel_rfl) (fun _ _ _ h => h) (Or.inl ⟨by rfl, by intro w hSw; (try dsimp only at hSw); go_simp; (try with_reducible rfl)⟩) (by assumption) ?_; (try simp only [Act.put, List.setIfInBounds_toArray, List.set_cons_zero, List.set_cons_succ])
  refine take_at (i := 7) (oi := _) (dst := some 26) (v := ?_) rfl rfl (by kernel_rfl) (by kernel_rfl) (by kernel_rfl) (fun _ _ _ h => h) (Or.inl ⟨by rfl, by intro w hSw; (try dsimp only at hSw); go_simp; (try with_reducible rfl)⟩) (by assumption) ?_; (try simp only [Act.put, List.setIfInBounds_toArray, List.set_cons_zero, List.set_cons_succ])
  refine take_at (i := 8) (oi := _) (dst := some 27) (v := ?_) rfl rfl (by kernel_rfl) (by kernel_rfl) (by kernel_rfl) (fun _ _ _ h => h) (Or.inl ⟨by rfl, by intro w hSw; (try dsimp only at hSw); go_simp; (try with_reducible rfl)⟩) (by assumption) ?_; (try simp only [Act.put, List.setIfInBounds_toArray, List.set_cons_zero, List.set_cons_succ])
  refine take_at (i := 9) (oi := _) (dst := some 28) (v := ?_) rfl rfl (by kernel_rfl) (by kernel_rfl) (by kernel_rfl) (fun _ _ _ h => h) (Or.inl ⟨by rfl, by intro w hSw; (try dsimp only at hSw); go_simp; (try with_reducible rfl)⟩) (by assumption) ?_; (try simp only [Act.put, List.setIfInBounds_toArray, List.set_cons_zero, List.set_cons_succ])
  refine take_at (i := 10) (oi := _) (dst := some 29) (v := ?_) rfl rfl (by kernel_rfl) (by kernel_rfl) (by kernel_rfl) (fun _ _ _ h => h) (Or.inl ⟨by rfl, by intro w hSw; (try dsimp only at hSw); go_simp; (try with_reducible rfl)⟩) (by assumption) ?_; (try simp only [Act.put, List.setIfInBounds_toArray, List.set_cons_zero, List.set_cons_succ])
  refine take_at (i := 11) (oi := _) (dst := some 30) (v := ?_) rfl rfl (by kernel_rfl) (by kernel_rfl) (by kernel_rfl) (fun _ _ _ h => h) (Or.inl ⟨by rfl, by intro w hSw; (try dsimp only at hSw); go_simp; (try with_reducible rfl)⟩) (by assumption) ?_; (try simp only [Act.put, List.setIfInBounds_toArray, List.set_cons_zero, List.set_cons_succ])
  refine take_at (i := 12) (oi := _) (dst := some 31) (v := ?_) rfl rfl (by kernel_rfl) (by kernel_rfl) (by kernel_rfl) (fun _ _ _ h => h) (Or.inl ⟨by rfl, by intro w hSw; (try dsimp only at hSw); go_simp; (try with_reducible rfl)⟩) (by assumption) ?_; (try simp only [Act.put, List.setIfInBounds_toArray, List.set_cons_zero, List.set_cons_succ])
  refine take_at (i := 13) (oi := _) (dst := some 32) (v := ?_) rfl rfl (by kernel_rfl) (by kernel_rfl) (by kernel_rfl) (fun _ _ _ h => h) (Or.inl ⟨by rfl, by intro w hSw; (try dsimp only at hSw); go_simp; (try with_reducible rfl)⟩) (by assumption) ?_; (try simp only [Act.put, List.setIfInBounds_toArray, List.set_cons_zero, List.set_cons_succ])
  refine take_at (i := 14) (oi := _) (dst := some 33) (v := ?_) rfl rfl (by kernel_rfl) (by kernel_rfl) (by kernel_rfl) (fun _ _ _ h => h) (Or.inl ⟨by rfl, by intro w hSw; (try dsimp only at hSw); go_simp; (try with_reducible rfl)⟩) (by assumption) ?_; (try simp only [Act.put, List.setIfInBounds_toArray, List.set_cons_zero, List.set_cons_succ])
  refine wpAnyH_done (by kernel_rfl) ?_ _
  have k5 := k5.drew
  have c5 := k5.cell
  clear hS hl1 hl2
  cases b1 <;> cases b2
  · go_wp2_with fail
    refine (put_any w3.drew F g nodes N f S x.1 x.2.1 _ x (H.out.below hb3.drew) (fun b hb => Nat.lt_of_lt_of_le (hF b hb) hb3.size) HS1.out HS2.out hN (HX.out.below hb3.drew) hxl).mono ?_
    rintro e w5 ⟨hbes, hp⟩
    have hbes' : Beside F w w5 := Beside.after hb3.drew hbes
    rcases hp with ⟨hge, rfl, hnet⟩ | ⟨hlt, rfl, hnet⟩
    · have HNT := Lib.hid hnet
      have HGE := Lib.hid hge
      clear hnet hge
      go_wp2
      go_ret
      exact ⟨hbes', f, .inr (.inr (.inl ⟨HOK.out, by rw [← HB1.out, ← HB2.out], HGE.out, rfl, rfl⟩)), HNT.out.mono (grow_after hb3.drew) (Nat.le_refl _)⟩
    · have HNT := Lib.hid hnet
      have HLT := Lib.hid hlt
      clear hnet hlt
      go_wp2
      go_ret
      exact ⟨hbes', _, .inr (.inr (.inr ⟨HOK.out, by rw [← HB1.out, ← HB2.out], HLT.out, rfl, rfl⟩)), HNT.out.mono (grow_after hb3.drew) (Nat.le_refl _)⟩
  · go_wp2
    go_ret
    exact ⟨Beside.of_below hb3.drew, f, .inr (.inl ⟨HOK.out, by rw [← HB1.out, ← HB2.out]; decide, rfl, rfl⟩), (H.out.below hb3.drew).mono (fun b hb => .inl hb) (by omega)⟩
  · go_wp2
    go_ret
    exact ⟨Beside.of_below hb3.drew, f, .inr (.inl ⟨HOK.out, by rw [← HB1.out, ← HB2.out]; decide, rfl, rfl⟩), (H.out.below hb3.drew).mono (fun b hb => .inl hb) (by omega)⟩
  · go_wp2_with fail
    refine (put_any w3.drew F g nodes N f S x.1 x.2.1 _ x (H.out.below hb3.drew) (fun b hb => Nat.lt_of_lt_of_le (hF b hb) hb3.size) HS1.out HS2.out hN (HX.out.below hb3.drew) hxl).mono ?_
    rintro e w5 ⟨hbes, hp⟩
    have hbes' : Beside F w w5 := Beside.after hb3.drew hbes
    rcases hp with ⟨hge, rfl, hnet⟩ | ⟨hlt, rfl, hnet⟩
    · have HNT := Lib.hid hnet
      have HGE := Lib.hid hge
      clear hnet hge
      go_wp2
      go_ret
      exact ⟨hbes', f, .inr (.inr (.inl ⟨HOK.out, by rw [← HB1.out, ← HB2.out], HGE.out, rfl, rfl⟩)), HNT.out.mono (grow_after hb3.drew) (Nat.le_refl _)⟩
    · have HNT := Lib.hid hnet
      have HLT := Lib.hid hlt
      clear hnet hlt
      go_wp2
      go_ret
      exact ⟨hbes', _, .inr (.inr (.inr ⟨HOK.out, by rw [← HB1.out, ← HB2.out], HLT.out, rfl, rfl⟩)), HNT.out.mono (grow_after hb3.drew) (Nat.le_refl _)⟩
end Go.Proofs.Ytjihiohmemmabaa

/- Deliver, Drop, Double. -/
import Derived.Test.YtjihiohmemmabaaNDel
namespace Go.Gz
theorem flat_drop {α : Type} (val : α → List Value) (k : Nat) : ∀ (l : List α), (∀ y ∈ l, (val y).length = k) → ∀ (p : Nat), (l.flatMap val).drop (p * k) = (l.drop p).flatMap val
  | [], _, p => by simp
  | y :: l, h, 0 => by simp
  | y :: l, h, p + 1 => by
    have hy := h y (by simp)
    rw [List.flatMap_cons, List.drop_succ_cons, ← flat_drop val k l (fun y hy => h y (by simp [hy])) p, show (p + 1) * k = (val y).length + p * k by rw [hy, Nat.succ_mul]; omega, List.drop_append, List.drop_eq_nil_of_le (by omega), List.nil_append, Nat.add_sub_cancel_left]
theorem flat_take {α : Type} (val : α → List Value) (k : Nat) : ∀ (l : List α), (∀ y ∈ l, (val y).length = k) → ∀ (p : Nat), (l.flatMap val).take (p * k) = (l.take p).flatMap val
  | [], _, p => by simp
  | y :: l, h, 0 => by simp
  | y :: l, h, p + 1 => by
    have hy := h y (by simp)
    rw [List.flatMap_cons, List.take_succ_cons, List.flatMap_cons, ← flat_take val k l (fun y hy => h y (by simp [hy])) p, show (p + 1) * k = (val y).length + p * k by rw [hy, Nat.succ_mul]; omega, List.take_append, List.take_of_length_le (by omega), Nat.add_sub_cancel_left]
end Go.Gz
namespace Go.Proofs.Ytjihiohmemmabaa
open Go.RowKit Go.Gz
attribute [local go_sem] World.cell?_alloc_some frozen?_alloc_some

/-- What Deliver answers, and the bags then. -/
def DelF (nodes : Int) (w' : World) (G : Nat → Prop) (f : Int → Int → List Pkt) (a b k : Int) (cs : List Value) (E : Int) (f' : Int → Int → List Pkt) : Prop :=
  (¬ okWay nodes a b ∧ E = 31 ∧ f' = f) ∨ (okWay nodes a b ∧ (k < 0 ∨ (f a b).length ≤ k) ∧ E = 33 ∧ f' = f) ∨
  (okWay nodes a b ∧ ∃ (m : Nat) (x : Pkt), k = m ∧ (f a b)[m]? = some x ∧ RdP w' G cs x ∧ E = 0 ∧ f' = updF f a b ((f a b).eraseIdx m))
def DelIs (w w' : World) (F : Nat → Prop) (g : Nat) (nodes : Int) (N : Nat) (f : Int → Int → List Pkt) (S : Int → Bool) (a b k : Int) (e : Ending) : Prop := Beside F w w' ∧
  ∃ (cs : List Value) (E : Int) (f' : Int → Int → List Pkt), (cs.length = 4 ∧ ∀ v ∈ cs, v.oneCell' = true) ∧ e = .returned (.tuple #[.agg cs.toArray, .int .i64 E]) ∧ DelF nodes w' (grow F w w') f a b k cs E f' ∧ NetIs w' (grow F w w') g nodes (N + 1) f' S

theorem zero_one : ∀ v ∈ ([.int .i64 0, .int .i64 0, .int .i64 0, .slice none 0 0] : List Value), v.oneCell' = true := by
  intro v hv
  simp at hv
  rcases hv with rfl | rfl <;> rfl

set_option maxHeartbeats 4000000 in
theorem deliver_any (w : World) (F : Nat → Prop) (g : Nat) (nodes : Int) (N : Nat) (f : Int → Int → List Pkt) (S : Int → Bool) (a b k : Int) (h : NetIs w F g nodes N f S) (hF : ∀ b, F b → b < w.heap.size) (hn : nodes ≤ 7) (hN : N < maxLen) (hlen : (f a b).length ≤ 140737488355328) :
    Calls Try.prog 15 #[.pointer (some ⟨g, 0, none⟩), .int .i64 a, .int .i64 b, .int .i64 k] w fun e w' => DelIs w w' F g nodes N f S a b k e := by
  have H := Lib.hid h
  clear h
  go_enter Try.func15, Try.ntmps15
  go_wp2_with fail
  refine name_calls (fun w1 hw1 => ?_)
  have k8 : Blk w1 w.heap.size [.int .i64 0, .int .i64 0, .int .i64 0, .slice none 0 0] := by rw [hw1]; exact Blk.new _ _ _ _ rfl
  have hb1 : Below w.heap.size w w1 := by rw [hw1]; exact (by (repeat first | refine Below.setCell ?_ (by first | omega | (dsimp only; omega) | (simp only [heap_drew, World.size_alloc, Gz.size_setCell]; omega)) _ | refine Below.alloc ?_ (by first | omega | (dsimp only; omega) | (simp only [heap_drew, World.size_alloc, Gz.size_setCell]; omega)) _ | refine Below.drew ?_); exact Below.refl _ _)
  clear hw1
  refine (at_any w1 F g nodes N f S a b k (H.out.below hb1) hn hlen).mono ?_
  rintro e w2 ⟨hb2, hat⟩
  have k8 := k8.ext hb2
  have k8lt := k8.lt
  have hb2 := hb1.trans (hb2.mono hb1.size)
  rcases hat with ⟨hno, rfl⟩ | ⟨hok, hout, rfl⟩ | ⟨hok, m, x, D, dc, hkm, hx, hrd, rfl⟩
  · have HNO := Lib.hid hno
    clear hno
    go_wp2_with (with_reducible refine stop_store ?_)
    refine hide (name_list (fun w3 hw3 => ?_))
    have hb23 : Below w2.heap.size w2 w3 := by rw [hw3]; exact (by (repeat first | refine Below.setCell ?_ (by first | omega | (dsimp only; omega) | (simp only [heap_drew, World.size_alloc, Gz.size_setCell]; omega)) _ | refine Below.alloc ?_ (by first | omega | (dsimp only; omega) | (simp only [heap_drew, World.size_alloc, Gz.size_setCell]; omega)) _ | refine Below.drew ?_); exact Below.refl _ _)
    have k8 := k8.ext hb23
    have k10 : Blk w3 w2.heap.size [.int .i64 0, .int .i64 0] := by rw [hw3]; exact (Blk.new _ _ _ _ rfl).alloc _
    have k11 : Blk w3 (w2.heap.size + 1) [.int .i64 0, .int .i64 0, .int .i64 0, .slice none 0 0] := by rw [hw3]; exact Blk.new _ _ _ _ (by simp)
    have hz3 : w3.heap.size = w2.heap.size + 2 := by rw [hw3]; simp
    clear hw3
    refine hide (wpList_store_blk rfl 60 (.tmp 10) (.tmp 19) rfl w2.heap.size [.int .i64 0, .int .i64 0] rfl rfl _ k10 rfl (by kernel_rfl) rfl ?_)
    intro w4 k10 hg4 hz4
    have hb24 := below_grown hb23 hg4 (Nat.le_refl _) (by omega)
    have k8 := blk_grown k8 hg4 (by omega)
    have k11 := blk_grown k11 hg4 (by omega)
    go_wp2_with (with_reducible refine stop_store ?_)
    refine hide (wpList_store_blk rfl 29 (.tmp 11) (.tmp 20) rfl (w2.heap.size + 1) [.int .i64 0, .int .i64 0, .int .i64 0, .slice none 0 0] rfl rfl _ k11 rfl (by kernel_rfl) rfl ?_)
    intro w5 k11 hg5 hz5
    have hb25 := below_grown hb24 hg5 (by omega) (by omega)
    have k8 := blk_grown k8 hg5 (by omega)
    have k10 := blk_grown k10 hg5 (by omega)
    have hb5 := hb2.trans (hb25.mono hb2.size)
    have hz25 := hb25.size
    clear hg4 hg5 hz4 hb23 hb24
    have c11 := k11.cell
    go_wp2_with (with_reducible refine stop_store ?_)
    refine hide (wpList_store_blk rfl 29 (.tmp 8) (.tmp 39) rfl w.heap.size [.int .i64 0, .int .i64 0, .int .i64 0, .slice none 0 0] rfl rfl _ k8 rfl (by kernel_rfl) rfl ?_)
    intro wf k8' hgf hzf
    have hbf := below_grown hb5 hgf (Nat.le_refl _) k8.lt
    go_wp2
    refine bodyPost_ret (v := .tuple #[.agg #[.int .i64 0, .int .i64 0, .int .i64 0, .slice none 0 0], .int .i64 31]) ?_ rfl ⟨Beside.of_below hbf, [.int .i64 0, .int .i64 0, .int .i64 0, .slice none 0 0], 31, f, ⟨rfl, zero_one⟩, rfl, .inl ⟨HNO.out, rfl, rfl⟩, (H.out.below hbf).mono (fun b hb => .inl hb) (by omega)⟩
    simp [results, Try.results15, go_sem, k8'.cell]
  · have HOK := Lib.hid hok
    have HOUT := Lib.hid hout
    clear hok hout
    go_wp2_with (with_reducible refine stop_store ?_)
    refine hide (name_list (fun w3 hw3 => ?_))
    have hb23 : Below w2.heap.size w2 w3 := by rw [hw3]; exact (by (repeat first | refine Below.setCell ?_ (by first | omega | (dsimp only; omega) | (simp only [heap_drew, World.size_alloc, Gz.size_setCell]; omega)) _ | refine Below.alloc ?_ (by first | omega | (dsimp only; omega) | (simp only [heap_drew, World.size_alloc, Gz.size_setCell]; omega)) _ | refine Below.drew ?_); exact Below.refl _ _)
    have k8 := k8.ext hb23
    have k10 : Blk w3 w2.heap.size [.int .i64 0, .int .i64 0] := by rw [hw3]; exact (Blk.new _ _ _ _ rfl).alloc _
    have k11 : Blk w3 (w2.heap.size + 1) [.int .i64 0, .int .i64 0, .int .i64 0, .slice none 0 0] := by rw [hw3]; exact Blk.new _ _ _ _ (by simp)
    have hz3 : w3.heap.size = w2.heap.size + 2 := by rw [hw3]; simp
    clear hw3
    refine hide (wpList_store_blk rfl 60 (.tmp 10) (.tmp 19) rfl w2.heap.size [.int .i64 a, .int .i64 b] rfl rfl _ k10 rfl (by kernel_rfl) rfl ?_)
    intro w4 k10 hg4 hz4
    have hb24 := below_grown hb23 hg4 (Nat.le_refl _) (by omega)
    have k8 := blk_grown k8 hg4 (by omega)
    have k11 := blk_grown k11 hg4 (by omega)
    go_wp2_with (with_reducible refine stop_store ?_)
    refine hide (wpList_store_blk rfl 29 (.tmp 11) (.tmp 20) rfl (w2.heap.size + 1) [.int .i64 0, .int .i64 0, .int .i64 0, .slice none 0 0] rfl rfl _ k11 rfl (by kernel_rfl) rfl ?_)
    intro w5 k11 hg5 hz5
    have hb25 := below_grown hb24 hg5 (by omega) (by omega)
    have k8 := blk_grown k8 hg5 (by omega)
    have k10 := blk_grown k10 hg5 (by omega)
    have hb5 := hb2.trans (hb25.mono hb2.size)
    have hz25 := hb25.size
    clear hg4 hg5 hz4 hb23 hb24
    have c11 := k11.cell
    go_wp2_with (with_reducible refine stop_store ?_)
    refine hide (wpList_store_blk rfl 29 (.tmp 8) (.tmp 39) rfl w.heap.size [.int .i64 0, .int .i64 0, .int .i64 0, .slice none 0 0] rfl rfl _ k8 rfl (by kernel_rfl) rfl ?_)
    intro wf k8' hgf hzf
    have hbf := below_grown hb5 hgf (Nat.le_refl _) k8.lt
    go_wp2
    refine bodyPost_ret (v := .tuple #[.agg #[.int .i64 0, .int .i64 0, .int .i64 0, .slice none 0 0], .int .i64 33]) ?_ rfl ⟨Beside.of_below hbf, [.int .i64 0, .int .i64 0, .int .i64 0, .slice none 0 0], 33, f, ⟨rfl, zero_one⟩, rfl, .inr (.inl ⟨HOK.out, HOUT.out, rfl, rfl⟩), (H.out.below hbf).mono (fun b hb => .inl hb) (by omega)⟩
    simp [results, Try.results15, go_sem, k8'.cell]
  · subst hkm
    have HOK := Lib.hid hok
    have HS1 := Lib.hid (show Small a from ⟨by have := hok.1.1; omega, by have := hok.1.2; omega⟩)
    have HS2 := Lib.hid (show Small b from ⟨by have := hok.2.1.1; omega, by have := hok.2.1.2; omega⟩)
    have HX := Lib.hid hx
    have HRD := Lib.hid hrd
    have hml := (List.getElem?_eq_some_iff.1 hx).1
    clear hok hx hrd
    go_wp2_with (with_reducible refine stop_store ?_)
    refine hide (name_list (fun w3 hw3 => ?_))
    have hb23 : Below w2.heap.size w2 w3 := by rw [hw3]; exact (by (repeat first | refine Below.setCell ?_ (by first | omega | (dsimp only; omega) | (simp only [heap_drew, World.size_alloc, Gz.size_setCell]; omega)) _ | refine Below.alloc ?_ (by first | omega | (dsimp only; omega) | (simp only [heap_drew, World.size_alloc, Gz.size_setCell]; omega)) _ | refine Below.drew ?_); exact Below.refl _ _)
    have k8 := k8.ext hb23
    have k10 : Blk w3 w2.heap.size [.int .i64 0, .int .i64 0] := by rw [hw3]; exact (Blk.new _ _ _ _ rfl).alloc _
    have k11 : Blk w3 (w2.heap.size + 1) [.int .i64 0, .int .i64 0, .int .i64 0, .slice none 0 0] := by rw [hw3]; exact Blk.new _ _ _ _ (by simp)
    have hz3 : w3.heap.size = w2.heap.size + 2 := by rw [hw3]; simp
    clear hw3
    refine hide (wpList_store_blk rfl 60 (.tmp 10) (.tmp 19) rfl w2.heap.size [.int .i64 a, .int .i64 b] rfl rfl _ k10 rfl (by kernel_rfl) rfl ?_)
    intro w4 k10 hg4 hz4
    have hb24 := below_grown hb23 hg4 (Nat.le_refl _) (by omega)
    have k8 := blk_grown k8 hg4 (by omega)
    have k11 := blk_grown k11 hg4 (by omega)
    go_wp2_with (with_reducible refine stop_store ?_)
    refine hide (wpList_store_blk rfl 29 (.tmp 11) (.tmp 20) rfl (w2.heap.size + 1) [.int .i64 x.1, .int .i64 x.2.1, .int .i64 x.2.2.1, .slice D x.2.2.2.length dc] rfl rfl _ k11 rfl (by kernel_rfl) rfl ?_)
    intro w5 k11 hg5 hz5
    have hb25 := below_grown hb24 hg5 (by omega) (by omega)
    have k8 := blk_grown k8 hg5 (by omega)
    have k10 := blk_grown k10 hg5 (by omega)
    have hb5 := hb2.trans (hb25.mono hb2.size)
    have hz25 := hb25.size
    clear hg4 hg5 hz4 hb23 hb24
    have HRD := Lib.hid (HRD.out.grown (Spared.of_below hb25))
    have HN5 := Lib.hid (H.out.below hb5)
    obtain ⟨bm, am, kg, hFg, hFa, hne, ⟨sl, hBM, hFb, hown, hap⟩, hside⟩ := HN5.out
    obtain ⟨zs, q1, q2, q3, q4⟩ := hown a b HS1.out HS2.out
    have hzl : zs.length = (f a b).length := by rw [← q1, List.length_map]
    obtain ⟨r, hr⟩ : ∃ r, zs.length = m + 1 + r := ⟨zs.length - (m + 1), by omega⟩
    rcases q2.2 with ⟨hv, h0⟩ | ⟨g', cap, cur, hv, _, hgg, _⟩
    · omega
    have hgF : F g' := q3 g' (by rw [hv]; rfl)
    have hgl := hF g' hgF
    have hbl := hF bm hFb
    have hgl2 := hF g hFg
    have hg'g : g ≠ g' := fun e => by
      subst e
      have hT : w5.heap[g]? = some (.cells _ 58 (0, 0)) := kg
      rw [hgg] at hT
      injection hT with hT
      injection hT with _ hT
      exact absurd hT (by decide)
    have hbmap : ∃ es clock, w5.heap[bm]? = some (.map es clock) := by
      obtain ⟨Dm, ⟨es, clock, hb, _⟩, _⟩ := hBM
      exact ⟨es, clock, hb⟩
    have hgbm : g ≠ bm := fun e => by
      subst e
      obtain ⟨es, clock, hb⟩ := hbmap
      have hT : w5.heap[g]? = some (.cells _ 58 (0, 0)) := kg
      rw [hb] at hT
      cases hT
    have hg'bm : g' ≠ bm := fun e => by
      subst e
      obtain ⟨es, clock, hb⟩ := hbmap
      rw [hgg] at hb
      cases hb
    rw [hr] at hv
    have hlk : (Instr.lookup 55 (.map (some bm)) (.agg #[.int .i64 a, .int .i64 b]) false).run Try.prog w5.drew = .ok (.slice (some ⟨g', 0, none⟩) (m + 1 + r) cap) w5.drew := by
      have := bag_lookup (w := w5.drew) hBM HS1.out HS2.out
      rw [hv] at this
      exact this
    have Q2 := Lib.hid q2
    rw [hv, hr] at q2
    have q2' : w5.drew.ownsRow 0 29 4 (.slice (some ⟨g', 0, none⟩) (m + 1 + r) cap) (m + 1 + r) (zs.flatMap (·.1)) := q2
    have hone : ∀ v ∈ zs.flatMap (·.1), v.oneCell' = true := fun v hv => by obtain ⟨y, hy, hv⟩ := List.mem_flatMap.1 hv; exact (q4 y hy).one v hv
    have hk4 : ∀ z ∈ zs, z.1.length = 4 := fun z hz => (q4 z hz).len
    have HBM := Lib.hid hBM
    have HOWN := Lib.hid hown
    have HAP := Lib.hid hap
    have HSIDE := Lib.hid hside
    have HV := Lib.hid hv
    have Q1 := Lib.hid q1
    have Q4 := Lib.hid q4
    have HQ := Lib.hid q2'
    have HONE := Lib.hid hone
    have HK4 := Lib.hid hk4
    have HMAP := Lib.hid hbmap
    have KG := Lib.hid kg
    have HGG := Lib.hid hgg
    have hmr : m + 1 + r ≤ 140737488355328 := by omega
    clear hBM hown hap hside hv q1 q2 q2' q3 q4 hone hk4 hbmap kg hgg hzl hr
    have MKS := Lib.hid (show ∀ W, Blk W g [.int .i64 nodes, .map (some bm), .map (some am)] → Blk W w2.heap.size [.int .i64 a, .int .i64 b] → (∀ r, W.cell? ⟨g, r, none⟩ = ([.int .i64 nodes, .map (some bm), .map (some am)] : List Value)[r]?) ∧ ∀ r, W.cell? ⟨w2.heap.size, r, none⟩ = ([.int .i64 a, .int .i64 b] : List Value)[r]? from fun W x y => ⟨x.cell, y.cell⟩)
    have kg5 := KG.out.blk
    go_wp2_with fail
    refine wp_region_held_drew (S := fun W => (∀ r, W.cell? ⟨g, r, none⟩ = ([.int .i64 nodes, .map (some bm), .map (some am)] : List Value)[r]?) ∧ ∀ r, W.cell? ⟨w2.heap.size, r, none⟩ = ([.int .i64 a, .int .i64 b] : List Value)[r]?) (by kernel_rfl) (MKS.out _ kg5.drew k10.drew) (fun hS => ?_)
    simp only [List.size_toArray, List.length_cons, List.length_nil]
    refine take_at (i := 0) (oi := _) (dst := some 24) (v := ?_) rfl rfl (by kernel_rfl) (by kernel_rfl) (by kernel_rfl) (fun _ _ _ h => h) (Or.inl ⟨by rfl, by intro w hSw; (try dsimp only at hSw); go_simp; (try with_reducible rfl)⟩) (by assumption) ?_; (try simp only [Act.put, List.setIfInBounds_toArray, List.set_cons_zero, List.set_cons_succ])
    refine take_at (i := 1) (oi := _) (dst := some 25) (v := ?_) rfl rfl (by kernel_rfl) (by kernel_rfl) (by kernel_rfl) (fun _ _ _ h => h) (Or.inl ⟨by rfl, by intro w hSw; (try dsimp only at hSw); go_simp; (try with_reducible rfl)⟩) (by assumption) ?_; (try simp only [Act.put, List.setIfInBounds_toArray, List.set_cons_zero, List.set_cons_succ])
    refine take_at (i := 2) (oi := _) (dst := some 26) (v := ?_) rfl rfl (by kernel_rfl) (by kernel_rfl) (by kernel_rfl) (fun _ _ _ h => h) (Or.inl ⟨by rfl, by intro w hSw; (try dsimp only at hSw); go_simp; (try with_reducible rfl)⟩) (by assumption) ?_; (try simp only [Act.put, List.setIfInBounds_toArray, List.set_cons_zero, List.set_cons_succ])
    refine take_at (i := 3) (oi := _) (dst := some 27) (v := ?_) rfl rfl (by kernel_rfl) (by kernel_rfl) (by kernel_rfl) (fun _ _ _ h => h) (Or.inl ⟨by rfl, by intro w hSw; (try dsimp only at hSw); go_simp; (try with_reducible rfl)⟩) (by assumption) ?_; (try simp only [Act.put, List.setIfInBounds_toArray, List.set_cons_zero, List.set_cons_succ])
    refine take_at (i := 4) (oi := _) (dst := some 28) (v := ?_) rfl rfl (by kernel_rfl) (by kernel_rfl) (by kernel_rfl) (fun _ _ _ h => h) (Or.inl ⟨by rfl, by intro w hSw; (try dsimp only at hSw); go_simp; (try with_reducible rfl)⟩) (by assumption) ?_; (try simp only [Act.put, List.setIfInBounds_toArray, List.set_cons_zero, List.set_cons_succ])
    refine take_at (i := 5) (oi := _) (dst := some 29) (v := ?_) rfl rfl (by kernel_rfl) (by kernel_rfl) (by kernel_rfl) (fun _ _ _ h => h) (Or.inl ⟨by rfl, by intro w hSw; (try dsimp only at hSw); go_simp; (try with_reducible rfl)⟩) (by assumption) ?_; (try simp only [Act.put, List.setIfInBounds_toArray, List.set_cons_zero, List.set_cons_succ])
    refine take_at (i := 6) (oi := _) (dst := some 30) (v := ?_) rfl rfl (by kernel_rfl) (by kernel_rfl) (by kernel_rfl) (fun _ _ _ h => h) (Or.inl ⟨by rfl, by intro w hSw; (try dsimp only at hSw); go_simp; (try with_reducible rfl)⟩) (by assumption) ?_; (try simp only [Act.put, List.setIfInBounds_toArray, List.set_cons_zero, List.set_cons_succ])
    refine take_at (i := 7) (oi := _) (dst := some 31) (v := ?_) rfl rfl (by kernel_rfl) (by kernel_rfl) (by kernel_rfl) (fun _ _ _ h => h) (Or.inl ⟨by rfl, by intro w hSw; (try dsimp only at hSw); go_simp; (try with_reducible rfl)⟩) (by assumption) ?_; (try simp only [Act.put, List.setIfInBounds_toArray, List.set_cons_zero, List.set_cons_succ])
    refine take_at (i := 8) (oi := _) (dst := some 32) (v := ?_) rfl rfl (by kernel_rfl) (by kernel_rfl) (by kernel_rfl) (fun _ _ _ h => h) (Or.inl ⟨by rfl, by intro w hSw; (try dsimp only at hSw); go_simp; (try with_reducible rfl)⟩) (by assumption) ?_; (try simp only [Act.put, List.setIfInBounds_toArray, List.set_cons_zero, List.set_cons_succ])
    refine take_at (i := 9) (oi := _) (dst := some 33) (v := ?_) rfl rfl (by kernel_rfl) (by kernel_rfl) (by kernel_rfl) (fun _ _ _ h => h) (Or.inl ⟨by rfl, by intro w hSw; (try dsimp only at hSw); go_simp; (try with_reducible rfl)⟩) (by assumption) ?_; (try simp only [Act.put, List.setIfInBounds_toArray, List.set_cons_zero, List.set_cons_succ])
    refine take_at (i := 11) (oi := _) (dst := some 35) (v := ?_) rfl rfl (by kernel_rfl) (by kernel_rfl) (by kernel_rfl) (fun _ _ _ h => h) (Or.inl ⟨by rfl, by intro w hSw; (try dsimp only at hSw); go_simp; (try with_reducible rfl)⟩) (by assumption) ?_; (try simp only [Act.put, List.setIfInBounds_toArray, List.set_cons_zero, List.set_cons_succ])
    refine take_at (i := 12) (oi := _) (dst := some 36) (v := ?_) rfl rfl (by kernel_rfl) (by kernel_rfl) (by kernel_rfl) (fun _ _ _ h => h) (Or.inl ⟨by rfl, by intro w hSw; (try dsimp only at hSw); go_simp; (try with_reducible rfl)⟩) (by assumption) ?_; (try simp only [Act.put, List.setIfInBounds_toArray, List.set_cons_zero, List.set_cons_succ])
    refine take_at (i := 13) (oi := _) (dst := some 37) (v := ?_) rfl rfl (by kernel_rfl) (by kernel_rfl) (by kernel_rfl) (fun _ _ _ h => h) (Or.inl ⟨by rfl, by intro w hSw; (try dsimp only at hSw); go_simp; (try with_reducible rfl)⟩) (by assumption) ?_; (try simp only [Act.put, List.setIfInBounds_toArray, List.set_cons_zero, List.set_cons_succ])
    refine wpAnyH_ready (rs := [10]) (by kernel_rfl) (by simp) ?_; refine AllReadyH.cons (o := _) rfl (fun K hK => ?_) AllReadyH.nil; go_simp
    refine hK.out _ _ (MKS.out _ kg5.drew k10.drew) (fun hS1 => ?_)
    clear hK hlk hS
    refine wpAnyH_ready (rs := [14]) (by kernel_rfl) (by simp) ?_; refine AllReadyH.cons (o := _) rfl (fun K hK => ?_) AllReadyH.nil; go_simp
    rw [show IntKind.i64.wrap ((m : Int) + 1) = (m : Int) + 1 from IntWalk.i64_in _ ⟨by omega, by omega⟩]
    refine (delete_any w5.drew g' cap m r (zs.flatMap (·.1)) HQ.out HONE.out hmr).mono ?_
    rintro e w6 ⟨rfl, hg6, hz6, ho6⟩
    have hg6 : w5.grownBy w6 (some g') := ⟨hg6.os, hg6.tape, hg6.output, hg6.size, hg6.block⟩
    have hz6 : w6.heap.size = w5.heap.size := hz6
    have kg6 := kg5.grown hg6 (fun e => by injection e with e; exact hg'g e)
    have k10 := k10.grown hg6 (fun e => by injection e with e; omega)
    have k11 := k11.grown hg6 (fun e => by injection e with e; omega)
    have k8 := k8.grown hg6 (fun e => by injection e with e; omega)
    refine hK.out _ _ (MKS.out _ kg6 k10) (fun hS2 => ?_)
    clear hK hS1
    obtain ⟨w7, hrun7, hg7, hBM7⟩ := bag_update (HBM.out.kept hg6 (fun e => by injection e with e; exact hg'bm e.symm)) hN HS1.out HS2.out (.slice (some ⟨g', 0, none⟩) (m + r) cap)
    simp only [linkV] at hrun7
    have HBM7 := Lib.hid hBM7
    clear hBM7
    refine wpAnyH_ready (rs := [15]) (by kernel_rfl) (by simp) ?_; refine AllReadyH.cons (o := _) rfl (fun K hK => ?_) AllReadyH.nil; go_simp
    have kg7 := kg6.grown hg7 (fun e => by injection e with e; exact hgbm e)
    have k10 := k10.grown hg7 (fun e => by injection e with e; omega)
    have k11 := k11.grown hg7 (fun e => by injection e with e; omega)
    have k8 := k8.grown hg7 (fun e => by injection e with e; omega)
    refine hK.out _ _ (MKS.out _ kg7 k10) (fun hS3 => ?_)
    clear hK hS2 hrun7
    refine wpAnyH_done (by kernel_rfl) ?_ _
    have hz7 := hg7.size
    have c11 := k11.cell
    clear hS3
    go_wp2_with (with_reducible refine stop_store ?_)
    refine hide (wpList_store_blk rfl 29 (.tmp 8) (.tmp 39) rfl w.heap.size [.int .i64 x.1, .int .i64 x.2.1, .int .i64 x.2.2.1, .slice D x.2.2.2.length dc] rfl rfl _ k8 rfl (by kernel_rfl) rfl ?_)
    intro w8 k8' hg8 hz8
    have hsame6 : SameBut 29 w5 w6 := fun q t cur' hq hne' => (hg6.block q (Array.getElem?_eq_some_iff.1 hq).1 (fun e => by
      injection e with e
      subst e
      have h' := HGG.out
      rw [hq] at h'
      injection h' with h'
      injection h' with _ h'
      exact hne' h')).trans hq
    have hm6 : ∃ es clock, w6.heap[bm]? = some (.map es clock) := by
      obtain ⟨es, clock, hb⟩ := HMAP.out
      exact ⟨es, clock, (hg6.block bm (by omega) (fun e => by injection e with e; exact hg'bm e.symm)).trans hb⟩
    have ht7 : Turn w6 w7 := ⟨some bm, hg7, fun r e cur t fr h' => by
      injection e with e
      subst e
      obtain ⟨es, clock, hb⟩ := hm6
      rw [hb] at h'
      cases h'⟩
    have hflat : (zs.flatMap (·.1)).take (m * 4) ++ (zs.flatMap (·.1)).drop ((m + 1) * 4) = (zs.eraseIdx m).flatMap (·.1) := by
      rw [flat_take (fun z : List Value × Pkt => z.1) 4 zs HK4.out m, flat_drop (fun z : List Value × Pkt => z.1) 4 zs HK4.out (m + 1), ← List.flatMap_append, List.eraseIdx_eq_take_drop_succ]
    have hel : (zs.eraseIdx m).length = m + r := by
      have h1 : zs.length = (f a b).length := by rw [← Q1.out, List.length_map]
      have h2 := HQ.out.1
      rw [flat_len (fun z : List Value × Pkt => z.1) 4 zs HK4.out] at h2
      rw [List.length_eraseIdx, if_pos (by omega)]
      omega
    have hbags : BagsAt w7 (grow F w5 w7) bm (N + 1) (updF f a b ((zs.eraseIdx m).map (·.2))) := by
      refine bags_set (w4 := w5) (w5 := w5) (w6 := w6) (F := F) (zs := zs) (v' := .slice (some ⟨g', 0, none⟩) (m + r) cap) HS1.out HS2.out (fun b hb => .inl hb) HBM.out hFb HOWN.out HAP.out Q2.out (fun z hz => (Q4.out z (List.mem_of_mem_eraseIdx hz)).mono (fun b hb => .inl hb)) (World.grownBy.refl _ _) HMAP.out rfl (by rw [HV.out]; exact hg6) ?_ (.inl (by rw [HV.out]; rfl)) (fun e => ?_) hg7 HBM7.out
      · rw [hel, ← hflat]
        exact ho6
      · simp only [Value.ownBlock, Option.some.injEq] at e
        omega
    have hupd : (zs.eraseIdx m).map (·.2) = (f a b).eraseIdx m := by rw [← Q1.out, List.eraseIdx_eq_take_drop_succ, List.eraseIdx_eq_take_drop_succ, List.map_append, List.map_take, List.map_drop]
    rw [hupd] at hbags
    have hnet7 : NetIs w7 (grow F w5 w7) g nodes (N + 1) (updF f a b ((f a b).eraseIdx m)) S := by
      refine ⟨bm, am, ?_, .inl hFg, .inl hFa, hne, hbags, ?_⟩
      · exact (hg7.block g (by omega) (fun e => by injection e with e; exact hgbm e)).trans ((hg6.block g (by omega) (fun e => by injection e with e; exact hg'g e)).trans KG.out)
      · obtain ⟨Da, ha1, ha2⟩ := HSIDE.out
        refine ⟨Da, ((ha1.kept hg6 (fun e => ?_)).kept hg7 (fun e => by injection e with e; exact hne e)).mono (by omega), ha2⟩
        injection e with e
        obtain ⟨es, clock, hb, _⟩ := ha1
        rw [e, HGG.out] at hb
        cases hb
    have hsp : Spared (grow F w5 w7) w7 w8 := ⟨_, hg8, fun r e hh => by
      injection e with e
      subst e
      rcases hh with hh | hh
      · have := hF _ hh; omega
      · omega⟩
    have hmono : ∀ q, grow F w5 w7 q → grow F w w8 q := fun q hq => hq.imp id (fun hh => ⟨by omega, by omega⟩)
    have hrd8 : RdP w8 (grow F w w8) [.int .i64 x.1, .int .i64 x.2.1, .int .i64 x.2.2.1, .slice D x.2.2.2.length dc] x := ((((HRD.out.same hsame6 (by decide)).turn ht7).mono (fun q hq => (.inl hq : grow F w5 w7 q))).grown hsp).mono hmono
    have hbes : Beside F w w8 := by
      refine (Beside.of_below hb5).trans ((Beside.of_grown hg6 (fun q e => ?_)).trans ((Beside.of_grown hg7 (fun q e => ?_)).trans (Beside.of_grown hg8 (fun q e => ?_))))
      · injection e with e
        subst e
        exact .inl (.inl hgF)
      · injection e with e
        subst e
        exact .inl (.inl (.inl hFb))
      · injection e with e
        subst e
        exact .inl (.inl (.inl (.inr ⟨Nat.le_refl _, by omega⟩)))
    go_wp2
    refine bodyPost_ret (v := .tuple #[.agg #[.int .i64 x.1, .int .i64 x.2.1, .int .i64 x.2.2.1, .slice D x.2.2.2.length dc], .int .i64 0]) ?_ rfl ⟨hbes, [.int .i64 x.1, .int .i64 x.2.1, .int .i64 x.2.2.1, .slice D x.2.2.2.length dc], 0, _, ⟨rfl, hrd8.one⟩, rfl, .inr (.inr ⟨HOK.out, m, x, rfl, HX.out, hrd8, rfl, rfl⟩), (hnet7.grown hsp).mono hmono (Nat.le_refl _)⟩
    simp [results, Try.results15, go_sem, k8'.cell]
end Go.Proofs.Ytjihiohmemmabaa

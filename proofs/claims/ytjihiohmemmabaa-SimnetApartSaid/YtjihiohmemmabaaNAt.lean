/- at: a packet in a bag. -/
import Derived.Test.YtjihiohmemmabaaNSend
namespace Go.Proofs.Ytjihiohmemmabaa
open Go.RowKit Go.Gz
attribute [local go_sem] World.cell?_alloc_some frozen?_alloc_some

/-- One of a bag's packets, as cells. -/
theorem OwnPs.at {w : World} {F : Nat → Prop} {ad : Addr} {n c : Nat} {xs : List Pkt} (h : OwnPs w F (.slice (some ad) n c) xs) {j : Nat} (hj : j < xs.length) : ∃ x D dc, xs[j]? = some x ∧ RdP w F [.int .i64 x.1, .int .i64 x.2.1, .int .i64 x.2.2.1, .slice D x.2.2.2.length dc] x ∧
    w.cell? (ad.add (j * 4)) = some (.int .i64 x.1) ∧ w.cell? ⟨(ad.add (j * 4)).block, (ad.add (j * 4)).off + 1, none⟩ = some (.int .i64 x.2.1) ∧ w.cell? ⟨(ad.add (j * 4)).block, (ad.add (j * 4)).off + 2, none⟩ = some (.int .i64 x.2.2.1) ∧
    w.cell? ⟨(ad.add (j * 4)).block, (ad.add (j * 4)).off + 3, none⟩ = some (.slice D x.2.2.2.length dc) := by
  obtain ⟨zs, h1, h2, h3, h4⟩ := h
  have hn : n = zs.length := by
    rcases h2.2 with ⟨hv, h0⟩ | ⟨g, cap, cur, hv, _⟩
    · cases hv
    · injection hv
  subst hn
  have hl : xs.length = zs.length := by rw [← h1, List.length_map]
  have hjz : j < zs.length := by omega
  have hz := h4 (zs[j]) (List.getElem_mem hjz)
  have hz2 := hz
  obtain ⟨D, dc, e, hd⟩ := hz
  have cm := fun r hr => flat_cell (fun z : List Value × Pkt => z.1) (ownsRow_sl h2) (fun z hz => (h4 z hz).len) hjz r hr
  rw [e] at cm
  rw [e] at hz2
  refine ⟨(zs[j]).2, D, dc, by rw [← h1]; simp [hjz], hz2, cm 0 (by omega), ?_, ?_, ?_⟩
  · rw [add_of ad (j * 4) 1 (by omega)]; exact cm 1 (by omega)
  · rw [add_of ad (j * 4) 2 (by omega)]; exact cm 2 (by omega)
  · rw [add_of ad (j * 4) 3 (by omega)]; exact cm 3 (by omega)

def zeroP : Value := .agg #[.int .i64 0, .int .i64 0, .int .i64 0, .slice none 0 0]
/-- What at answers. -/
def AtIs (w' : World) (F : Nat → Prop) (nodes : Int) (f : Int → Int → List Pkt) (a b k : Int) (e : Ending) : Prop :=
  (¬ okWay nodes a b ∧ e = .returned (.tuple #[.agg #[.int .i64 0, .int .i64 0], .agg #[.int .i64 0, .int .i64 0, .int .i64 0, .slice none 0 0], .int .i64 31])) ∨
  (okWay nodes a b ∧ (k < 0 ∨ (f a b).length ≤ k) ∧ e = .returned (.tuple #[.agg #[.int .i64 a, .int .i64 b], .agg #[.int .i64 0, .int .i64 0, .int .i64 0, .slice none 0 0], .int .i64 33])) ∨
  (okWay nodes a b ∧ ∃ (m : Nat) (x : Pkt) (D : Option Addr) (dc : Nat), k = m ∧ (f a b)[m]? = some x ∧ RdP w' F [.int .i64 x.1, .int .i64 x.2.1, .int .i64 x.2.2.1, .slice D x.2.2.2.length dc] x ∧
    e = .returned (.tuple #[.agg #[.int .i64 a, .int .i64 b], .agg #[.int .i64 x.1, .int .i64 x.2.1, .int .i64 x.2.2.1, .slice D x.2.2.2.length dc], .int .i64 0]))

set_option maxHeartbeats 4000000 in
theorem at_any (w : World) (F : Nat → Prop) (g : Nat) (nodes : Int) (N : Nat) (f : Int → Int → List Pkt) (S : Int → Bool) (a b k : Int) (h : NetIs w F g nodes N f S) (hn : nodes ≤ 7) (hlen : (f a b).length ≤ 140737488355328) :
    Calls Try.prog 25 #[.pointer (some ⟨g, 0, none⟩), .int .i64 a, .int .i64 b, .int .i64 k] w fun e w' => Below w.heap.size w w' ∧ AtIs w' F nodes f a b k e := by
  have H := Lib.hid h
  clear h
  go_enter Try.func25, Try.ntmps25
  go_wp2_with fail
  refine name_calls (fun w1 hw1 => ?_)
  have k8 : Blk w1 w.heap.size [.int .i64 0, .int .i64 0] := by rw [hw1]; exact (Blk.new _ _ _ _ rfl).alloc _
  have k9 : Blk w1 (w.heap.size + 1) [.int .i64 0, .int .i64 0, .int .i64 0, .slice none 0 0] := by rw [hw1]; exact Blk.new _ _ _ _ (by simp)
  have hb1 : Below w.heap.size w w1 := by rw [hw1]; exact (by (repeat first | refine Below.setCell ?_ (by first | omega | (dsimp only; omega) | (simp only [heap_drew, World.size_alloc, Gz.size_setCell]; omega)) _ | refine Below.alloc ?_ (by first | omega | (dsimp only; omega) | (simp only [heap_drew, World.size_alloc, Gz.size_setCell]; omega)) _ | refine Below.drew ?_); exact Below.refl _ _)
  have hz1 : w1.heap.size = w.heap.size + 2 := by rw [hw1]; simp
  clear hw1
  refine (way_any w1 F g nodes N f S a b (H.out.below hb1)).mono ?_
  rintro e w2 ⟨hb2, hway⟩
  have k8 := k8.ext hb2
  have k9 := k9.ext hb2
  have hz2 := hb2.size
  have hb2 := hb1.trans (hb2.mono hb1.size)
  rcases hway with ⟨hok, rfl⟩ | ⟨hno, rfl⟩
  rotate_left 1
  · have HNO := Lib.hid hno
    clear hno
    go_wp2_with fail
    refine name_world (fun w3 hw3 => ?_)
    have hb3 : Below w.heap.size w w3 := by rw [hw3]; exact hb2.alloc hb2.size _
    have k8 : Blk w3 w.heap.size [.int .i64 0, .int .i64 0] := by rw [hw3]; exact k8.alloc _
    have k9 : Blk w3 (w.heap.size + 1) [.int .i64 0, .int .i64 0, .int .i64 0, .slice none 0 0] := by rw [hw3]; exact k9.alloc _
    have k11 : Blk w3 w2.heap.size [.int .i64 0, .int .i64 0] := by rw [hw3]; exact Blk.new _ _ _ _ rfl
    have hz3 : w3.heap.size = w2.heap.size + 1 := by rw [hw3]; simp
    clear hw3
    refine wp_region_held_drew (S := fun W => W = w3.drew) (by kernel_rfl) rfl (fun hS => ?_)
    simp only [List.size_toArray, List.length_cons, List.length_nil]
    refine take_at (i := 0) (oi := _) (dst := some 20) (v := ?_) rfl rfl (by kernel_rfl) (by kernel_rfl) (by kernel_rfl) (fun _ _ _ h => h) (Or.inl ⟨by rfl, by intro w hSw; (try dsimp only at hSw); go_simp; (try with_reducible rfl)⟩) (by assumption) ?_; (try simp only [Act.put, List.setIfInBounds_toArray, List.set_cons_zero, List.set_cons_succ])
    refine take_at (i := 1) (oi := _) (dst := some 21) (v := ?_) rfl rfl (by kernel_rfl) (by kernel_rfl) (by kernel_rfl) (fun _ _ _ h => h) (Or.inl ⟨by rfl, by intro w hSw; (try dsimp only at hSw); go_simp; (try with_reducible rfl)⟩) (by assumption) ?_; (try simp only [Act.put, List.setIfInBounds_toArray, List.set_cons_zero, List.set_cons_succ])
    refine take_at (i := 2) (oi := _) (dst := some 22) (v := ?_) rfl rfl (by kernel_rfl) (by kernel_rfl) (by kernel_rfl) (fun _ _ _ h => h) (Or.inl ⟨by rfl, by intro w hSw; (try dsimp only at hSw); go_simp; (try with_reducible rfl)⟩) (by assumption) ?_; (try simp only [Act.put, List.setIfInBounds_toArray, List.set_cons_zero, List.set_cons_succ])
    refine take_at (i := 3) (oi := _) (dst := some 23) (v := undef) rfl rfl (by kernel_rfl) (by kernel_rfl) (by kernel_rfl) (fun _ _ _ h => h) (Or.inr ⟨by rfl, rfl⟩) (by assumption) ?_; (try simp only [Act.put, List.setIfInBounds_toArray, List.set_cons_zero, List.set_cons_succ])
    refine take_at (i := 4) (oi := _) (dst := some 24) (v := undef) rfl rfl (by kernel_rfl) (by kernel_rfl) (by kernel_rfl) (fun _ _ _ h => h) (Or.inr ⟨by rfl, rfl⟩) (by assumption) ?_; (try simp only [Act.put, List.setIfInBounds_toArray, List.set_cons_zero, List.set_cons_succ])
    refine take_at (i := 5) (oi := _) (dst := some 25) (v := undef) rfl rfl (by kernel_rfl) (by kernel_rfl) (by kernel_rfl) (fun _ _ _ h => h) (Or.inr ⟨by rfl, rfl⟩) (by assumption) ?_; (try simp only [Act.put, List.setIfInBounds_toArray, List.set_cons_zero, List.set_cons_succ])
    refine take_at (i := 6) (oi := _) (dst := some 26) (v := undef) rfl rfl (by kernel_rfl) (by kernel_rfl) (by kernel_rfl) (fun _ _ _ h => h) (Or.inr ⟨by rfl, rfl⟩) (by assumption) ?_; (try simp only [Act.put, List.setIfInBounds_toArray, List.set_cons_zero, List.set_cons_succ])
    refine take_at (i := 7) (oi := _) (dst := some 27) (v := undef) rfl rfl (by kernel_rfl) (by kernel_rfl) (by kernel_rfl) (fun _ _ _ h => h) (Or.inr ⟨by rfl, rfl⟩) (by assumption) ?_; (try simp only [Act.put, List.setIfInBounds_toArray, List.set_cons_zero, List.set_cons_succ])
    refine take_at (i := 8) (oi := _) (dst := some 28) (v := undef) rfl rfl (by kernel_rfl) (by kernel_rfl) (by kernel_rfl) (fun _ _ _ h => h) (Or.inr ⟨by rfl, rfl⟩) (by assumption) ?_; (try simp only [Act.put, List.setIfInBounds_toArray, List.set_cons_zero, List.set_cons_succ])
    refine take_at (i := 9) (oi := _) (dst := some 29) (v := undef) rfl rfl (by kernel_rfl) (by kernel_rfl) (by kernel_rfl) (fun _ _ _ h => h) (Or.inr ⟨by rfl, rfl⟩) (by assumption) ?_; (try simp only [Act.put, List.setIfInBounds_toArray, List.set_cons_zero, List.set_cons_succ])
    refine take_at (i := 10) (oi := _) (dst := some 30) (v := undef) rfl rfl (by kernel_rfl) (by kernel_rfl) (by kernel_rfl) (fun _ _ _ h => h) (Or.inr ⟨by rfl, rfl⟩) (by assumption) ?_; (try simp only [Act.put, List.setIfInBounds_toArray, List.set_cons_zero, List.set_cons_succ])
    refine take_at (i := 11) (oi := _) (dst := some 31) (v := undef) rfl rfl (by kernel_rfl) (by kernel_rfl) (by kernel_rfl) (fun _ _ _ h => h) (Or.inr ⟨by rfl, rfl⟩) (by assumption) ?_; (try simp only [Act.put, List.setIfInBounds_toArray, List.set_cons_zero, List.set_cons_succ])
    refine take_at (i := 12) (oi := _) (dst := some 32) (v := undef) rfl rfl (by kernel_rfl) (by kernel_rfl) (by kernel_rfl) (fun _ _ _ h => h) (Or.inr ⟨by rfl, rfl⟩) (by assumption) ?_; (try simp only [Act.put, List.setIfInBounds_toArray, List.set_cons_zero, List.set_cons_succ])
    refine take_at (i := 13) (oi := _) (dst := some 33) (v := undef) rfl rfl (by kernel_rfl) (by kernel_rfl) (by kernel_rfl) (fun _ _ _ h => h) (Or.inr ⟨by rfl, rfl⟩) (by assumption) ?_; (try simp only [Act.put, List.setIfInBounds_toArray, List.set_cons_zero, List.set_cons_succ])
    refine take_at (i := 14) (oi := _) (dst := some 34) (v := undef) rfl rfl (by kernel_rfl) (by kernel_rfl) (by kernel_rfl) (fun _ _ _ h => h) (Or.inr ⟨by rfl, rfl⟩) (by assumption) ?_; (try simp only [Act.put, List.setIfInBounds_toArray, List.set_cons_zero, List.set_cons_succ])
    refine take_at (i := 15) (oi := _) (dst := some 35) (v := undef) rfl rfl (by kernel_rfl) (by kernel_rfl) (by kernel_rfl) (fun _ _ _ h => h) (Or.inr ⟨by rfl, rfl⟩) (by assumption) ?_; (try simp only [Act.put, List.setIfInBounds_toArray, List.set_cons_zero, List.set_cons_succ])
    refine take_at (i := 16) (oi := _) (dst := some 36) (v := ?_) rfl rfl (by kernel_rfl) (by kernel_rfl) (by kernel_rfl) (fun _ _ _ h => h) (Or.inl ⟨by rfl, by intro w hSw; (try dsimp only at hSw); go_simp; (try with_reducible rfl)⟩) (by assumption) ?_; (try simp only [Act.put, List.setIfInBounds_toArray, List.set_cons_zero, List.set_cons_succ])
    refine wpAnyH_done (by kernel_rfl) ?_ _
    have k8 := k8.drew
    have k9 := k9.drew
    have c11 := k11.drew.cell
    have hb3 := hb3.drew
    clear hS
    have hl8 := k8.lt
    have hl9 := k9.lt
    go_wp2_with (with_reducible refine stop_store ?_)
    refine hide (wpList_store_blk rfl 60 (.tmp 8) (.tmp 39) rfl w.heap.size [.int .i64 0, .int .i64 0] rfl rfl _ k8 rfl (by kernel_rfl) rfl ?_)
    intro wf k8 hgf hzf
    have k9 := blk_grown k9 hgf (by omega)
    have hbf := below_grown hb3 hgf (Nat.le_refl _) (by omega)
    go_wp2_with (with_reducible refine stop_store ?_)
    refine hide (wpList_store_blk rfl 29 (.tmp 9) (.tmp 40) rfl (w.heap.size + 1) [.int .i64 0, .int .i64 0, .int .i64 0, .slice none 0 0] rfl rfl _ k9 rfl (by kernel_rfl) rfl ?_)
    intro wg k9 hgg hzg
    have k8 := blk_grown k8 hgg (by omega)
    go_wp2
    refine bodyPost_ret (v := .tuple #[.agg #[.int .i64 0, .int .i64 0], .agg #[.int .i64 0, .int .i64 0, .int .i64 0, .slice none 0 0], .int .i64 31]) ?_ rfl ⟨below_grown hbf hgg (by omega) (by omega), .inl ⟨HNO.out, rfl⟩⟩
    simp [results, Try.results25, go_sem, k8.cell, k9.cell]
  have HOK := Lib.hid hok
  have s1 : Small a := ⟨by have := hok.1.1; omega, by have := hok.1.2; omega⟩
  have s2 : Small b := ⟨by have := hok.2.1.1; omega, by have := hok.2.1.2; omega⟩
  have HS1 := Lib.hid s1
  have HS2 := Lib.hid s2
  clear hok s1 s2
  go_wp2_with fail
  refine name_world (fun w3 hw3 => ?_)
  have hb3 : Below w.heap.size w w3 := by rw [hw3]; exact hb2.alloc hb2.size _
  have k8 : Blk w3 w.heap.size [.int .i64 0, .int .i64 0] := by rw [hw3]; exact k8.alloc _
  have k9 : Blk w3 (w.heap.size + 1) [.int .i64 0, .int .i64 0, .int .i64 0, .slice none 0 0] := by rw [hw3]; exact k9.alloc _
  have k11 : Blk w3 w2.heap.size [.int .i64 a, .int .i64 b] := by rw [hw3]; exact Blk.new _ _ _ _ rfl
  have hz3 : w3.heap.size = w2.heap.size + 1 := by rw [hw3]; simp
  clear hw3
  by_cases hk : k < 0
  · have HK := Lib.hid hk
    refine wp_region_held_drew (S := fun W => W = w3.drew) (by kernel_rfl) rfl (fun hS => ?_)
    simp only [List.size_toArray, List.length_cons, List.length_nil]
    refine take_at (i := 0) (oi := _) (dst := some 20) (v := ?_) rfl rfl (by kernel_rfl) (by kernel_rfl) (by kernel_rfl) (fun _ _ _ h => h) (Or.inl ⟨by rfl, by intro w hSw; (try dsimp only at hSw); go_simp; (try with_reducible rfl)⟩) (by assumption) ?_; (try simp only [Act.put, List.setIfInBounds_toArray, List.set_cons_zero, List.set_cons_succ])
    refine take_at (i := 1) (oi := _) (dst := some 21) (v := ?_) rfl rfl (by kernel_rfl) (by kernel_rfl) (by kernel_rfl) (fun _ _ _ h => h) (Or.inl ⟨by rfl, by intro w hSw; (try dsimp only at hSw); go_simp; (try with_reducible rfl)⟩) (by assumption) ?_; (try simp only [Act.put, List.setIfInBounds_toArray, List.set_cons_zero, List.set_cons_succ])
    refine take_at (i := 2) (oi := _) (dst := some 22) (v := ?_) rfl rfl (by kernel_rfl) (by kernel_rfl) (by kernel_rfl) (fun _ _ _ h => h) (Or.inl ⟨by rfl, by intro w hSw; (try dsimp only at hSw); go_simp; (try with_reducible rfl)⟩) (by assumption) ?_; (try simp only [Act.put, List.setIfInBounds_toArray, List.set_cons_zero, List.set_cons_succ])
    refine take_at (i := 3) (oi := _) (dst := some 23) (v := ?_) rfl rfl (by kernel_rfl) (by kernel_rfl) (by kernel_rfl) (fun _ _ _ h => h) (Or.inl ⟨by rfl, by intro w hSw; (try dsimp only at hSw); go_simp; (try with_reducible rfl)⟩) (by assumption) ?_; (try simp only [Act.put, List.setIfInBounds_toArray, List.set_cons_zero, List.set_cons_succ])
    refine take_at (i := 4) (oi := _) (dst := some 24) (v := ?_) rfl rfl (by kernel_rfl) (by kernel_rfl) (by kernel_rfl) (fun _ _ _ h => h) (Or.inl ⟨by rfl, by intro w hSw; (try dsimp only at hSw); go_simp; (try with_reducible rfl)⟩) (by assumption) ?_; (try simp only [Act.put, List.setIfInBounds_toArray, List.set_cons_zero, List.set_cons_succ])
    refine take_at (i := 5) (oi := _) (dst := some 25) (v := ?_) rfl rfl (by kernel_rfl) (by kernel_rfl) (by kernel_rfl) (fun _ _ _ h => h) (Or.inl ⟨by rfl, by intro w hSw; (try dsimp only at hSw); go_simp; (try with_reducible rfl)⟩) (by assumption) ?_; (try simp only [Act.put, List.setIfInBounds_toArray, List.set_cons_zero, List.set_cons_succ])
    refine take_at (i := 6) (oi := _) (dst := some 26) (v := undef) rfl rfl (by kernel_rfl) (by kernel_rfl) (by kernel_rfl) (fun _ _ _ h => h) (Or.inr ⟨by rfl, rfl⟩) (by assumption) ?_; (try simp only [Act.put, List.setIfInBounds_toArray, List.set_cons_zero, List.set_cons_succ])
    refine take_at (i := 7) (oi := _) (dst := some 27) (v := undef) rfl rfl (by kernel_rfl) (by kernel_rfl) (by kernel_rfl) (fun _ _ _ h => h) (Or.inr ⟨by rfl, rfl⟩) (by assumption) ?_; (try simp only [Act.put, List.setIfInBounds_toArray, List.set_cons_zero, List.set_cons_succ])
    refine take_at (i := 8) (oi := _) (dst := some 28) (v := undef) rfl rfl (by kernel_rfl) (by kernel_rfl) (by kernel_rfl) (fun _ _ _ h => h) (Or.inr ⟨by rfl, rfl⟩) (by assumption) ?_; (try simp only [Act.put, List.setIfInBounds_toArray, List.set_cons_zero, List.set_cons_succ])
    refine take_at (i := 9) (oi := _) (dst := some 29) (v := undef) rfl rfl (by kernel_rfl) (by kernel_rfl) (by kernel_rfl) (fun _ _ _ h => h) (Or.inr ⟨by rfl, rfl⟩) (by assumption) ?_; (try simp only [Act.put, List.setIfInBounds_toArray, List.set_cons_zero, List.set_cons_succ])
    refine take_at (i := 10) (oi := _) (dst := some 30) (v := undef) rfl rfl (by kernel_rfl) (by kernel_rfl) (by kernel_rfl) (fun _ _ _ h => h) (Or.inr ⟨by rfl, rfl⟩) (by assumption) ?_; (try simp only [Act.put, List.setIfInBounds_toArray, List.set_cons_zero, List.set_cons_succ])
    refine take_at (i := 11) (oi := _) (dst := some 31) (v := undef) rfl rfl (by kernel_rfl) (by kernel_rfl) (by kernel_rfl) (fun _ _ _ h => h) (Or.inr ⟨by rfl, rfl⟩) (by assumption) ?_; (try simp only [Act.put, List.setIfInBounds_toArray, List.set_cons_zero, List.set_cons_succ])
    refine take_at (i := 12) (oi := _) (dst := some 32) (v := undef) rfl rfl (by kernel_rfl) (by kernel_rfl) (by kernel_rfl) (fun _ _ _ h => h) (Or.inr ⟨by rfl, rfl⟩) (by assumption) ?_; (try simp only [Act.put, List.setIfInBounds_toArray, List.set_cons_zero, List.set_cons_succ])
    refine take_at (i := 13) (oi := _) (dst := some 33) (v := undef) rfl rfl (by kernel_rfl) (by kernel_rfl) (by kernel_rfl) (fun _ _ _ h => h) (Or.inr ⟨by rfl, rfl⟩) (by assumption) ?_; (try simp only [Act.put, List.setIfInBounds_toArray, List.set_cons_zero, List.set_cons_succ])
    refine take_at (i := 14) (oi := _) (dst := some 34) (v := undef) rfl rfl (by kernel_rfl) (by kernel_rfl) (by kernel_rfl) (fun _ _ _ h => h) (Or.inr ⟨by rfl, rfl⟩) (by assumption) ?_; (try simp only [Act.put, List.setIfInBounds_toArray, List.set_cons_zero, List.set_cons_succ])
    refine take_at (i := 15) (oi := _) (dst := some 35) (v := ?_) rfl rfl (by kernel_rfl) (by kernel_rfl) (by kernel_rfl) (fun _ _ _ h => h) (Or.inl ⟨by rfl, by intro w hSw; (try dsimp only at hSw); go_simp; (try with_reducible rfl)⟩) (by assumption) ?_; (try simp only [Act.put, List.setIfInBounds_toArray, List.set_cons_zero, List.set_cons_succ])
    refine take_at (i := 16) (oi := _) (dst := some 36) (v := ?_) rfl rfl (by kernel_rfl) (by kernel_rfl) (by kernel_rfl) (fun _ _ _ h => h) (Or.inl ⟨by rfl, by intro w hSw; (try dsimp only at hSw); go_simp; (try with_reducible rfl)⟩) (by assumption) ?_; (try simp only [Act.put, List.setIfInBounds_toArray, List.set_cons_zero, List.set_cons_succ])
    refine wpAnyH_done (by kernel_rfl) ?_ _
    have k8 := k8.drew
    have k9 := k9.drew
    have c11 := k11.drew.cell
    have hb3 := hb3.drew
    clear hS
    have hl8 := k8.lt
    have hl9 := k9.lt
    go_wp2_with (with_reducible refine stop_store ?_)
    refine hide (wpList_store_blk rfl 60 (.tmp 8) (.tmp 39) rfl w.heap.size [.int .i64 a, .int .i64 b] rfl rfl _ k8 rfl (by kernel_rfl) rfl ?_)
    intro wf k8 hgf hzf
    have k9 := blk_grown k9 hgf (by omega)
    have hbf := below_grown hb3 hgf (Nat.le_refl _) (by omega)
    go_wp2_with (with_reducible refine stop_store ?_)
    refine hide (wpList_store_blk rfl 29 (.tmp 9) (.tmp 40) rfl (w.heap.size + 1) [.int .i64 0, .int .i64 0, .int .i64 0, .slice none 0 0] rfl rfl _ k9 rfl (by kernel_rfl) rfl ?_)
    intro wg k9 hgg hzg
    have k8 := blk_grown k8 hgg (by omega)
    go_wp2
    refine bodyPost_ret (v := .tuple #[.agg #[.int .i64 a, .int .i64 b], .agg #[.int .i64 0, .int .i64 0, .int .i64 0, .slice none 0 0], .int .i64 33]) ?_ rfl ⟨below_grown hbf hgg (by omega) (by omega), .inr (.inl ⟨HOK.out, .inl HK.out, rfl⟩)⟩
    simp [results, Try.results25, go_sem, k8.cell, k9.cell]
  obtain ⟨bm, am, kg, _, _, _, ⟨sl, hBM, _, hown, _⟩, _⟩ := H.out
  have HOWN := Lib.hid (hown a b HS1.out HS2.out)
  obtain ⟨A, c, hsl⟩ := HOWN.out.slice
  obtain ⟨n, hnn⟩ : ∃ n, n = (f a b).length := ⟨_, rfl⟩
  rw [← hnn] at hsl hlen
  rw [hsl] at HOWN
  have HNN := Lib.hid hnn
  have HLK := Lib.hid (show ∀ W, Below w.heap.size w W → (Instr.lookup 55 (.map (some bm)) (.agg #[.int .i64 a, .int .i64 b]) false).run Try.prog W = .ok (.slice A n c) W from fun W hb => by
    have := bag_lookup (hBM.kept (row := none) (w' := W) ⟨hb.os, hb.tape, hb.output, hb.size, fun k hk _ => hb.block k hk⟩ (by simp)) HS1.out HS2.out
    rw [hsl] at this
    exact this)
  have HG := Lib.hid (show ∀ W, Below w.heap.size w W → W.cell? ⟨g, 1, none⟩ = some (.map (some bm)) from fun W hb => (kg.below hb).blk.cell 1)
  clear hown hsl hnn hBM kg
  have hlk := HLK.out w3.drew hb3.drew
  have cg := HG.out w3.drew hb3.drew
  have c11 := k11.drew.cell
  have hk0 : 0 ≤ k := by omega
  refine wp_region_held_drew (S := fun W => W = w3.drew) (by kernel_rfl) rfl (fun hS => ?_)
  simp only [List.size_toArray, List.length_cons, List.length_nil]
  refine take_at (i := 0) (oi := _) (dst := some 20) (v := ?_) rfl rfl (by kernel_rfl) (by kernel_rfl) (by kernel_rfl) (fun _ _ _ h => h) (Or.inl ⟨by rfl, by intro w hSw; (try dsimp only at hSw); go_simp; (try with_reducible rfl)⟩) (by assumption) ?_; (try simp only [Act.put, List.setIfInBounds_toArray, List.set_cons_zero, List.set_cons_succ])
  refine take_at (i := 1) (oi := _) (dst := some 21) (v := ?_) rfl rfl (by kernel_rfl) (by kernel_rfl) (by kernel_rfl) (fun _ _ _ h => h) (Or.inl ⟨by rfl, by intro w hSw; (try dsimp only at hSw); go_simp; (try with_reducible rfl)⟩) (by assumption) ?_; (try simp only [Act.put, List.setIfInBounds_toArray, List.set_cons_zero, List.set_cons_succ])
  refine take_at (i := 2) (oi := _) (dst := some 22) (v := ?_) rfl rfl (by kernel_rfl) (by kernel_rfl) (by kernel_rfl) (fun _ _ _ h => h) (Or.inl ⟨by rfl, by intro w hSw; (try dsimp only at hSw); go_simp; (try with_reducible rfl)⟩) (by assumption) ?_; (try simp only [Act.put, List.setIfInBounds_toArray, List.set_cons_zero, List.set_cons_succ])
  refine take_at (i := 3) (oi := _) (dst := some 23) (v := ?_) rfl rfl (by kernel_rfl) (by kernel_rfl) (by kernel_rfl) (fun _ _ _ h => h) (Or.inl ⟨by rfl, by intro w hSw; (try dsimp only at hSw); go_simp; (try with_reducible rfl)⟩) (by assumption) ?_; (try simp only [Act.put, List.setIfInBounds_toArray, List.set_cons_zero, List.set_cons_succ])
  refine take_at (i := 4) (oi := _) (dst := some 24) (v := ?_) rfl rfl (by kernel_rfl) (by kernel_rfl) (by kernel_rfl) (fun _ _ _ h => h) (Or.inl ⟨by rfl, by intro w hSw; (try dsimp only at hSw); go_simp; (try with_reducible rfl)⟩) (by assumption) ?_; (try simp only [Act.put, List.setIfInBounds_toArray, List.set_cons_zero, List.set_cons_succ])
  refine take_at (i := 5) (oi := _) (dst := some 25) (v := ?_) rfl rfl (by kernel_rfl) (by kernel_rfl) (by kernel_rfl) (fun _ _ _ h => h) (Or.inl ⟨by rfl, by intro w hSw; (try dsimp only at hSw); go_simp; (try with_reducible rfl)⟩) (by assumption) ?_; (try simp only [Act.put, List.setIfInBounds_toArray, List.set_cons_zero, List.set_cons_succ])
  refine take_at (i := 6) (oi := _) (dst := some 26) (v := ?_) rfl rfl (by kernel_rfl) (by kernel_rfl) (by kernel_rfl) (fun _ _ _ h => h) (Or.inl ⟨by rfl, by intro w hSw; (try dsimp only at hSw); go_simp; (try with_reducible rfl)⟩) (by assumption) ?_; (try simp only [Act.put, List.setIfInBounds_toArray, List.set_cons_zero, List.set_cons_succ])
  refine take_at (i := 7) (oi := _) (dst := some 27) (v := ?_) rfl rfl (by kernel_rfl) (by kernel_rfl) (by kernel_rfl) (fun _ _ _ h => h) (Or.inl ⟨by rfl, by intro w hSw; (try dsimp only at hSw); go_simp; (try with_reducible rfl)⟩) (by assumption) ?_; (try simp only [Act.put, List.setIfInBounds_toArray, List.set_cons_zero, List.set_cons_succ])
  refine take_at (i := 8) (oi := _) (dst := some 28) (v := ?_) rfl rfl (by kernel_rfl) (by kernel_rfl) (by kernel_rfl) (fun _ _ _ h => h) (Or.inl ⟨by rfl, by intro w hSw; (try dsimp only at hSw); go_simp; (try with_reducible rfl)⟩) (by assumption) ?_; (try simp only [Act.put, List.setIfInBounds_toArray, List.set_cons_zero, List.set_cons_succ])
  refine take_at (i := 9) (oi := _) (dst := some 29) (v := ?_) rfl rfl (by kernel_rfl) (by kernel_rfl) (by kernel_rfl) (fun _ _ _ h => h) (Or.inl ⟨by rfl, by intro w hSw; (try dsimp only at hSw); go_simp; (try with_reducible rfl)⟩) (by assumption) ?_; (try simp only [Act.put, List.setIfInBounds_toArray, List.set_cons_zero, List.set_cons_succ])
  refine take_at (i := 10) (oi := _) (dst := some 30) (v := ?_) rfl rfl (by kernel_rfl) (by kernel_rfl) (by kernel_rfl) (fun _ _ _ h => h) (Or.inl ⟨by rfl, by intro w hSw; (try dsimp only at hSw); go_simp; (try with_reducible rfl)⟩) (by assumption) ?_; (try simp only [Act.put, List.setIfInBounds_toArray, List.set_cons_zero, List.set_cons_succ])
  refine take_at (i := 11) (oi := _) (dst := some 31) (v := ?_) rfl rfl (by kernel_rfl) (by kernel_rfl) (by kernel_rfl) (fun _ _ _ h => h) (Or.inl ⟨by rfl, by intro w hSw; (try dsimp only at hSw); go_simp; (try with_reducible rfl)⟩) (by assumption) ?_; (try simp only [Act.put, List.setIfInBounds_toArray, List.set_cons_zero, List.set_cons_succ])
  refine take_at (i := 12) (oi := _) (dst := some 32) (v := ?_) rfl rfl (by kernel_rfl) (by kernel_rfl) (by kernel_rfl) (fun _ _ _ h => h) (Or.inl ⟨by rfl, by intro w hSw; (try dsimp only at hSw); go_simp; (try with_reducible rfl)⟩) (by assumption) ?_; (try simp only [Act.put, List.setIfInBounds_toArray, List.set_cons_zero, List.set_cons_succ])
  refine take_at (i := 13) (oi := _) (dst := some 33) (v := ?_) rfl rfl (by kernel_rfl) (by kernel_rfl) (by kernel_rfl) (fun _ _ _ h => h) (Or.inl ⟨by rfl, by intro w hSw; (try dsimp only at hSw); go_simp; (try with_reducible rfl)⟩) (by assumption) ?_; (try simp only [Act.put, List.setIfInBounds_toArray, List.set_cons_zero, List.set_cons_succ])
  refine take_at (i := 14) (oi := _) (dst := some 34) (v := ?_) rfl rfl (by kernel_rfl) (by kernel_rfl) (by kernel_rfl) (fun _ _ _ h => h) (Or.inl ⟨by rfl, by intro w hSw; (try dsimp only at hSw); go_simp; (try with_reducible rfl)⟩) (by assumption) ?_; (try simp only [Act.put, List.setIfInBounds_toArray, List.set_cons_zero, List.set_cons_succ])
  refine take_at (i := 15) (oi := _) (dst := some 35) (v := ?_) rfl rfl (by kernel_rfl) (by kernel_rfl) (by kernel_rfl) (fun _ _ _ h => h) (Or.inl ⟨by rfl, by intro w hSw; (try dsimp only at hSw); go_simp; (try with_reducible rfl)⟩) (by assumption) ?_; (try simp only [Act.put, List.setIfInBounds_toArray, List.set_cons_zero, List.set_cons_succ])
  refine take_at (i := 16) (oi := _) (dst := some 36) (v := ?_) rfl rfl (by kernel_rfl) (by kernel_rfl) (by kernel_rfl) (fun _ _ _ h => h) (Or.inl ⟨by rfl, by intro w hSw; (try dsimp only at hSw); go_simp; (try with_reducible rfl)⟩) (by assumption) ?_; (try simp only [Act.put, List.setIfInBounds_toArray, List.set_cons_zero, List.set_cons_succ])
  refine wpAnyH_done (by kernel_rfl) ?_ _
  have k8 := k8.drew
  have k9 := k9.drew
  have k11 := k11.drew
  have hb3 := hb3.drew
  clear hS hlk cg
  by_cases hge : (n : Int) ≤ k
  · have HGE := Lib.hid hge
    have hl8 := k8.lt
    have hl9 := k9.lt
    go_wp2_with (with_reducible refine stop_store ?_)
    refine hide (wpList_store_blk rfl 60 (.tmp 8) (.tmp 39) rfl w.heap.size [.int .i64 a, .int .i64 b] rfl rfl _ k8 rfl (by kernel_rfl) rfl ?_)
    intro wf k8 hgf hzf
    have k9 := blk_grown k9 hgf (by omega)
    have hbf := below_grown hb3 hgf (Nat.le_refl _) (by omega)
    go_wp2_with (with_reducible refine stop_store ?_)
    refine hide (wpList_store_blk rfl 29 (.tmp 9) (.tmp 40) rfl (w.heap.size + 1) [.int .i64 0, .int .i64 0, .int .i64 0, .slice none 0 0] rfl rfl _ k9 rfl (by kernel_rfl) rfl ?_)
    intro wg k9 hgg hzg
    have k8 := blk_grown k8 hgg (by omega)
    go_wp2
    refine bodyPost_ret (v := .tuple #[.agg #[.int .i64 a, .int .i64 b], .agg #[.int .i64 0, .int .i64 0, .int .i64 0, .slice none 0 0], .int .i64 33]) ?_ rfl ⟨below_grown hbf hgg (by omega) (by omega), .inr (.inl ⟨HOK.out, .inr (by rw [← HNN.out]; exact HGE.out), rfl⟩)⟩
    simp [results, Try.results25, go_sem, k8.cell, k9.cell]
  have hlt : k < (n : Int) := by omega
  obtain ⟨m, rfl⟩ : ∃ m : Nat, k = m := ⟨k.toNat, by omega⟩
  have hmn : m < (f a b).length := by rw [← HNN.out]; omega
  cases A with
  | none =>
    obtain ⟨zs, h1, h2, _⟩ := HOWN.out
    rcases h2.2 with ⟨_, h0⟩ | ⟨gg, cap, cur, hv, _⟩
    · rw [← h1, List.length_map] at hmn
      omega
    · cases hv
  | some ad =>
  obtain ⟨x, D, dc, hx, hrd, p0, p1, p2, p3⟩ := HOWN.out.at hmn
  have HX := Lib.hid hx
  have HRD := Lib.hid hrd
  have MK := Lib.hid (show ∀ W, Below w.heap.size w W → Blk W w2.heap.size [.int .i64 a, .int .i64 b] → W.cell? ⟨g, 1, none⟩ = some (.map (some bm)) ∧ (Instr.lookup 55 (.map (some bm)) (.agg #[.int .i64 a, .int .i64 b]) false).run Try.prog W = .ok (.slice (some ad) n c) W ∧
      (∀ r, W.cell? ⟨w2.heap.size, r, none⟩ = ([.int .i64 a, .int .i64 b] : List Value)[r]?) ∧ W.cell? (ad.add (m * 4)) = some (.int .i64 x.1) ∧ W.cell? ⟨(ad.add (m * 4)).block, (ad.add (m * 4)).off + 1, none⟩ = some (.int .i64 x.2.1) ∧ W.cell? ⟨(ad.add (m * 4)).block, (ad.add (m * 4)).off + 2, none⟩ = some (.int .i64 x.2.2.1) ∧ W.cell? ⟨(ad.add (m * 4)).block, (ad.add (m * 4)).off + 3, none⟩ = some (.slice D x.2.2.2.length dc) from
    fun W hb hk => ⟨HG.out W hb, HLK.out W hb, hk.cell, kc_below hb p0, kc_below hb p1, kc_below hb p2, kc_below hb p3⟩)
  clear hx hrd p0 p1 p2 p3
  have hl8 := k8.lt
  have hl9 := k9.lt
  go_wp2_with fail
  refine name_world (fun w4 hw4 => ?_)
  rw [← hw4] at k8 k9 k11 hb3 hl8 hl9
  clear hw4 c11
  refine wp_region_held_drew (S := fun W => W.cell? ⟨g, 1, none⟩ = some (.map (some bm)) ∧ (Instr.lookup 55 (.map (some bm)) (.agg #[.int .i64 a, .int .i64 b]) false).run Try.prog W = .ok (.slice (some ad) n c) W ∧
      (∀ r, W.cell? ⟨w2.heap.size, r, none⟩ = ([.int .i64 a, .int .i64 b] : List Value)[r]?) ∧ W.cell? (ad.add (m * 4)) = some (.int .i64 x.1) ∧ W.cell? ⟨(ad.add (m * 4)).block, (ad.add (m * 4)).off + 1, none⟩ = some (.int .i64 x.2.1) ∧ W.cell? ⟨(ad.add (m * 4)).block, (ad.add (m * 4)).off + 2, none⟩ = some (.int .i64 x.2.2.1) ∧ W.cell? ⟨(ad.add (m * 4)).block, (ad.add (m * 4)).off + 3, none⟩ = some (.slice D x.2.2.2.length dc)) (by kernel_rfl) (MK.out _ hb3.drew k11.drew) (fun hS => ?_)
  simp only [List.size_toArray, List.length_cons, List.length_nil]
  refine take_at (i := 0) (oi := _) (dst := some 42) (v := ?_) rfl rfl (by kernel_rfl) (by kernel_rfl) (by kernel_rfl) (fun _ _ _ h => h) (Or.inl ⟨by rfl, by intro w hSw; (try dsimp only at hSw); go_simp; (try with_reducible rfl)⟩) (by assumption) ?_; (try simp only [Act.put, List.setIfInBounds_toArray, List.set_cons_zero, List.set_cons_succ])
  refine take_at (i := 1) (oi := _) (dst := some 43) (v := ?_) rfl rfl (by kernel_rfl) (by kernel_rfl) (by kernel_rfl) (fun _ _ _ h => h) (Or.inl ⟨by rfl, by intro w hSw; (try dsimp only at hSw); go_simp; (try with_reducible rfl)⟩) (by assumption) ?_; (try simp only [Act.put, List.setIfInBounds_toArray, List.set_cons_zero, List.set_cons_succ])
  refine take_at (i := 2) (oi := _) (dst := some 44) (v := ?_) rfl rfl (by kernel_rfl) (by kernel_rfl) (by kernel_rfl) (fun _ _ _ h => h) (Or.inl ⟨by rfl, by intro w hSw; (try dsimp only at hSw); go_simp; (try with_reducible rfl)⟩) (by assumption) ?_; (try simp only [Act.put, List.setIfInBounds_toArray, List.set_cons_zero, List.set_cons_succ])
  refine take_at (i := 3) (oi := _) (dst := some 45) (v := ?_) rfl rfl (by kernel_rfl) (by kernel_rfl) (by kernel_rfl) (fun _ _ _ h => h) (Or.inl ⟨by rfl, by intro w hSw; (try dsimp only at hSw); go_simp; (try with_reducible rfl)⟩) (by assumption) ?_; (try simp only [Act.put, List.setIfInBounds_toArray, List.set_cons_zero, List.set_cons_succ])
  refine take_at (i := 4) (oi := _) (dst := some 46) (v := ?_) rfl rfl (by kernel_rfl) (by kernel_rfl) (by kernel_rfl) (fun _ _ _ h => h) (Or.inl ⟨by rfl, by intro w hSw; (try dsimp only at hSw); go_simp; (try with_reducible rfl)⟩) (by assumption) ?_; (try simp only [Act.put, List.setIfInBounds_toArray, List.set_cons_zero, List.set_cons_succ])
  refine take_at (i := 5) (oi := _) (dst := some 47) (v := ?_) rfl rfl (by kernel_rfl) (by kernel_rfl) (by kernel_rfl) (fun _ _ _ h => h) (Or.inl ⟨by rfl, by intro w hSw; (try dsimp only at hSw); go_simp; (try with_reducible rfl)⟩) (by assumption) ?_; (try simp only [Act.put, List.setIfInBounds_toArray, List.set_cons_zero, List.set_cons_succ])
  refine take_at (i := 6) (oi := _) (dst := some 48) (v := ?_) rfl rfl (by kernel_rfl) (by kernel_rfl) (by kernel_rfl) (fun _ _ _ h => h) (Or.inl ⟨by rfl, by intro w hSw; (try dsimp only at hSw); go_simp; (try with_reducible rfl)⟩) (by assumption) ?_; (try simp only [Act.put, List.setIfInBounds_toArray, List.set_cons_zero, List.set_cons_succ])
  refine take_at (i := 7) (oi := _) (dst := some 49) (v := ?_) rfl rfl (by kernel_rfl) (by kernel_rfl) (by kernel_rfl) (fun _ _ _ h => h) (Or.inl ⟨by rfl, by intro w hSw; (try dsimp only at hSw); go_simp; (try with_reducible rfl)⟩) (by assumption) ?_; (try simp only [Act.put, List.setIfInBounds_toArray, List.set_cons_zero, List.set_cons_succ])
  refine take_at (i := 8) (oi := _) (dst := some 50) (v := ?_) rfl rfl (by kernel_rfl) (by kernel_rfl) (by kernel_rfl) (fun _ _ _ h => h) (Or.inl ⟨by rfl, by intro w hSw; (try dsimp only at hSw); go_simp; (try with_reducible rfl)⟩) (by assumption) ?_; (try simp only [Act.put, List.setIfInBounds_toArray, List.set_cons_zero, List.set_cons_succ])
  refine take_at (i := 9) (oi := _) (dst := some 51) (v := ?_) rfl rfl (by kernel_rfl) (by kernel_rfl) (by kernel_rfl) (fun _ _ _ h => h) (Or.inl ⟨by rfl, by intro w hSw; (try dsimp only at hSw); go_simp; (try with_reducible rfl)⟩) (by assumption) ?_; (try simp only [Act.put, List.setIfInBounds_toArray, List.set_cons_zero, List.set_cons_succ])
  refine wpAnyH_ready (rs := [10]) (by kernel_rfl) (by simp) ?_; refine AllReadyH.cons (o := _) rfl (fun K hK => ?_) AllReadyH.nil
  refine step_store_part rfl rfl 60 (.tmp 8) (.tmp 42) rfl w.heap.size 0 _ [.int .i64 a, .int .i64 b] rfl rfl rfl _ k8.drew (by simp) (by kernel_rfl) rfl _ rfl ?_
  intro w5 k8' hg5 hz5
  have k9 := blk_grown k9.drew hg5 (by omega)
  have k11 := blk_grown k11.drew hg5 (by omega)
  have hb5 := below_grown hb3.drew hg5 (Nat.le_refl _) (by simp only [heap_drew]; omega)
  refine hK.out _ _ (MK.out w5 hb5 k11) (fun hS5 => ?_)
  clear hK
  simp only [Act.put, List.setIfInBounds_toArray, List.set_cons_zero, List.set_cons_succ]
  refine wpAnyH_ready (rs := [11]) (by kernel_rfl) (by simp) ?_; refine AllReadyH.cons (o := _) rfl (fun K hK => ?_) AllReadyH.nil
  refine step_store_part rfl rfl 29 (.tmp 9) (.tmp 51) rfl (w.heap.size + 1) 0 _ [.int .i64 x.1, .int .i64 x.2.1, .int .i64 x.2.2.1, .slice D x.2.2.2.length dc] rfl rfl rfl _ k9 (by simp) (by kernel_rfl) rfl _ rfl ?_
  intro w6 k9' hg6 hz6
  have k8'' := blk_grown k8' hg6 (by omega)
  have k11 := blk_grown k11 hg6 (by omega)
  have hb6 := below_grown hb5 hg6 (by omega) k9.lt
  refine hK.out _ _ (MK.out w6 hb6 k11) (fun hS6 => ?_)
  clear hK
  simp only [Act.put, List.setIfInBounds_toArray, List.set_cons_zero, List.set_cons_succ]
  refine take_at (i := 12) (oi := _) (dst := some 10) (v := ?_) rfl rfl (by kernel_rfl) (by kernel_rfl) (by kernel_rfl) (fun _ _ _ h => h) (Or.inl ⟨by rfl, by intro w hSw; (try dsimp only at hSw); go_simp; (try with_reducible rfl)⟩) (by assumption) ?_; (try simp only [Act.put, List.setIfInBounds_toArray, List.set_cons_zero, List.set_cons_succ])
  refine wpAnyH_done (by kernel_rfl) ?_ _
  clear hS hS5 hS6
  simp only [List.take_succ_cons, List.take_zero, List.drop_succ_cons, List.drop_zero, List.cons_append, List.nil_append, List.length_cons, List.length_nil] at k8'' k9'
  go_wp2
  refine bodyPost_ret (v := .tuple #[.agg #[.int .i64 a, .int .i64 b], .agg #[.int .i64 x.1, .int .i64 x.2.1, .int .i64 x.2.2.1, .slice D x.2.2.2.length dc], .int .i64 0]) ?_ rfl ⟨hb6, .inr (.inr ⟨HOK.out, m, x, D, dc, rfl, HX.out, HRD.out.grown (Spared.of_below hb6), rfl⟩)⟩
  simp [results, Try.results25, go_sem, k8''.cell, k9'.cell]
end Go.Proofs.Ytjihiohmemmabaa

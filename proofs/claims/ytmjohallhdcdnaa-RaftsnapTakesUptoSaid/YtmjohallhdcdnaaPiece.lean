/- Contracts of Pieces, Piece and the document's. -/
import Derived.Test.YtmjohallhdcdnaaSame
import Derived.Test.YtmjohallhdcdnaaPhase
namespace Go.Proofs.Ytmjohallhdcdnaa
open Go.RowKit Go.Gz
attribute [local go_sem] World.cell?_alloc_some frozen?_alloc_some

/-- How many pieces. -/
def pieces (n : Int) : Int := if n < 1 then 1 else 1 + (n - 1) / 64
theorem pieces_prog (n : Int) (w : World) (h : -9223372036854775808 ≤ n) (h2 : n ≤ 9223372036854775807) : Calls Try.prog 13 #[.int .i64 n] w fun e w' => e = .returned (.int .i64 (pieces n)) ∧ w = w' := by
  by_cases hn : n < 1
  · have hp : pieces n = 1 := by simp [pieces, hn]
    have HP := hide hp
    clear hp
    go_enter Try.func13, Try.ntmps13
    go_wp2
    go_ret
    exact ⟨by rw [HP.out]; rfl, rfl⟩
  · have hp : pieces n = 1 + (n - 1) / 64 := by simp [pieces, hn]
    have HP := hide hp
    clear hp
    go_enter Try.func13, Try.ntmps13
    go_wp2
    go_ret
    exact ⟨by rw [HP.out]; rfl, rfl⟩
theorem pieces_ref (n : Int) (w : World) (h : -9223372036854775808 ≤ n) (h2 : n ≤ 9223372036854775807) : Calls Try.prog 14 #[.int .i64 n] w fun e w' => e = .returned (.int .i64 (pieces n)) ∧ w = w' := by
  by_cases hn : n < 1
  · have hp : pieces n = 1 := by simp [pieces, hn]
    have HP := hide hp
    clear hp
    go_enter Try.func14, Try.ntmps14
    go_wp2
    go_ret
    exact ⟨by rw [HP.out]; rfl, rfl⟩
  · have hp : pieces n = 1 + (n - 1) / 64 := by simp [pieces, hn]
    have HP := hide hp
    clear hp
    go_enter Try.func14, Try.ntmps14
    go_wp2
    go_ret
    exact ⟨by rw [HP.out, Int.add_comm]; rfl, rfl⟩

/-- A message as Piece makes it: its cells. -/
def msgCells (i t : Int) (k : Nat) (A B D : Option Addr) (n c m d q f : Nat) (done : Bool) : Array Value :=
  #[.int .i64 7, .int .i64 0, .int .i64 0, .int .u64 0, .int .u64 i, .int .u64 t, .slice none 0 0, .int .u64 0, .bool false, .int .u64 k, .slice A n c, .slice B m d, .slice D q f, .bool done]
def noMsg : Array Value :=
  #[.int .i64 0, .int .i64 0, .int .i64 0, .int .u64 0, .int .u64 0, .int .u64 0, .slice none 0 0, .int .u64 0, .bool false, .int .u64 0, .slice none 0 0, .slice none 0 0, .slice none 0 0, .bool false]

set_option maxHeartbeats 800000 in
theorem piece_err (i t : Int) (A B D : Option Addr) (n c m d p f k : Nat) (w : World) (hk : p < k) (hp : p ≤ 140737488355328) (hk2 : k < 18446744073709551616) :
    Calls Try.prog 9 #[.agg #[.int .u64 i, .int .u64 t, .slice A n c, .slice B m d, .slice D p f], .int .u64 k] w fun e w' => e = .returned (.tuple #[.agg noMsg, .int .i64 1]) ∧ Below w.heap.size w w' := by
  have h1 : (p : Int) < k := by omega
  go_enter Try.func9, Try.ntmps9
  go_wp2
  refine bodyPost_ret (v := .tuple #[.agg noMsg, .int .i64 1]) (by simp [noMsg, results, Try.results9, go_sem]) rfl ⟨rfl, (by (repeat first | refine Below.setCell ?_ (by first | omega | (dsimp only; omega) | (simp only [heap_drew, World.size_alloc, Gz.size_setCell]; omega)) _ | refine Below.alloc ?_ (by first | omega | (dsimp only; omega) | (simp only [heap_drew, World.size_alloc, Gz.size_setCell]; omega)) _ | refine Below.drew ?_); exact Below.refl _ _)⟩
set_option maxHeartbeats 800000 in
theorem piece_err_ref (i t : Int) (A B D : Option Addr) (n c m d p f k : Nat) (w : World) (hk : p < k) (hp : p ≤ 140737488355328) (hk2 : k < 18446744073709551616) :
    Calls Try.prog 10 #[.agg #[.int .u64 i, .int .u64 t, .slice A n c, .slice B m d, .slice D p f], .int .u64 k] w fun e w' => e = .returned (.tuple #[.agg noMsg, .int .i64 1]) ∧ Below w.heap.size w w' := by
  have h1 : (p : Int) < k := by omega
  go_enter Try.func10, Try.ntmps10
  go_wp2
  refine bodyPost_ret (v := .tuple #[.agg noMsg, .int .i64 1]) (by simp [noMsg, results, Try.results10, go_sem]) rfl ⟨rfl, (by (repeat first | refine Below.setCell ?_ (by first | omega | (dsimp only; omega) | (simp only [heap_drew, World.size_alloc, Gz.size_setCell]; omega)) _ | refine Below.alloc ?_ (by first | omega | (dsimp only; omega) | (simp only [heap_drew, World.size_alloc, Gz.size_setCell]; omega)) _ | refine Below.drew ?_); exact Below.refl _ _)⟩

set_option maxHeartbeats 800000 in
theorem piece_any (i t : Int) (A B D : Option Addr) (n c m d p f k q : Nat) (l k' z : List Int) (w : World) (h : IsSnap w A B D n m p l k' z) (hn : n * 8 ≤ 140737488355328) (hm : m * 8 ≤ 140737488355328)
    (hpf : p ≤ f) (hf : p ≤ 140737488355328) (hk : k ≤ p) (hq : q ≤ 64) (hq2 : q ≤ p - k) (hq3 : q = 64 ∨ q = p - k) :
    Calls Try.prog 9 #[.agg #[.int .u64 i, .int .u64 t, .slice A n c, .slice B m d, .slice D p f], .int .u64 k] w fun e w' => Below w.heap.size w w' ∧
      ∃ A' c' B' d' D' f', e = .returned (.tuple #[.agg (msgCells i t k A' B' D' n c' m d' q f' (decide (q = p - k))), .int .i64 0]) ∧ OwnSnap w' w.heap.size A' B' D' n c' m d' q f' l k' ((z.drop k).take 64) := by
  obtain ⟨i0, hi, hz0, hz1', hz2'⟩ := info_parts infoU8
  have H := Lib.hid h
  clear h
  have h1 : (0 : Int) ≤ k := by omega
  have h2 : (k : Int) ≤ p := by omega
  have hmin : (if (64 : Int) < ((p - k : Nat) : Int) then (64 : Int) else ((p - k : Nat) : Int)) = (q : Int) := by rcases hq3 with e | e <;> split <;> omega
  have HQ := hide hq3
  clear hq3
  have hsl := run_slice_low (P := Try.prog) 26 5 i0 1 Try.underlying26 hi hz1' .u64 D p f k hk
  have hmk := run_make_n (P := Try.prog) 26 5 i0 _ Try.underlying26 hi hz0 .i64 .i64 q (by rw [hz2']; omega) (by omega)
  go_enter Try.func9, Try.ntmps9
  go_wp2_with (with_reducible refine stop_at (d := 30) ?_)
  refine hide (name_list (fun w3 hw3 => ?_))
  have k1 : Blk w3 w.heap.size [.int .u64 i, .int .u64 t, .slice A n c, .slice B m d, .slice D p f] := by rw [hw3]; exact ((Blk.new w _ _ _ rfl).alloc _).alloc _
  have k2 : Blk w3 (w.heap.size + 1) [.int .i64 0, .int .i64 0, .int .i64 0, .int .u64 0, .int .u64 0, .int .u64 0, .slice none 0 0, .int .u64 0, .bool false, .int .u64 0, .slice none 0 0, .slice none 0 0, .slice none 0 0, .bool false] := by
    rw [hw3]; exact (Blk.new _ _ _ _ (by simp)).alloc _
  have k3 : w3.heap[w.heap.size + 2]? = some (.cells (List.replicate q (Value.int .u8 0)).toArray 5 (0, 0)) := by
    rw [hw3, heap_at _ _ _ (by simp), madeCells_list]
  have hb3 : Below w.heap.size w w3 := by rw [hw3]; exact (by (repeat first | refine Below.setCell ?_ (by first | omega | (dsimp only; omega) | (simp only [heap_drew, World.size_alloc, Gz.size_setCell]; omega)) _ | refine Below.alloc ?_ (by first | omega | (dsimp only; omega) | (simp only [heap_drew, World.size_alloc, Gz.size_setCell]; omega)) _ | refine Below.drew ?_); exact Below.refl _ _)
  have hz3 : w.heap.size + 3 ≤ w3.heap.size := by rw [hw3]; simp
  clear hw3
  have hsz : (Try.prog.info? 5).map (·.size) = some 1 := by rw [hi]; simp [hz1']
  have hc := (H.out.2.below hb3).cut (c := f) hk hpf
  refine wpList_copy_fresh rfl (.tmp 25) (.tmp 29) _ _ rfl 5 Try.underlying26 hsz (w.heap.size + 2) q q rfl (cutA D f k 1) q rfl (((nums .u8 z).drop (k * 1)).take (q * 1)) (hc.take hq2) (fun v hv => oneCell_nums .u8 z v (List.mem_of_mem_drop (List.mem_of_mem_take hv))) _ List.length_replicate (by simp only [maxLen]; omega) k3 ?_
  intro w4 ho4 hb4
  have k1 := k1.below hb4 (by omega)
  have k2 := k2.below hb4 (by omega)
  have hz4 := hb4.size
  have hb34 := hb3.trans (hb4.mono (by omega))
  clear hb4 hb3 k3 hc hsz hsl hmk hmin
  have HT := hide (k2.there (13 + 1) rfl)
  have c1 := k1.cell
  go_wp2_with fail

  refine wp_region_phase 14 (S := Ext w4) (by kernel_rfl) rfl (by kernel_rfl) (fun hS => ?_) Ext.start
  simp only [List.take_succ_cons, List.take_zero, List.drop_succ_cons, List.drop_zero]
  refine take_at (i := 0) (oi := _) (dst := some 31) (v := ?_) rfl rfl (by kernel_rfl) (by kernel_rfl) (by kernel_rfl) (fun _ _ _ h => h) (Or.inl ⟨by rfl, by intro w hSw; (try dsimp only at hSw); go_simp; (try with_reducible rfl)⟩) (by assumption) ?_; (try simp only [Act.put, List.setIfInBounds_toArray, List.set_cons_zero, List.set_cons_succ])
  refine take_at (i := 1) (oi := _) (dst := some 32) (v := ?_) rfl rfl (by kernel_rfl) (by kernel_rfl) (by kernel_rfl) (fun _ _ _ h => h) (Or.inl ⟨by rfl, by intro w hSw; (try dsimp only at hSw); go_simp; (try with_reducible rfl)⟩) (by assumption) ?_; (try simp only [Act.put, List.setIfInBounds_toArray, List.set_cons_zero, List.set_cons_succ])
  refine take_at (i := 2) (oi := _) (dst := some 33) (v := ?_) rfl rfl (by kernel_rfl) (by kernel_rfl) (by kernel_rfl) (fun _ _ _ h => h) (Or.inl ⟨by rfl, by intro w hSw; (try dsimp only at hSw); go_simp; (try with_reducible rfl)⟩) (by assumption) ?_; (try simp only [Act.put, List.setIfInBounds_toArray, List.set_cons_zero, List.set_cons_succ])
  refine take_at (i := 3) (oi := _) (dst := some 34) (v := ?_) rfl rfl (by kernel_rfl) (by kernel_rfl) (by kernel_rfl) (fun _ _ _ h => h) (Or.inl ⟨by rfl, by intro w hSw; (try dsimp only at hSw); go_simp; (try with_reducible rfl)⟩) (by assumption) ?_; (try simp only [Act.put, List.setIfInBounds_toArray, List.set_cons_zero, List.set_cons_succ])
  refine take_at (i := 4) (oi := _) (dst := some 35) (v := ?_) rfl rfl (by kernel_rfl) (by kernel_rfl) (by kernel_rfl) (fun _ _ _ h => h) (Or.inl ⟨by rfl, by intro w hSw; (try dsimp only at hSw); go_simp; (try with_reducible rfl)⟩) (by assumption) ?_; (try simp only [Act.put, List.setIfInBounds_toArray, List.set_cons_zero, List.set_cons_succ])
  refine take_at (i := 5) (oi := _) (dst := some 36) (v := ?_) rfl rfl (by kernel_rfl) (by kernel_rfl) (by kernel_rfl) (fun _ _ _ h => h) (Or.inl ⟨by rfl, by intro w hSw; (try dsimp only at hSw); go_simp; (try with_reducible rfl)⟩) (by assumption) ?_; (try simp only [Act.put, List.setIfInBounds_toArray, List.set_cons_zero, List.set_cons_succ])
  refine take_at (i := 7) (oi := _) (dst := some 38) (v := ?_) rfl rfl (by kernel_rfl) (by kernel_rfl) (by kernel_rfl) (fun _ _ _ h => h) (Or.inl ⟨by rfl, by intro w hSw; (try dsimp only at hSw); go_simp; (try with_reducible rfl)⟩) (by assumption) ?_; (try simp only [Act.put, List.setIfInBounds_toArray, List.set_cons_zero, List.set_cons_succ])
  refine take_at (i := 8) (oi := _) (dst := some 39) (v := ?_) rfl rfl (by kernel_rfl) (by kernel_rfl) (by kernel_rfl) (fun _ _ _ h => h) (Or.inl ⟨by rfl, by intro w hSw; (try dsimp only at hSw); go_simp; (try with_reducible rfl)⟩) (by assumption) ?_; (try simp only [Act.put, List.setIfInBounds_toArray, List.set_cons_zero, List.set_cons_succ])
  refine take_at (i := 9) (oi := _) (dst := some 40) (v := ?_) rfl rfl (by kernel_rfl) (by kernel_rfl) (by kernel_rfl) (fun _ _ _ h => h) (Or.inl ⟨by rfl, by intro w hSw; (try dsimp only at hSw); go_simp; (try with_reducible rfl)⟩) (by assumption) ?_; (try simp only [Act.put, List.setIfInBounds_toArray, List.set_cons_zero, List.set_cons_succ])
  refine take_at (i := 10) (oi := _) (dst := some 41) (v := ?_) rfl rfl (by kernel_rfl) (by kernel_rfl) (by kernel_rfl) (fun _ _ _ h => h) (Or.inl ⟨by rfl, by intro w hSw; (try dsimp only at hSw); go_simp; (try with_reducible rfl)⟩) (by assumption) ?_; (try simp only [Act.put, List.setIfInBounds_toArray, List.set_cons_zero, List.set_cons_succ])
  refine take_at (i := 11) (oi := _) (dst := some 42) (v := ?_) rfl rfl (by kernel_rfl) (by kernel_rfl) (by kernel_rfl) (fun _ _ _ h => h) (Or.inl ⟨by rfl, by intro w hSw; (try dsimp only at hSw); go_simp; (try with_reducible rfl)⟩) (by assumption) ?_; (try simp only [Act.put, List.setIfInBounds_toArray, List.set_cons_zero, List.set_cons_succ])
  refine take_at (i := 12) (oi := _) (dst := some 43) (v := ?_) rfl rfl (by kernel_rfl) (by kernel_rfl) (by kernel_rfl) (fun _ _ _ h => h) (Or.inl ⟨by rfl, by intro w hSw; (try dsimp only at hSw); go_simp; (try with_reducible rfl)⟩) (by assumption) ?_; (try simp only [Act.put, List.setIfInBounds_toArray, List.set_cons_zero, List.set_cons_succ])
  refine wpAnyH_ready (rs := [6]) (by kernel_rfl) (by simp) ?_; refine AllReadyH.cons (o := _) rfl (fun K hK => ?_) AllReadyH.nil; go_simp
  refine (conf_any A B n c m d l k' _ (H.out.1.below hb34.drew) hn hm).mono ?_
  rintro e w5 ⟨hb5, A5, c5, B5, d5, rfl, ho5⟩
  refine hK.out _ _ (Ext.below hS hb5) (fun hS5 => ?_)
  clear hK
  refine take_at (i := 13) (oi := _) (dst := some 44) (v := ?_) rfl rfl (by kernel_rfl) (by kernel_rfl) (by kernel_rfl) (fun _ _ _ h => h) (Or.inl ⟨by rfl, by intro w hSw; (try dsimp only at hSw); go_simp; (try with_reducible rfl)⟩) (by assumption) ?_; (try simp only [Act.put, List.setIfInBounds_toArray, List.set_cons_zero, List.set_cons_succ])
  refine wpAnyH_done (by kernel_rfl) ?_ _
  go_wp2_with (with_reducible refine stop_store ?_)
  have k2 := Blk.ext (w := w4.drew) k2 hb5
  refine hide (wpList_store_blk rfl 34 (.tmp 4) (.tmp 44) rfl (w.heap.size + 1) [.int .i64 7, .int .i64 0, .int .i64 0, .int .u64 0, .int .u64 i, .int .u64 t, .slice none 0 0, .int .u64 0, .bool false, .int .u64 k, .slice A5 n c5, .slice B5 m d5, .slice (some ⟨w.heap.size + 1 + 1, 0, none⟩) q q, .bool ((q : Int) == ((p - k : Nat) : Int))] rfl rfl _ k2 rfl (by kernel_rfl) rfl ?_)
  intro w6 k6 hg6 hz6
  go_wp2
  have hz5 := hb5.size
  have hz5' : w4.heap.size ≤ w5.heap.size := hz5
  have hb45 : Below w.heap.size w4 w5 := Below.mono (of_drew hb5) (by omega)
  have hb46 : Below w.heap.size w4 w6 := by
    refine hb45.grown hg6 (by omega) ?_
    intro g hg
    injection hg with hg
    omega
  refine bodyPost_ret (v := .tuple #[.agg (msgCells i t k A5 B5 (some ⟨w.heap.size + 1 + 1, 0, none⟩) n c5 m d5 q q (decide (q = p - k))), .int .i64 0]) ?_ rfl ⟨?_, A5, c5, B5, d5, _, q, rfl, ⟨?_, ?_⟩, ?_⟩
  · have hbq : ((q : Int) == ((p - k : Nat) : Int)) = decide (q = p - k) := by rw [Bool.eq_iff_iff]; simp; omega
    rw [← hbq]
    simp [msgCells, results, Try.results9, go_sem, k6.cell]
  · exact hb34.trans hb46
  · exact (ho5.1.grown hg6 (by intro k hk; simp at hk; simp only [heap_drew]; omega)).lower (by simp only [heap_drew]; omega)
  · exact (ho5.2.grown hg6 (by intro k hk; simp at hk; simp only [heap_drew]; omega)).lower (by simp only [heap_drew]; omega)
  · have e : (nums .u8 z |>.drop (k * 1)).take (q * 1) = nums .u8 ((z.drop k).take 64) := by
      have hl : z.length = p := H.out.2.len
      simp only [nums, Nat.mul_one, ← List.map_drop, ← List.map_take]
      congr 1
      rcases HQ.out with e | e
      · rw [e]
      · rw [List.take_of_length_le (by simp; omega), List.take_of_length_le (by simp; omega)]
    rw [e] at ho4
    exact ((Own.below (w := w4.drew) ho4 hb5).grown hg6 (by intro k hk; simp at hk; omega)).lower (by omega)

set_option maxHeartbeats 1600000 in
theorem piece_ref_any (i t : Int) (A B D : Option Addr) (n c m d p f k q : Nat) (l k' z : List Int) (w : World) (h : IsSnap w A B D n m p l k' z) (hn : n * 8 ≤ 140737488355328) (hm : m * 8 ≤ 140737488355328)
    (hpf : p ≤ f) (hf : p ≤ 140737488355328) (hk : k ≤ p) (hq : q ≤ 64) (hq2 : q ≤ p - k) (hq3 : q = 64 ∨ q = p - k) :
    Calls Try.prog 10 #[.agg #[.int .u64 i, .int .u64 t, .slice A n c, .slice B m d, .slice D p f], .int .u64 k] w fun e w' => Below w.heap.size w w' ∧
      ∃ A' c' B' d' D' f', e = .returned (.tuple #[.agg (msgCells i t k A' B' D' n c' m d' q f' (decide (q = p - k))), .int .i64 0]) ∧ OwnSnap w' w.heap.size A' B' D' n c' m d' q f' l k' ((z.drop k).take 64) := by
  obtain ⟨i0, hi, hz0, hz1', hz2'⟩ := info_parts infoU8
  have H := Lib.hid h
  clear h
  have h1 : (0 : Int) ≤ k := by omega
  have h2 : (k : Int) ≤ p := by omega
  obtain ⟨r, hr⟩ : ∃ r : Nat, r = k + q := ⟨_, rfl⟩
  have hmin : (if (k : Int) + 64 < (p : Int) then (k : Int) + 64 else (p : Int)) = (r : Int) := by rcases hq3 with e | e <;> split <;> omega
  have HQ := hide hq3
  have hsl : ∀ W, (Instr.slice 26 (.slice D p f) (some (.int .u64 k)) (some (.int .u64 r)) none).run Try.prog W = .ok (.slice (cutA D f k 1) q (f - k)) W := fun W => by
    have := run_slice_low_high (P := Try.prog) 26 5 i0 1 Try.underlying26 hi hz1' .u64 .u64 D p f k r (by omega) (by omega) W
    rwa [show r - k = q from by omega] at this
  have HR := hide hr
  clear hq3 hr
  go_enter Try.func10, Try.ntmps10
  go_wp2_with fail
  refine name_world (fun w4 hw4 => ?_)
  have k1 : Blk w4 w.heap.size [.int .u64 i, .int .u64 t, .slice A n c, .slice B m d, .slice D p f] := by rw [hw4]; exact (Blk.new w _ _ _ rfl).alloc _
  have k2 : Blk w4 (w.heap.size + 1) [.int .i64 0, .int .i64 0, .int .i64 0, .int .u64 0, .int .u64 0, .int .u64 0, .slice none 0 0, .int .u64 0, .bool false, .int .u64 0, .slice none 0 0, .slice none 0 0, .slice none 0 0, .bool false] := by
    rw [hw4]; exact Blk.new _ _ _ _ (by simp)
  have hb4 : Below w.heap.size w w4 := by rw [hw4]; exact (by (repeat first | refine Below.setCell ?_ (by first | omega | (dsimp only; omega) | (simp only [heap_drew, World.size_alloc, Gz.size_setCell]; omega)) _ | refine Below.alloc ?_ (by first | omega | (dsimp only; omega) | (simp only [heap_drew, World.size_alloc, Gz.size_setCell]; omega)) _ | refine Below.drew ?_); exact Below.refl _ _)
  have hz4 : w.heap.size + 2 ≤ w4.heap.size := by rw [hw4]; simp
  clear hw4
  have c1 := k1.cell
  refine wp_region_phase 19 (S := Ext w4) (by kernel_rfl) rfl (by kernel_rfl) (fun hS => ?_) Ext.start
  simp only [List.take_succ_cons, List.take_zero, List.drop_succ_cons, List.drop_zero]
  refine take_at (i := 0) (oi := _) (dst := some 20) (v := ?_) rfl rfl (by kernel_rfl) (by kernel_rfl) (by kernel_rfl) (fun _ _ _ h => h) (Or.inl ⟨by rfl, by intro w hSw; (try dsimp only at hSw); go_simp; (try with_reducible rfl)⟩) (by assumption) ?_; (try simp only [Act.put, List.setIfInBounds_toArray, List.set_cons_zero, List.set_cons_succ])
  refine take_at (i := 1) (oi := _) (dst := some 21) (v := ?_) rfl rfl (by kernel_rfl) (by kernel_rfl) (by kernel_rfl) (fun _ _ _ h => h) (Or.inl ⟨by rfl, by intro w hSw; (try dsimp only at hSw); go_simp; (try with_reducible rfl)⟩) (by assumption) ?_; (try simp only [Act.put, List.setIfInBounds_toArray, List.set_cons_zero, List.set_cons_succ])
  refine take_at (i := 2) (oi := _) (dst := some 22) (v := ?_) rfl rfl (by kernel_rfl) (by kernel_rfl) (by kernel_rfl) (fun _ _ _ h => h) (Or.inl ⟨by rfl, by intro w hSw; (try dsimp only at hSw); go_simp; (try with_reducible rfl)⟩) (by assumption) ?_; (try simp only [Act.put, List.setIfInBounds_toArray, List.set_cons_zero, List.set_cons_succ])
  refine take_at (i := 3) (oi := _) (dst := some 23) (v := ?_) rfl rfl (by kernel_rfl) (by kernel_rfl) (by kernel_rfl) (fun _ _ _ h => h) (Or.inl ⟨by rfl, by intro w hSw; (try dsimp only at hSw); go_simp; (try with_reducible rfl)⟩) (by assumption) ?_; (try simp only [Act.put, List.setIfInBounds_toArray, List.set_cons_zero, List.set_cons_succ])
  refine take_at (i := 4) (oi := _) (dst := some 24) (v := ?_) rfl rfl (by kernel_rfl) (by kernel_rfl) (by kernel_rfl) (fun _ _ _ h => h) (Or.inl ⟨by rfl, by intro w hSw; (try dsimp only at hSw); go_simp; (try with_reducible rfl)⟩) (by assumption) ?_; (try simp only [Act.put, List.setIfInBounds_toArray, List.set_cons_zero, List.set_cons_succ])
  refine take_at (i := 5) (oi := _) (dst := some 25) (v := ?_) rfl rfl (by kernel_rfl) (by kernel_rfl) (by kernel_rfl) (fun _ _ _ h => h) (Or.inl ⟨by rfl, by intro w hSw; (try dsimp only at hSw); go_simp; (try with_reducible rfl)⟩) (by assumption) ?_; (try simp only [Act.put, List.setIfInBounds_toArray, List.set_cons_zero, List.set_cons_succ])
  refine take_at (i := 7) (oi := _) (dst := some 27) (v := ?_) rfl rfl (by kernel_rfl) (by kernel_rfl) (by kernel_rfl) (fun _ _ _ h => h) (Or.inl ⟨by rfl, by intro w hSw; (try dsimp only at hSw); go_simp; (try with_reducible rfl)⟩) (by assumption) ?_; (try simp only [Act.put, List.setIfInBounds_toArray, List.set_cons_zero, List.set_cons_succ])
  refine take_at (i := 9) (oi := _) (dst := some 29) (v := ?_) rfl rfl (by kernel_rfl) (by kernel_rfl) (by kernel_rfl) (fun _ _ _ h => h) (Or.inl ⟨by rfl, by intro w hSw; (try dsimp only at hSw); go_simp; (try with_reducible rfl)⟩) (by assumption) ?_; (try simp only [Act.put, List.setIfInBounds_toArray, List.set_cons_zero, List.set_cons_succ])
  refine take_at (i := 10) (oi := _) (dst := some 30) (v := ?_) rfl rfl (by kernel_rfl) (by kernel_rfl) (by kernel_rfl) (fun _ _ _ h => h) (Or.inl ⟨by rfl, by intro w hSw; (try dsimp only at hSw); go_simp; (try with_reducible rfl)⟩) (by assumption) ?_; (try simp only [Act.put, List.setIfInBounds_toArray, List.set_cons_zero, List.set_cons_succ])
  refine take_at (i := 11) (oi := _) (dst := some 31) (v := ?_) rfl rfl (by kernel_rfl) (by kernel_rfl) (by kernel_rfl) (fun _ _ _ h => h) (Or.inl ⟨by rfl, by intro w hSw; (try dsimp only at hSw); go_simp; (try with_reducible rfl)⟩) (by assumption) ?_; (try simp only [Act.put, List.setIfInBounds_toArray, List.set_cons_zero, List.set_cons_succ])
  refine take_at (i := 12) (oi := _) (dst := some 32) (v := ?_) rfl rfl (by kernel_rfl) (by kernel_rfl) (by kernel_rfl) (fun _ _ _ h => h) (Or.inl ⟨by rfl, by intro w hSw; (try dsimp only at hSw); go_simp; (try with_reducible rfl)⟩) (by assumption) ?_; (try simp only [Act.put, List.setIfInBounds_toArray, List.set_cons_zero, List.set_cons_succ])
  refine take_at (i := 13) (oi := _) (dst := some 33) (v := ?_) rfl rfl (by kernel_rfl) (by kernel_rfl) (by kernel_rfl) (fun _ _ _ h => h) (Or.inl ⟨by rfl, by intro w hSw; (try dsimp only at hSw); go_simp; (try with_reducible rfl)⟩) (by assumption) ?_; (try simp only [Act.put, List.setIfInBounds_toArray, List.set_cons_zero, List.set_cons_succ])
  refine take_at (i := 15) (oi := _) (dst := some 35) (v := ?_) rfl rfl (by kernel_rfl) (by kernel_rfl) (by kernel_rfl) (fun _ _ _ h => h) (Or.inl ⟨by rfl, by intro w hSw; (try dsimp only at hSw); go_simp; (try with_reducible rfl)⟩) (by assumption) ?_; (try simp only [Act.put, List.setIfInBounds_toArray, List.set_cons_zero, List.set_cons_succ])
  refine take_at (i := 16) (oi := _) (dst := some 36) (v := ?_) rfl rfl (by kernel_rfl) (by kernel_rfl) (by kernel_rfl) (fun _ _ _ h => h) (Or.inl ⟨by rfl, by intro w hSw; (try dsimp only at hSw); go_simp; (try with_reducible rfl)⟩) (by assumption) ?_; (try simp only [Act.put, List.setIfInBounds_toArray, List.set_cons_zero, List.set_cons_succ])
  refine take_at (i := 17) (oi := _) (dst := some 37) (v := ?_) rfl rfl (by kernel_rfl) (by kernel_rfl) (by kernel_rfl) (fun _ _ _ h => h) (Or.inl ⟨by rfl, by intro w hSw; (try dsimp only at hSw); go_simp; (try with_reducible rfl)⟩) (by assumption) ?_; (try simp only [Act.put, List.setIfInBounds_toArray, List.set_cons_zero, List.set_cons_succ])
  refine wpAnyH_ready (rs := [6, 8]) (by kernel_rfl) (by simp) ?_
  refine AllReadyH.cons (o := _) rfl (fun K hK => ?_) (AllReadyH.cons (o := _) rfl (fun K hK => ?_) AllReadyH.nil)
  · go_simp
    refine (cloneConf_any A B n c m d l k' _ (H.out.1.below hb4.drew) hn hm).mono ?_
    rintro e w5 ⟨hb5, A5, c5, B5, d5, rfl, ho5⟩
    refine hK.out _ _ (Ext.below hS hb5) (fun hS5 => ?_)
    clear hK
    refine wpAnyH_ready (rs := [8]) (by kernel_rfl) (by simp) ?_; refine AllReadyH.cons (o := _) rfl (fun K hK => ?_) AllReadyH.nil; go_simp
    refine hK.out _ _ (Ext.alloc hS5 _) (fun hS6 => ?_)
    clear hK
    refine wpAnyH_ready (rs := [14]) (by kernel_rfl) (by simp) ?_; refine AllReadyH.cons (o := _) rfl (fun K hK => ?_) AllReadyH.nil
    refine step_append_empty (some 34) rfl rfl (.tmp 28) (.tmp 33) _ rfl 5 i0 (.int .u8 0) 1 1 Try.underlying26 hi hz0 hz1' hz2' rfl _ rfl (cutA D f k 1) q (f - k) (((nums .u8 z).drop (k * 1)).take (q * 1)) rfl (((H.out.2.below (hb4.trans (hS6.2.2.mono (by omega)))).cut hk hpf).take hq2) (by omega) (by omega) ?_
    intro D6 c6 w6 ho6 hb6
    refine hK.out _ _ (Ext.below hS6 hb6) (fun hS7 => ?_)
    clear hK
    simp only [Act.put, List.setIfInBounds_toArray, List.set_cons_zero, List.set_cons_succ]
    have ho5 : OwnConf w6 w4.heap.size A5 B5 n c5 m d5 l k' := ⟨(ho5.1.alloc _).below hb6, (ho5.2.alloc _).below hb6⟩
    have ho6 := ho6.lower (base' := w4.heap.size) hS6.2.2.size
    clear hb5 hb6 hS5 hS6
    refine take_at (i := 18) (oi := _) (dst := some 38) (v := ?_) rfl rfl (by kernel_rfl) (by kernel_rfl) (by kernel_rfl) (fun _ _ _ h => h) (Or.inl ⟨by rfl, by intro w hSw; (try dsimp only at hSw); go_simp; (try with_reducible rfl)⟩) (by assumption) ?_; (try simp only [Act.put, List.setIfInBounds_toArray, List.set_cons_zero, List.set_cons_succ])
    refine wpAnyH_done (by kernel_rfl) ?_ _
    go_wp2_with (with_reducible refine stop_store ?_)
    have k2 := Blk.ext k2 hS7.2.2
    refine hide (wpList_store_blk rfl 34 (.tmp 4) (.tmp 38) rfl (w.heap.size + 1) [.int .i64 7, .int .i64 0, .int .i64 0, .int .u64 0, .int .u64 i, .int .u64 t, .slice none 0 0, .int .u64 0, .bool false, .int .u64 k, .slice A5 n c5, .slice B5 m d5, .slice D6 q c6, .bool ((r : Int) == (p : Int))] rfl rfl _ k2 rfl (by kernel_rfl) rfl ?_)
    intro w7 k7 hg7 hz7
    go_wp2
    have hb47 : Below w.heap.size w4 w7 := by
      refine (hS7.2.2.mono (by omega)).grown hg7 (by have := hS7.2.2.size; omega) ?_
      intro g hg
      injection hg with hg
      omega
    refine bodyPost_ret (v := .tuple #[.agg (msgCells i t k A5 B5 D6 n c5 m d5 q c6 (decide (q = p - k))), .int .i64 0]) ?_ rfl ⟨hb4.trans hb47, A5, c5, B5, d5, _, _, rfl, ⟨?_, ?_⟩, ?_⟩
    · have hbq : ((r : Int) == (p : Int)) = decide (q = p - k) := by have := HR.out; rw [Bool.eq_iff_iff]; simp; omega
      rw [← hbq]
      simp [msgCells, results, Try.results10, go_sem, k7.cell]
    · exact (ho5.1.grown hg7 (by intro g hg; injection hg with hg; omega)).lower (by omega)
    · exact (ho5.2.grown hg7 (by intro g hg; injection hg with hg; omega)).lower (by omega)
    · have e : (nums .u8 z |>.drop (k * 1)).take (q * 1) = nums .u8 ((z.drop k).take 64) := by
        have hl : z.length = p := H.out.2.len
        simp only [nums, Nat.mul_one, ← List.map_drop, ← List.map_take]
        congr 1
        rcases HQ.out with e | e
        · rw [e]
        · rw [List.take_of_length_le (by simp; omega), List.take_of_length_le (by simp; omega)]
      rw [e] at ho6
      exact (ho6.grown hg7 (by intro g hg; injection hg with hg; omega)).lower (by omega)
  · go_simp
    refine hK.out _ _ (Ext.alloc hS _) (fun hS5 => ?_)
    clear hK
    refine wpAnyH_ready (rs := [6]) (by kernel_rfl) (by simp) ?_; refine AllReadyH.cons (o := _) rfl (fun K hK => ?_) AllReadyH.nil; go_simp
    refine (cloneConf_any A B n c m d l k' _ (H.out.1.below (hb4.trans (hS5.2.2.mono (by omega)))) hn hm).mono ?_
    rintro e w5 ⟨hb5, A5, c5, B5, d5, rfl, ho5⟩
    refine hK.out _ _ (Ext.below hS5 hb5) (fun hS6 => ?_)
    clear hK
    refine wpAnyH_ready (rs := [14]) (by kernel_rfl) (by simp) ?_; refine AllReadyH.cons (o := _) rfl (fun K hK => ?_) AllReadyH.nil
    refine step_append_empty (some 34) rfl rfl (.tmp 28) (.tmp 33) _ rfl 5 i0 (.int .u8 0) 1 1 Try.underlying26 hi hz0 hz1' hz2' rfl _ rfl (cutA D f k 1) q (f - k) (((nums .u8 z).drop (k * 1)).take (q * 1)) rfl (((H.out.2.below (hb4.trans (hS6.2.2.mono (by omega)))).cut hk hpf).take hq2) (by omega) (by omega) ?_
    intro D6 c6 w6 ho6 hb6
    refine hK.out _ _ (Ext.below hS6 hb6) (fun hS7 => ?_)
    clear hK
    simp only [Act.put, List.setIfInBounds_toArray, List.set_cons_zero, List.set_cons_succ]
    have hz5 := hS5.2.2.size
    have ho5 : OwnConf w6 w4.heap.size A5 B5 n c5 m d5 l k' := ⟨(ho5.1.below hb6).lower hz5, (ho5.2.below hb6).lower hz5⟩
    have ho6 := ho6.lower (base' := w4.heap.size) hS6.2.2.size
    clear hb5 hb6 hS5 hS6 hz5
    refine take_at (i := 18) (oi := _) (dst := some 38) (v := ?_) rfl rfl (by kernel_rfl) (by kernel_rfl) (by kernel_rfl) (fun _ _ _ h => h) (Or.inl ⟨by rfl, by intro w hSw; (try dsimp only at hSw); go_simp; (try with_reducible rfl)⟩) (by assumption) ?_; (try simp only [Act.put, List.setIfInBounds_toArray, List.set_cons_zero, List.set_cons_succ])
    refine wpAnyH_done (by kernel_rfl) ?_ _
    go_wp2_with (with_reducible refine stop_store ?_)
    have k2 := Blk.ext k2 hS7.2.2
    refine hide (wpList_store_blk rfl 34 (.tmp 4) (.tmp 38) rfl (w.heap.size + 1) [.int .i64 7, .int .i64 0, .int .i64 0, .int .u64 0, .int .u64 i, .int .u64 t, .slice none 0 0, .int .u64 0, .bool false, .int .u64 k, .slice A5 n c5, .slice B5 m d5, .slice D6 q c6, .bool ((r : Int) == (p : Int))] rfl rfl _ k2 rfl (by kernel_rfl) rfl ?_)
    intro w7 k7 hg7 hz7
    go_wp2
    have hb47 : Below w.heap.size w4 w7 := by
      refine (hS7.2.2.mono (by omega)).grown hg7 (by have := hS7.2.2.size; omega) ?_
      intro g hg
      injection hg with hg
      omega
    refine bodyPost_ret (v := .tuple #[.agg (msgCells i t k A5 B5 D6 n c5 m d5 q c6 (decide (q = p - k))), .int .i64 0]) ?_ rfl ⟨hb4.trans hb47, A5, c5, B5, d5, _, _, rfl, ⟨?_, ?_⟩, ?_⟩
    · have hbq : ((r : Int) == (p : Int)) = decide (q = p - k) := by have := HR.out; rw [Bool.eq_iff_iff]; simp; omega
      rw [← hbq]
      simp [msgCells, results, Try.results10, go_sem, k7.cell]
    · exact (ho5.1.grown hg7 (by intro g hg; injection hg with hg; omega)).lower (by omega)
    · exact (ho5.2.grown hg7 (by intro g hg; injection hg with hg; omega)).lower (by omega)
    · have e : (nums .u8 z |>.drop (k * 1)).take (q * 1) = nums .u8 ((z.drop k).take 64) := by
        have hl : z.length = p := H.out.2.len
        simp only [nums, Nat.mul_one, ← List.map_drop, ← List.map_take]
        congr 1
        rcases HQ.out with e | e
        · rw [e]
        · rw [List.take_of_length_le (by simp; omega), List.take_of_length_le (by simp; omega)]
      rw [e] at ho6
      exact (ho6.grown hg7 (by intro g hg; injection hg with hg; omega)).lower (by omega)
end Go.Proofs.Ytmjohallhdcdnaa

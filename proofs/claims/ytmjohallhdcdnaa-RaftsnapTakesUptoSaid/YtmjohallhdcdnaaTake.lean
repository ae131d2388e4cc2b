/- Contracts of Take, the program's and the document's. -/
import Derived.Test.YtmjohallhdcdnaaHead
import Derived.Test.YtmjohallhdcdnaaStore
namespace Go.Proofs.Ytmjohallhdcdnaa
open Go.RowKit Go.Gz
attribute [local go_sem] World.cell?_alloc_some frozen?_alloc_some

theorem slNone (w : World) : SlA w 1 none 0 (nums .u8 []) := ⟨rfl, fun _ => rfl, fun _ e => (by cases e)⟩
/-- A message of any kind: what Take reads is named. -/
def msgV (x0 x1 x2 x3 x6 x7 x8 x10 x11 : Value) (i t k : Int) (M : Option Addr) (q e : Nat) (done : Bool) : List Value :=
  [x0, x1, x2, x3, .int .u64 i, .int .u64 t, x6, x7, x8, .int .u64 k, x10, x11, .slice M q e, .bool done]
/-- What has come, of how many bytes and which, when a message has been taken. -/
def tookN (k : Int) (p q : Nat) : Nat := if k = p then p + q else p
def tookL (k : Int) (z y : List Int) : List Int := if k = z.length then z ++ y else z

set_option maxHeartbeats 1600000 in
theorem take_same (x0 x1 x2 x3 x6 x7 x8 x10 x11 : Value) (i t k : Int) (D M : Option Addr) (p f q e : Nat) (done : Bool) (z y : List Int) (w : World) (h : SlA w 1 D p (nums .u8 z)) (hm : SlA w 1 M q (nums .u8 y)) (hpf : p ≤ f) (hs : p + q ≤ 140737488355328) :
    Calls Try.prog 15 #[.agg #[.int .u64 i, .int .u64 t, .slice D p f], .agg (msgV x0 x1 x2 x3 x6 x7 x8 x10 x11 i t k M q e done).toArray] w fun r w' => Below w.heap.size w w' ∧
      ∃ D' f', r = .returned (.tuple #[.agg #[.int .u64 i, .int .u64 t, .slice D' (tookN k p q) f'], .bool (decide (k = p) && done)]) ∧ Own w' w.heap.size 5 1 D' (tookN k p q) f' (nums .u8 (tookL k z y)) := by
  obtain ⟨i0, hi, hz0, hz1', hz2'⟩ := info_parts infoU8
  have H := Lib.hid h
  have HM := Lib.hid hm
  clear h hm
  have hsl := run_slice_high_max (P := Try.prog) 26 5 i0 Try.underlying26 hi .i64 .i64 D p f p p (Nat.le_refl _) hpf
  unfold msgV
  go_enter Try.func15, Try.ntmps15
  go_wp2_with fail
  refine name_calls (fun w1 hw1 => ?_)
  have hb1 : Below w.heap.size w w1 := by rw [hw1]; exact (by (repeat first | refine Below.setCell ?_ (by first | omega | (dsimp only; omega) | (simp only [heap_drew, World.size_alloc, Gz.size_setCell]; omega)) _ | refine Below.alloc ?_ (by first | omega | (dsimp only; omega) | (simp only [heap_drew, World.size_alloc, Gz.size_setCell]; omega)) _ | refine Below.drew ?_); exact Below.refl _ _)
  have k1 : Blk w1 w.heap.size [.int .u64 i, .int .u64 t, .slice D p f] := by rw [hw1]; exact ((Blk.new w _ _ _ rfl).alloc _).alloc _
  have k2 : Blk w1 (w.heap.size + 1) [x0, x1, x2, x3, .int .u64 i, .int .u64 t, x6, x7, x8, .int .u64 k, x10, x11, .slice M q e, .bool done] := by rw [hw1]; exact (Blk.new _ _ _ _ (by simp)).alloc _
  have k3 : Blk w1 (w.heap.size + 2) [.int .u64 0, .int .u64 0, .slice none 0 0] := by rw [hw1]; exact Blk.new _ _ _ _ (by simp)
  have hz1 : w.heap.size + 3 ≤ w1.heap.size := by rw [hw1]; simp
  clear hw1
  refine (clone_bytes D p p z w1 (H.out.below hb1) (by omega)).mono ?_
  rintro r w2 ⟨hb2, A2, c2, rfl, ho2⟩
  have k1 := k1.ext hb2
  have k2 := k2.ext hb2
  have k3 := k3.ext hb2
  have hb12 := hb1.trans (hb2.mono hb1.size)
  have hz2 := hb2.size
  go_wp2_with (with_reducible refine stop_store ?_)
  refine hide (wpList_store_part rfl 26 (.tmp 35) (.tmp 34) rfl w.heap.size 2 _ [.slice A2 p c2] rfl rfl rfl _ k1 (by simp) (by kernel_rfl) rfl [.int .u64 i, .int .u64 t, .slice A2 p c2] rfl ?_)
  intro w3 k1 hg3 hz3
  have k2 := k2.grown hg3 (by intro h; injection h with h; omega)
  have k3 := k3.grown hg3 (by intro h; injection h with h; omega)
  have ho3 := ho2.grown hg3 (by intro g hg; injection hg with hg; omega)
  have hb13 : Below w.heap.size w w3 := hb12.grown hg3 (by omega) (by intro g hg; injection hg with hg; omega)
  clear ho2 hg3 hb2 hb12
  have c1 := k1.cell
  have c2' := k2.cell
  by_cases hk : k = (p : Nat)
  · have hR : tookN k p q = (p + q) := by simp [tookN, hk]
    have hL : tookL k z y = z ++ y := by simp [tookL, hk, SlA.len H.out]
    have hd : (decide (k = (p : Nat)) && done) = done := by simp [hk]
    subst hk
    have HR := hide hR
    have HL := hide hL
    have HD := hide hd
    clear hR hL hd
    go_wp2_with (first | (with_reducible refine stop_store ?_) | at_builtin; refine wpList_append_own_sl rfl (.tmp 44) (.tmp 46) 26 rfl w1.heap.size 5 i0 (.int .u8 0) 1 1 Try.underlying26 hi hz0 hz1' hz2' rfl (by omega) A2 p c2 (nums .u8 z) rfl ho3 M q e (nums .u8 y) rfl (HM.out.below hb13) (oneCell_nums _ _) (by omega) (by omega) (by omega) ?_; intro A4 c4 w4 ho4 hb4 hg4)
    (try rw [Nat.zero_add] at ho4)
    have k1 := k1.below hb4 (by omega)
    have k2 := k2.below hb4 (by omega)
    have k3 := k3.below hb4 (by omega)
    have hz4 := hb4.size
    have hb14 := hb13.trans (hb4.mono (by omega))
    clear c1 c2'
    refine hide (wpList_store_part rfl 26 (.tmp 48) (.tmp 47) rfl w.heap.size 2 _ [.slice A4 (p + q) c4] rfl rfl rfl _ k1 (by simp) (by kernel_rfl) rfl [.int .u64 i, .int .u64 t, .slice A4 (p + q) c4] rfl ?_)
    intro w5 k1 hg5 hz5
    have k2 := k2.grown hg5 (by intro h; injection h with h; omega)
    have k3 := k3.grown hg5 (by intro h; injection h with h; omega)
    have ho5 := ho4.grown hg5 (by intro g hg; injection hg with hg; omega)
    have hb15 : Below w.heap.size w w5 := hb14.grown hg5 (by omega) (by intro g hg; injection hg with hg; omega)
    clear ho4 hg5 hb14 hg4 hb4 ho3
    have c1 := k1.cell
    have c2' := k2.cell
    go_wp2_with fail
    refine wp_region_held_drew (S := Sto w5 (w.heap.size + 2) 3) (by kernel_rfl) (Sto.start k3 rfl) (fun hS => ?_)
    simp only [List.size_toArray, List.length_cons, List.length_nil]
    refine take_at (i := 0) (oi := _) (dst := some 49) (v := ?_) rfl rfl (by kernel_rfl) (by kernel_rfl) (by kernel_rfl) (fun _ _ _ h => h) (Or.inl ⟨by rfl, by intro w hSw; (try dsimp only at hSw); go_simp; (try with_reducible rfl)⟩) (by assumption) ?_; (try simp only [Act.put, List.setIfInBounds_toArray, List.set_cons_zero, List.set_cons_succ])
    refine take_at (i := 1) (oi := _) (dst := some 50) (v := ?_) rfl rfl (by kernel_rfl) (by kernel_rfl) (by kernel_rfl) (fun _ _ _ h => h) (Or.inl ⟨by rfl, by intro w hSw; (try dsimp only at hSw); go_simp; (try with_reducible rfl)⟩) (by assumption) ?_; (try simp only [Act.put, List.setIfInBounds_toArray, List.set_cons_zero, List.set_cons_succ])
    refine take_at (i := 2) (oi := _) (dst := some 51) (v := ?_) rfl rfl (by kernel_rfl) (by kernel_rfl) (by kernel_rfl) (fun _ _ _ h => h) (Or.inl ⟨by rfl, by intro w hSw; (try dsimp only at hSw); go_simp; (try with_reducible rfl)⟩) (by assumption) ?_; (try simp only [Act.put, List.setIfInBounds_toArray, List.set_cons_zero, List.set_cons_succ])
    refine wpAnyH_ready (rs := [3]) (by kernel_rfl) (by simp) ?_; refine AllReadyH.cons (o := _) rfl (fun K hK => ?_) AllReadyH.nil
    refine step_store_part rfl rfl 43 (.tmp 4) (.tmp 49) rfl (w.heap.size + 2) 0 _ [.int .u64 i, .int .u64 t, .slice A4 (p + q) c4] rfl rfl rfl _ k3.drew (by simp) (by kernel_rfl) rfl _ rfl ?_
    intro w6 k6 hg6 hz6
    refine hK.out _ _ (hS.store hg6 k6 rfl) (fun hS6 => ?_)
    clear hK
    simp only [Act.put, List.setIfInBounds_toArray, List.set_cons_zero, List.set_cons_succ]
    refine take_at (i := 4) (oi := _) (dst := some 5) (v := ?_) rfl rfl (by kernel_rfl) (by kernel_rfl) (by kernel_rfl) (fun _ _ _ h => h) (Or.inl ⟨by rfl, by intro w hSw; (try dsimp only at hSw); go_simp; (try with_reducible rfl)⟩) (by assumption) ?_; (try simp only [Act.put, List.setIfInBounds_toArray, List.set_cons_zero, List.set_cons_succ])
    refine wpAnyH_done (by kernel_rfl) ?_ _
    go_wp2
    simp only [heap_drew] at hz6
    refine bodyPost_ret (v := .tuple #[.agg #[.int .u64 i, .int .u64 t, .slice A4 (p + q) c4], .bool done]) ?_ rfl ⟨?_, A4, c4, by rw [HR.out], ?_⟩
    · simp [results, Try.results15, go_sem, k6.cell]
    · exact hb15.drew.grown hg6 (by simp only [heap_drew]; omega) (by intro g hg; injection hg with hg; omega)
    · rw [HR.out, HL.out]
      have e : nums .u8 z ++ nums .u8 y = nums .u8 (z ++ y) := by simp [nums]
      rw [e] at ho5
      exact ((Own.drew ho5).grown hg6 (by intro g hg; injection hg with hg; omega)).lower (by omega)
  · have hR : tookN k p q = p := by simp [tookN, hk]
    have hL : tookL k z y = z := by simp [tookL, hk, SlA.len H.out]
    have hd : (decide (k = (p : Nat)) && done) = false := by simp [hk]
    have HR := hide hR
    have HL := hide hL
    have HD := hide hd
    clear hR hL hd
    go_wp2_with (with_reducible refine stop_store ?_)
    refine hide (wpList_store_blk rfl 43 (.tmp 4) (.tmp 42) rfl (w.heap.size + 2) [.int .u64 i, .int .u64 t, .slice A2 p c2] rfl rfl _ k3 rfl (by kernel_rfl) rfl ?_)
    intro w6 k6 hg6 hz6
    go_wp2
    refine bodyPost_ret (v := .tuple #[.agg #[.int .u64 i, .int .u64 t, .slice A2 p c2], .bool false]) ?_ rfl ⟨?_, A2, c2, by rw [HR.out, HD.out], ?_⟩
    · simp [results, Try.results15, go_sem, k6.cell]
    · exact hb13.grown hg6 (by omega) (by intro g hg; injection hg with hg; omega)
    · rw [HR.out, HL.out]
      exact (ho3.grown hg6 (by intro g hg; injection hg with hg; omega)).lower (by omega)

set_option maxHeartbeats 1600000 in
theorem take_other1 (x0 x1 x2 x3 x6 x7 x8 x10 x11 : Value) (pi pt i t k : Int) (hne : ¬ pi = i) (D M : Option Addr) (p f q e : Nat) (done : Bool) (y : List Int) (w : World) (hm : SlA w 1 M q (nums .u8 y)) (hs : q ≤ 140737488355328) :
    Calls Try.prog 15 #[.agg #[.int .u64 pi, .int .u64 pt, .slice D p f], .agg (msgV x0 x1 x2 x3 x6 x7 x8 x10 x11 i t k M q e done).toArray] w fun r w' => Below w.heap.size w w' ∧
      ∃ D' f', r = .returned (.tuple #[.agg #[.int .u64 i, .int .u64 t, .slice D' (tookN k 0 q) f'], .bool (decide (k = 0) && done)]) ∧ Own w' w.heap.size 5 1 D' (tookN k 0 q) f' (nums .u8 (tookL k [] y)) := by
  obtain ⟨i0, hi, hz0, hz1', hz2'⟩ := info_parts infoU8
  have H := Lib.hid (slNone w)
  have HM := Lib.hid hm
  clear hm
  have hsl := run_slice_high_max (P := Try.prog) 26 5 i0 Try.underlying26 hi .i64 .i64 none 0 0 0 0 (Nat.le_refl _) (Nat.le_refl _)
  unfold msgV
  go_enter Try.func15, Try.ntmps15
  go_wp2_with (with_reducible refine stop_store ?_)
  refine hide (name_list (fun w0 hw0 => ?_))
  have hb0 : Below w.heap.size w w0 := by rw [hw0]; exact (by (repeat first | refine Below.setCell ?_ (by first | omega | (dsimp only; omega) | (simp only [heap_drew, World.size_alloc, Gz.size_setCell]; omega)) _ | refine Below.alloc ?_ (by first | omega | (dsimp only; omega) | (simp only [heap_drew, World.size_alloc, Gz.size_setCell]; omega)) _ | refine Below.drew ?_); exact Below.refl _ _)
  have k1 : Blk w0 w.heap.size [.int .u64 pi, .int .u64 pt, .slice D p f] := by rw [hw0]; exact ((Blk.new w _ _ _ rfl).alloc _).alloc _
  have k2 : Blk w0 (w.heap.size + 1) [x0, x1, x2, x3, .int .u64 i, .int .u64 t, x6, x7, x8, .int .u64 k, x10, x11, .slice M q e, .bool done] := by rw [hw0]; exact (Blk.new _ _ _ _ (by simp)).alloc _
  have k3 : Blk w0 (w.heap.size + 2) [.int .u64 0, .int .u64 0, .slice none 0 0] := by rw [hw0]; exact Blk.new _ _ _ _ (by simp)
  have hz0w : w.heap.size + 3 ≤ w0.heap.size := by rw [hw0]; simp
  clear hw0
  refine wpList_store_blk rfl 43 (.tmp 2) (.tmp 23) rfl w.heap.size [.int .u64 i, .int .u64 t, .slice none 0 0] rfl rfl _ k1 rfl (by kernel_rfl) rfl ?_
  intro w1 k1 hg1 hz1w
  have k2 := k2.grown hg1 (by intro h; injection h with h; omega)
  have k3 := k3.grown hg1 (by intro h; injection h with h; omega)
  have hb1 : Below w.heap.size w w1 := hb0.grown hg1 (by omega) (by intro g hg; injection hg with hg; omega)
  have hz1 : w.heap.size + 3 ≤ w1.heap.size := by omega
  clear hb0 hg1
  have c1 := k1.cell
  have c2' := k2.cell
  go_wp2_with fail
  clear c1 c2'
  refine (clone_bytes none 0 0 [] w1 (H.out.below hb1) (by omega)).mono ?_
  rintro r w2 ⟨hb2, A2, c2, rfl, ho2⟩
  have k1 := k1.ext hb2
  have k2 := k2.ext hb2
  have k3 := k3.ext hb2
  have hb12 := hb1.trans (hb2.mono hb1.size)
  have hz2 := hb2.size
  go_wp2_with (with_reducible refine stop_store ?_)
  refine hide (wpList_store_part rfl 26 (.tmp 35) (.tmp 34) rfl w.heap.size 2 _ [.slice A2 0 c2] rfl rfl rfl _ k1 (by simp) (by kernel_rfl) rfl [.int .u64 i, .int .u64 t, .slice A2 0 c2] rfl ?_)
  intro w3 k1 hg3 hz3
  have k2 := k2.grown hg3 (by intro h; injection h with h; omega)
  have k3 := k3.grown hg3 (by intro h; injection h with h; omega)
  have ho3 := ho2.grown hg3 (by intro g hg; injection hg with hg; omega)
  have hb13 : Below w.heap.size w w3 := hb12.grown hg3 (by omega) (by intro g hg; injection hg with hg; omega)
  clear ho2 hg3 hb2 hb12
  have c1 := k1.cell
  have c2' := k2.cell
  by_cases hk : k = 0
  · have hR : tookN k 0 q = q := by simp [tookN, hk]
    have hL : tookL k [] y = [] ++ y := by simp [tookL, hk, SlA.len H.out]
    have hd : (decide (k = 0) && done) = done := by simp [hk]
    subst hk
    have HR := hide hR
    have HL := hide hL
    have HD := hide hd
    clear hR hL hd
    go_wp2_with (first | (with_reducible refine stop_store ?_) | at_builtin; refine wpList_append_own_sl rfl (.tmp 44) (.tmp 46) 26 rfl w1.heap.size 5 i0 (.int .u8 0) 1 1 Try.underlying26 hi hz0 hz1' hz2' rfl (by omega) A2 0 c2 (nums .u8 []) rfl ho3 M q e (nums .u8 y) rfl (HM.out.below hb13) (oneCell_nums _ _) (by omega) (by omega) (by omega) ?_; intro A4 c4 w4 ho4 hb4 hg4)
    (try rw [Nat.zero_add] at ho4)
    have k1 := k1.below hb4 (by omega)
    have k2 := k2.below hb4 (by omega)
    have k3 := k3.below hb4 (by omega)
    have hz4 := hb4.size
    have hb14 := hb13.trans (hb4.mono (by omega))
    clear c1 c2'
    refine hide (wpList_store_part rfl 26 (.tmp 48) (.tmp 47) rfl w.heap.size 2 _ [.slice A4 q c4] rfl rfl rfl _ k1 (by simp) (by kernel_rfl) rfl [.int .u64 i, .int .u64 t, .slice A4 q c4] rfl ?_)
    intro w5 k1 hg5 hz5
    have k2 := k2.grown hg5 (by intro h; injection h with h; omega)
    have k3 := k3.grown hg5 (by intro h; injection h with h; omega)
    have ho5 := ho4.grown hg5 (by intro g hg; injection hg with hg; omega)
    have hb15 : Below w.heap.size w w5 := hb14.grown hg5 (by omega) (by intro g hg; injection hg with hg; omega)
    clear ho4 hg5 hb14 hg4 hb4 ho3
    have c1 := k1.cell
    have c2' := k2.cell
    go_wp2_with fail
    refine wp_region_held_drew (S := Sto w5 (w.heap.size + 2) 3) (by kernel_rfl) (Sto.start k3 rfl) (fun hS => ?_)
    simp only [List.size_toArray, List.length_cons, List.length_nil]
    refine take_at (i := 0) (oi := _) (dst := some 49) (v := ?_) rfl rfl (by kernel_rfl) (by kernel_rfl) (by kernel_rfl) (fun _ _ _ h => h) (Or.inl ⟨by rfl, by intro w hSw; (try dsimp only at hSw); go_simp; (try with_reducible rfl)⟩) (by assumption) ?_; (try simp only [Act.put, List.setIfInBounds_toArray, List.set_cons_zero, List.set_cons_succ])
    refine take_at (i := 1) (oi := _) (dst := some 50) (v := ?_) rfl rfl (by kernel_rfl) (by kernel_rfl) (by kernel_rfl) (fun _ _ _ h => h) (Or.inl ⟨by rfl, by intro w hSw; (try dsimp only at hSw); go_simp; (try with_reducible rfl)⟩) (by assumption) ?_; (try simp only [Act.put, List.setIfInBounds_toArray, List.set_cons_zero, List.set_cons_succ])
    refine take_at (i := 2) (oi := _) (dst := some 51) (v := ?_) rfl rfl (by kernel_rfl) (by kernel_rfl) (by kernel_rfl) (fun _ _ _ h => h) (Or.inl ⟨by rfl, by intro w hSw; (try dsimp only at hSw); go_simp; (try with_reducible rfl)⟩) (by assumption) ?_; (try simp only [Act.put, List.setIfInBounds_toArray, List.set_cons_zero, List.set_cons_succ])
    refine wpAnyH_ready (rs := [3]) (by kernel_rfl) (by simp) ?_; refine AllReadyH.cons (o := _) rfl (fun K hK => ?_) AllReadyH.nil
    refine step_store_part rfl rfl 43 (.tmp 4) (.tmp 49) rfl (w.heap.size + 2) 0 _ [.int .u64 i, .int .u64 t, .slice A4 q c4] rfl rfl rfl _ k3.drew (by simp) (by kernel_rfl) rfl _ rfl ?_
    intro w6 k6 hg6 hz6
    refine hK.out _ _ (hS.store hg6 k6 rfl) (fun hS6 => ?_)
    clear hK
    simp only [Act.put, List.setIfInBounds_toArray, List.set_cons_zero, List.set_cons_succ]
    refine take_at (i := 4) (oi := _) (dst := some 5) (v := ?_) rfl rfl (by kernel_rfl) (by kernel_rfl) (by kernel_rfl) (fun _ _ _ h => h) (Or.inl ⟨by rfl, by intro w hSw; (try dsimp only at hSw); go_simp; (try with_reducible rfl)⟩) (by assumption) ?_; (try simp only [Act.put, List.setIfInBounds_toArray, List.set_cons_zero, List.set_cons_succ])
    refine wpAnyH_done (by kernel_rfl) ?_ _
    go_wp2
    simp only [heap_drew] at hz6
    refine bodyPost_ret (v := .tuple #[.agg #[.int .u64 i, .int .u64 t, .slice A4 q c4], .bool done]) ?_ rfl ⟨?_, A4, c4, by rw [HR.out], ?_⟩
    · simp [results, Try.results15, go_sem, k6.cell]
    · exact hb15.drew.grown hg6 (by simp only [heap_drew]; omega) (by intro g hg; injection hg with hg; omega)
    · rw [HR.out, HL.out]
      have e : nums .u8 [] ++ nums .u8 y = nums .u8 ([] ++ y) := by simp [nums]
      rw [e] at ho5
      exact ((Own.drew ho5).grown hg6 (by intro g hg; injection hg with hg; omega)).lower (by omega)
  · have hR : tookN k 0 q = 0 := by simp [tookN, hk]
    have hL : tookL k [] y = [] := by simp [tookL, hk, SlA.len H.out]
    have hd : (decide (k = 0) && done) = false := by simp [hk]
    have HR := hide hR
    have HL := hide hL
    have HD := hide hd
    clear hR hL hd
    go_wp2_with (with_reducible refine stop_store ?_)
    refine hide (wpList_store_blk rfl 43 (.tmp 4) (.tmp 42) rfl (w.heap.size + 2) [.int .u64 i, .int .u64 t, .slice A2 0 c2] rfl rfl _ k3 rfl (by kernel_rfl) rfl ?_)
    intro w6 k6 hg6 hz6
    go_wp2
    refine bodyPost_ret (v := .tuple #[.agg #[.int .u64 i, .int .u64 t, .slice A2 0 c2], .bool false]) ?_ rfl ⟨?_, A2, c2, by rw [HR.out, HD.out], ?_⟩
    · simp [results, Try.results15, go_sem, k6.cell]
    · exact hb13.grown hg6 (by omega) (by intro g hg; injection hg with hg; omega)
    · rw [HR.out, HL.out]
      exact (ho3.grown hg6 (by intro g hg; injection hg with hg; omega)).lower (by omega)
set_option maxHeartbeats 1600000 in
theorem take_other2 (x0 x1 x2 x3 x6 x7 x8 x10 x11 : Value) (pt i t k : Int) (hne : ¬ pt = t) (D M : Option Addr) (p f q e : Nat) (done : Bool) (y : List Int) (w : World) (hm : SlA w 1 M q (nums .u8 y)) (hs : q ≤ 140737488355328) :
    Calls Try.prog 15 #[.agg #[.int .u64 i, .int .u64 pt, .slice D p f], .agg (msgV x0 x1 x2 x3 x6 x7 x8 x10 x11 i t k M q e done).toArray] w fun r w' => Below w.heap.size w w' ∧
      ∃ D' f', r = .returned (.tuple #[.agg #[.int .u64 i, .int .u64 t, .slice D' (tookN k 0 q) f'], .bool (decide (k = 0) && done)]) ∧ Own w' w.heap.size 5 1 D' (tookN k 0 q) f' (nums .u8 (tookL k [] y)) := by
  obtain ⟨i0, hi, hz0, hz1', hz2'⟩ := info_parts infoU8
  have H := Lib.hid (slNone w)
  have HM := Lib.hid hm
  clear hm
  have hsl := run_slice_high_max (P := Try.prog) 26 5 i0 Try.underlying26 hi .i64 .i64 none 0 0 0 0 (Nat.le_refl _) (Nat.le_refl _)
  unfold msgV
  go_enter Try.func15, Try.ntmps15
  go_wp2_with (with_reducible refine stop_store ?_)
  refine hide (name_list (fun w0 hw0 => ?_))
  have hb0 : Below w.heap.size w w0 := by rw [hw0]; exact (by (repeat first | refine Below.setCell ?_ (by first | omega | (dsimp only; omega) | (simp only [heap_drew, World.size_alloc, Gz.size_setCell]; omega)) _ | refine Below.alloc ?_ (by first | omega | (dsimp only; omega) | (simp only [heap_drew, World.size_alloc, Gz.size_setCell]; omega)) _ | refine Below.drew ?_); exact Below.refl _ _)
  have k1 : Blk w0 w.heap.size [.int .u64 i, .int .u64 pt, .slice D p f] := by rw [hw0]; exact ((Blk.new w _ _ _ rfl).alloc _).alloc _
  have k2 : Blk w0 (w.heap.size + 1) [x0, x1, x2, x3, .int .u64 i, .int .u64 t, x6, x7, x8, .int .u64 k, x10, x11, .slice M q e, .bool done] := by rw [hw0]; exact (Blk.new _ _ _ _ (by simp)).alloc _
  have k3 : Blk w0 (w.heap.size + 2) [.int .u64 0, .int .u64 0, .slice none 0 0] := by rw [hw0]; exact Blk.new _ _ _ _ (by simp)
  have hz0w : w.heap.size + 3 ≤ w0.heap.size := by rw [hw0]; simp
  clear hw0
  refine wpList_store_blk rfl 43 (.tmp 2) (.tmp 23) rfl w.heap.size [.int .u64 i, .int .u64 t, .slice none 0 0] rfl rfl _ k1 rfl (by kernel_rfl) rfl ?_
  intro w1 k1 hg1 hz1w
  have k2 := k2.grown hg1 (by intro h; injection h with h; omega)
  have k3 := k3.grown hg1 (by intro h; injection h with h; omega)
  have hb1 : Below w.heap.size w w1 := hb0.grown hg1 (by omega) (by intro g hg; injection hg with hg; omega)
  have hz1 : w.heap.size + 3 ≤ w1.heap.size := by omega
  clear hb0 hg1
  have c1 := k1.cell
  have c2' := k2.cell
  go_wp2_with fail
  clear c1 c2'
  refine (clone_bytes none 0 0 [] w1 (H.out.below hb1) (by omega)).mono ?_
  rintro r w2 ⟨hb2, A2, c2, rfl, ho2⟩
  have k1 := k1.ext hb2
  have k2 := k2.ext hb2
  have k3 := k3.ext hb2
  have hb12 := hb1.trans (hb2.mono hb1.size)
  have hz2 := hb2.size
  go_wp2_with (with_reducible refine stop_store ?_)
  refine hide (wpList_store_part rfl 26 (.tmp 35) (.tmp 34) rfl w.heap.size 2 _ [.slice A2 0 c2] rfl rfl rfl _ k1 (by simp) (by kernel_rfl) rfl [.int .u64 i, .int .u64 t, .slice A2 0 c2] rfl ?_)
  intro w3 k1 hg3 hz3
  have k2 := k2.grown hg3 (by intro h; injection h with h; omega)
  have k3 := k3.grown hg3 (by intro h; injection h with h; omega)
  have ho3 := ho2.grown hg3 (by intro g hg; injection hg with hg; omega)
  have hb13 : Below w.heap.size w w3 := hb12.grown hg3 (by omega) (by intro g hg; injection hg with hg; omega)
  clear ho2 hg3 hb2 hb12
  have c1 := k1.cell
  have c2' := k2.cell
  by_cases hk : k = 0
  · have hR : tookN k 0 q = q := by simp [tookN, hk]
    have hL : tookL k [] y = [] ++ y := by simp [tookL, hk, SlA.len H.out]
    have hd : (decide (k = 0) && done) = done := by simp [hk]
    subst hk
    have HR := hide hR
    have HL := hide hL
    have HD := hide hd
    clear hR hL hd
    go_wp2_with (first | (with_reducible refine stop_store ?_) | at_builtin; refine wpList_append_own_sl rfl (.tmp 44) (.tmp 46) 26 rfl w1.heap.size 5 i0 (.int .u8 0) 1 1 Try.underlying26 hi hz0 hz1' hz2' rfl (by omega) A2 0 c2 (nums .u8 []) rfl ho3 M q e (nums .u8 y) rfl (HM.out.below hb13) (oneCell_nums _ _) (by omega) (by omega) (by omega) ?_; intro A4 c4 w4 ho4 hb4 hg4)
    (try rw [Nat.zero_add] at ho4)
    have k1 := k1.below hb4 (by omega)
    have k2 := k2.below hb4 (by omega)
    have k3 := k3.below hb4 (by omega)
    have hz4 := hb4.size
    have hb14 := hb13.trans (hb4.mono (by omega))
    clear c1 c2'
    refine hide (wpList_store_part rfl 26 (.tmp 48) (.tmp 47) rfl w.heap.size 2 _ [.slice A4 q c4] rfl rfl rfl _ k1 (by simp) (by kernel_rfl) rfl [.int .u64 i, .int .u64 t, .slice A4 q c4] rfl ?_)
    intro w5 k1 hg5 hz5
    have k2 := k2.grown hg5 (by intro h; injection h with h; omega)
    have k3 := k3.grown hg5 (by intro h; injection h with h; omega)
    have ho5 := ho4.grown hg5 (by intro g hg; injection hg with hg; omega)
    have hb15 : Below w.heap.size w w5 := hb14.grown hg5 (by omega) (by intro g hg; injection hg with hg; omega)
    clear ho4 hg5 hb14 hg4 hb4 ho3
    have c1 := k1.cell
    have c2' := k2.cell
    go_wp2_with fail
    refine wp_region_held_drew (S := Sto w5 (w.heap.size + 2) 3) (by kernel_rfl) (Sto.start k3 rfl) (fun hS => ?_)
    simp only [List.size_toArray, List.length_cons, List.length_nil]
    refine take_at (i := 0) (oi := _) (dst := some 49) (v := ?_) rfl rfl (by kernel_rfl) (by kernel_rfl) (by kernel_rfl) (fun _ _ _ h => h) (Or.inl ⟨by rfl, by intro w hSw; (try dsimp only at hSw); go_simp; (try with_reducible rfl)⟩) (by assumption) ?_; (try simp only [Act.put, List.setIfInBounds_toArray, List.set_cons_zero, List.set_cons_succ])
    refine take_at (i := 1) (oi := _) (dst := some 50) (v := ?_) rfl rfl (by kernel_rfl) (by kernel_rfl) (by kernel_rfl) (fun _ _ _ h => h) (Or.inl ⟨by rfl, by intro w hSw; (try dsimp only at hSw); go_simp; (try with_reducible rfl)⟩) (by assumption) ?_; (try simp only [Act.put, List.setIfInBounds_toArray, List.set_cons_zero, List.set_cons_succ])
    refine take_at (i := 2) (oi := _) (dst := some 51) (v := ?_) rfl rfl (by kernel_rfl) (by kernel_rfl) (by kernel_rfl) (fun _ _ _ h => h) (Or.inl ⟨by rfl, by intro w hSw; (try dsimp only at hSw); go_simp; (try with_reducible rfl)⟩) (by assumption) ?_; (try simp only [Act.put, List.setIfInBounds_toArray, List.set_cons_zero, List.set_cons_succ])
    refine wpAnyH_ready (rs := [3]) (by kernel_rfl) (by simp) ?_; refine AllReadyH.cons (o := _) rfl (fun K hK => ?_) AllReadyH.nil
    refine step_store_part rfl rfl 43 (.tmp 4) (.tmp 49) rfl (w.heap.size + 2) 0 _ [.int .u64 i, .int .u64 t, .slice A4 q c4] rfl rfl rfl _ k3.drew (by simp) (by kernel_rfl) rfl _ rfl ?_
    intro w6 k6 hg6 hz6
    refine hK.out _ _ (hS.store hg6 k6 rfl) (fun hS6 => ?_)
    clear hK
    simp only [Act.put, List.setIfInBounds_toArray, List.set_cons_zero, List.set_cons_succ]
    refine take_at (i := 4) (oi := _) (dst := some 5) (v := ?_) rfl rfl (by kernel_rfl) (by kernel_rfl) (by kernel_rfl) (fun _ _ _ h => h) (Or.inl ⟨by rfl, by intro w hSw; (try dsimp only at hSw); go_simp; (try with_reducible rfl)⟩) (by assumption) ?_; (try simp only [Act.put, List.setIfInBounds_toArray, List.set_cons_zero, List.set_cons_succ])
    refine wpAnyH_done (by kernel_rfl) ?_ _
    go_wp2
    simp only [heap_drew] at hz6
    refine bodyPost_ret (v := .tuple #[.agg #[.int .u64 i, .int .u64 t, .slice A4 q c4], .bool done]) ?_ rfl ⟨?_, A4, c4, by rw [HR.out], ?_⟩
    · simp [results, Try.results15, go_sem, k6.cell]
    · exact hb15.drew.grown hg6 (by simp only [heap_drew]; omega) (by intro g hg; injection hg with hg; omega)
    · rw [HR.out, HL.out]
      have e : nums .u8 [] ++ nums .u8 y = nums .u8 ([] ++ y) := by simp [nums]
      rw [e] at ho5
      exact ((Own.drew ho5).grown hg6 (by intro g hg; injection hg with hg; omega)).lower (by omega)
  · have hR : tookN k 0 q = 0 := by simp [tookN, hk]
    have hL : tookL k [] y = [] := by simp [tookL, hk, SlA.len H.out]
    have hd : (decide (k = 0) && done) = false := by simp [hk]
    have HR := hide hR
    have HL := hide hL
    have HD := hide hd
    clear hR hL hd
    go_wp2_with (with_reducible refine stop_store ?_)
    refine hide (wpList_store_blk rfl 43 (.tmp 4) (.tmp 42) rfl (w.heap.size + 2) [.int .u64 i, .int .u64 t, .slice A2 0 c2] rfl rfl _ k3 rfl (by kernel_rfl) rfl ?_)
    intro w6 k6 hg6 hz6
    go_wp2
    refine bodyPost_ret (v := .tuple #[.agg #[.int .u64 i, .int .u64 t, .slice A2 0 c2], .bool false]) ?_ rfl ⟨?_, A2, c2, by rw [HR.out, HD.out], ?_⟩
    · simp [results, Try.results15, go_sem, k6.cell]
    · exact hb13.grown hg6 (by omega) (by intro g hg; injection hg with hg; omega)
    · rw [HR.out, HL.out]
      exact (ho3.grown hg6 (by intro g hg; injection hg with hg; omega)).lower (by omega)
end Go.Proofs.Ytmjohallhdcdnaa

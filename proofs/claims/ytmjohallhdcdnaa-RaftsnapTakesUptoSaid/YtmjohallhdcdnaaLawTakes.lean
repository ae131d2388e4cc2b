/- RaftsnapTakes: the law's walk. -/
import Derived.Test.YtmjohallhdcdnaaTakeRef
import Derived.Test.YtmjohallhdcdnaaWholeFn
import Derived.Test.YtmjohallhdcdnaaMany
import Derived.Deep.DeepCutAuto
namespace Go.Gz
open Go.RowKit
theorem below_grown {B : Nat} {w w1 w' : World} {g : Nat} (h : Below B w w1) (hg : w1.grownBy w' (some g)) (hB : B ≤ g) (hl : g < w1.heap.size) : Below B w w' := h.grown hg (by omega) (fun k hk => by injection hk with hk; omega)
theorem blk_grown {w w' : World} {g g' : Nat} {cs : List Value} (h : Blk w g cs) (hg : w.grownBy w' (some g')) (hne : ¬ g = g') : Blk w' g cs := h.grown hg (fun e => hne (by injection e))
theorem below_alloc_one (w : World) (o : Obj) : Below w.heap.size w (w.alloc o) := (Below.refl _ _).alloc (Nat.le_refl _) o
/-- A slice that does not lie in a block. -/
def Far (A : Option Addr) (n g : Nat) : Prop := 0 < n → ∀ ad, A = some ad → ad.block ≠ g
theorem SlA.block_lt {w : World} {n : Nat} {ad : Addr} {xs : List Value} (h : SlA w 1 (some ad) n xs) (hn : 0 < n) : ad.block < w.heap.size := by
  have hl := h.1
  have := h.2.2 ad rfl 0 (xs[0]'(by omega)) (List.getElem?_eq_getElem (by omega))
  rw [Addr.add_zero'] at this
  exact World.block_lt_of_cell? _ ad this
theorem SlA.grown_far {w w' : World} {n g : Nat} {A : Option Addr} {xs : List Value} (h : SlA w 1 A n xs) (hg : w.grownBy w' (some g)) (hf : Far A n g) : SlA w' 1 A n xs :=
  ⟨h.1, h.2.1, fun ad e j u hu => by
    have hj := (List.getElem?_eq_some_iff.1 hu).1
    have hl := h.1
    have hc := h.2.2 ad e j u hu
    have hb : (ad.add j).block = ad.block := by cases j <;> simp [Addr.add]
    have hlt := World.block_lt_of_cell? _ _ hc
    rw [← hc]
    exact World.cell?_of_block (hg.block (ad.add j).block hlt (fun e' => hf (by omega) ad e (by rw [← hb]; injection e')))⟩
theorem far_lt {w : World} {A : Option Addr} {n g : Nat} {xs : List Value} (h : SlA w 1 A n xs) (hg : w.heap.size ≤ g) : Far A n g := fun hn ad e => by
  subst e
  have := h.block_lt hn
  omega
theorem far_own {w : World} {A : Option Addr} {base n c g : Nat} {e : TypeId} {xs : List Value} (h : Own w base e 1 A n c xs) (hg : g < base) : Far A n g := fun hn ad e => by
  obtain ⟨g', h1, h2, _⟩ := h.addr hn
  rw [h1] at e
  injection e with e
  subst e
  dsimp only; omega
theorem flat_cell {w : World} {k n : Nat} {ad : Addr} {l : List (List Value)} (h : SlA w k (some ad) n (l.flatMap fun y => y)) (hk : ∀ y ∈ l, y.length = k) {j : Nat} (hj : j < l.length) (r : Nat) (hr : r < k) : w.cell? (ad.add (j * k + r)) = (l[j])[r]? := by
  have e := flat_at (fun y : List Value => y) k l hk j r hj hr
  have hl : r < (l[j]).length := by rw [hk _ (List.getElem_mem hj)]; exact hr
  rw [List.getElem?_eq_getElem hl] at e ⊢
  exact h.2.2 ad rfl _ _ e
theorem add_of (ad : Addr) (m k : Nat) (hk : 0 < k) : (⟨(ad.add m).block, (ad.add m).off + k, none⟩ : Addr) = ad.add (m + k) := by
  obtain ⟨b, o, s⟩ := ad
  cases k with
  | zero => omega
  | succ k => cases m <;> simp [Addr.add] <;> omega
end Go.Gz
namespace Go.Proofs.Ytmjohallhdcdnaa
open Go.RowKit Go.Gz
attribute [local go_sem] World.cell?_alloc_some frozen?_alloc_some

/-- What has come, at the start: copied. -/
def Start (w2 wx : World) (pi pt : Int) (z : List Int) (s8 : Value) : Prop := ∃ g D f, s8 = .pointer (some ⟨g, 0, none⟩) ∧ w2.heap.size ≤ g ∧ Below w2.heap.size w2 wx ∧ Blk wx g [.int .u64 pi, .int .u64 pt, .slice D z.length f] ∧ SlA wx 1 D z.length (nums .u8 z) ∧ z.length ≤ f ∧ Far D z.length g
/-- What has come, by both. -/
def Both (wB wr : World) (B g8 g9 tot : Nat) : Prop := Below B wB wr ∧ wB.heap.size ≤ wr.heap.size ∧ ∃ ci ct D f D' f' zs, Blk wr g8 [.int .u64 ci, .int .u64 ct, .slice D (List.length zs) f] ∧ Blk wr g9 [.int .u64 ci, .int .u64 ct, .slice D' zs.length f'] ∧ SlA wr 1 D zs.length (nums .u8 zs) ∧ SlA wr 1 D' zs.length (nums .u8 zs) ∧
  zs.length ≤ f ∧ zs.length ≤ f' ∧ Far D zs.length g8 ∧ Far D zs.length g9 ∧ Far D' zs.length g8 ∧ Far D' zs.length g9 ∧ zs.length ≤ tot
/-- A message taken. -/
def TookAt (wr wx : World) (i t : Int) (dn : Bool) (zs : List Int) (s11 s12 : Value) : Prop := ∃ g D f, s11 = .pointer (some ⟨g, 0, none⟩) ∧ s12 = .bool dn ∧ wr.heap.size ≤ g ∧ Below wr.heap.size wr wx ∧ Blk wx g [.int .u64 i, .int .u64 t, .slice D zs.length f] ∧ SlA wx 1 D zs.length (nums .u8 zs) ∧ zs.length ≤ f ∧
  ∀ g', g' < wr.heap.size → Far D zs.length g'
/-- A message that came in. -/
def MsgOk (w : World) (cs : List Value) : Prop := ∃ x0 x1 x2 x3 x6 x7 x8 x10 x11 i t k M q e done y, cs = msgV x0 x1 x2 x3 x6 x7 x8 x10 x11 i t k M q e done ∧ SlA w 1 M q (nums .u8 y) ∧ q ≤ 1048576
def zeroCome : List Value := [.int .u64 0, .int .u64 0, .slice none 0 0]

theorem msg_cells {wz : World} {ad : Addr} {m : Nat} {x0 x1 x2 x3 x6 x7 x8 x10 x11 : Value} {i t k : Int} {M : Option Addr} {q e : Nat} {done : Bool} (cm : ∀ r, r < 14 → wz.cell? (ad.add (m + r)) = (msgV x0 x1 x2 x3 x6 x7 x8 x10 x11 i t k M q e done)[r]?) :
    wz.cell? (ad.add m) = some (x0) ∧ wz.cell? ⟨(ad.add m).block, (ad.add m).off + 1, none⟩ = some (x1) ∧ wz.cell? ⟨(ad.add m).block, (ad.add m).off + 2, none⟩ = some (x2) ∧ wz.cell? ⟨(ad.add m).block, (ad.add m).off + 3, none⟩ = some (x3) ∧ wz.cell? ⟨(ad.add m).block, (ad.add m).off + 4, none⟩ = some (.int .u64 i) ∧ wz.cell? ⟨(ad.add m).block, (ad.add m).off + 5, none⟩ = some (.int .u64 t) ∧ wz.cell? ⟨(ad.add m).block, (ad.add m).off + 6, none⟩ = some (x6) ∧ wz.cell? ⟨(ad.add m).block, (ad.add m).off + 7, none⟩ = some (x7) ∧ wz.cell? ⟨(ad.add m).block, (ad.add m).off + 8, none⟩ = some (x8) ∧ wz.cell? ⟨(ad.add m).block, (ad.add m).off + 9, none⟩ = some (.int .u64 k) ∧ wz.cell? ⟨(ad.add m).block, (ad.add m).off + 10, none⟩ = some (x10) ∧ wz.cell? ⟨(ad.add m).block, (ad.add m).off + 11, none⟩ = some (x11) ∧ wz.cell? ⟨(ad.add m).block, (ad.add m).off + 12, none⟩ = some (.slice M q e) ∧ wz.cell? ⟨(ad.add m).block, (ad.add m).off + 13, none⟩ = some (.bool done) :=
  ⟨cm 0 (by omega), (congrArg wz.cell? (add_of ad m 1 (by omega))).trans (cm 1 (by omega)), (congrArg wz.cell? (add_of ad m 2 (by omega))).trans (cm 2 (by omega)), (congrArg wz.cell? (add_of ad m 3 (by omega))).trans (cm 3 (by omega)), (congrArg wz.cell? (add_of ad m 4 (by omega))).trans (cm 4 (by omega)), (congrArg wz.cell? (add_of ad m 5 (by omega))).trans (cm 5 (by omega)), (congrArg wz.cell? (add_of ad m 6 (by omega))).trans (cm 6 (by omega)), (congrArg wz.cell? (add_of ad m 7 (by omega))).trans (cm 7 (by omega)), (congrArg wz.cell? (add_of ad m 8 (by omega))).trans (cm 8 (by omega)), (congrArg wz.cell? (add_of ad m 9 (by omega))).trans (cm 9 (by omega)), (congrArg wz.cell? (add_of ad m 10 (by omega))).trans (cm 10 (by omega)), (congrArg wz.cell? (add_of ad m 11 (by omega))).trans (cm 11 (by omega)), (congrArg wz.cell? (add_of ad m 12 (by omega))).trans (cm 12 (by omega)), (congrArg wz.cell? (add_of ad m 13 (by omega))).trans (cm 13 (by omega))⟩
theorem taken_le (pi pt i t k : Int) (z y : List Int) : (taken pi pt i t k z y).length ≤ z.length + y.length := by
  have := hadL_le pi pt i t z
  unfold taken tookL
  split
  · simp; omega
  · omega


set_option maxHeartbeats 4000000 in
set_option maxRecDepth 100000 in
theorem lawTakes_any (pi pt : Int) (A B D L : Option Addr) (na ca mb db f n c : Nat) (l k' z : List Int) (ms : List (List Value)) (w : World) (h : SlA w 1 D z.length (nums .u8 z)) (hpf : z.length ≤ f) (hp : z.length ≤ 1048576)
    (hL : SlA w 14 L n (ms.flatMap fun y => y)) (hml : ∀ y ∈ ms, y.length = 14) (hok : ∀ y ∈ ms, MsgOk w y) (hms : ms.length = n) (hn : n ≤ 1048576)
    (hc : IsConf w A B na mb l k') (hna : na * 8 ≤ 140737488355328) (hmb : mb * 8 ≤ 140737488355328) :
    Calls Try.prog 4 #[.agg #[.int .u64 pi, .int .u64 pt, .slice D z.length f], .slice L n c, .agg #[.slice A na ca, .slice B mb db]] w fun e w' => e = .returned (.bool true) ∧ Below w.heap.size w w' := by
  obtain ⟨i0, hi, hz0, hz1', hz2'⟩ := info_parts infoU8
  have H := Lib.hid h
  have HL := Lib.hid hL
  have HML := Lib.hid hml
  have HOK := Lib.hid hok
  have HC := Lib.hid hc
  clear h hL hml hok hc
  go_enter Try.func4, Try.ntmps4
  go_wp2_with fail
  refine name_calls (fun w1 hw1 => ?_)
  have k3 : Blk w1 w.heap.size [.int .u64 pi, .int .u64 pt, .slice D z.length f] := by rw [hw1]; exact (Blk.new _ _ _ _ rfl).alloc _
  have k5 : Blk w1 (w.heap.size + 1) [.slice A na ca, .slice B mb db] := by rw [hw1]; exact Blk.new _ _ _ _ (by simp)
  have hb1 : Below w.heap.size w w1 := by rw [hw1]; exact (by (repeat first | refine Below.setCell ?_ (by first | omega | (dsimp only; omega) | (simp only [heap_drew, World.size_alloc, Gz.size_setCell]; omega)) _ | refine Below.alloc ?_ (by first | omega | (dsimp only; omega) | (simp only [heap_drew, World.size_alloc, Gz.size_setCell]; omega)) _ | refine Below.drew ?_); exact Below.refl _ _)
  have hz1 : w.heap.size + 2 ≤ w1.heap.size := by rw [hw1]; simp
  clear hw1
  refine (head_any w1).mono ?_
  rintro e w2 ⟨rfl, hb2⟩
  have k3 := k3.ext hb2
  have k5 := k5.ext hb2
  have hz2 := hb2.size
  have hb2 := hb1.trans (hb2.mono hb1.size)
  have c3 := k3.cell
  go_upto_region 2 with fail
  go_cut [8] (fun s8 wx => Start w2 wx pi pt z s8)
  case first =>
    go_wp2_with fail
    refine wp_region_held_drew (S := Ext w2) (by kernel_rfl) Ext.start (fun hS => ?_)
    simp only [List.size_toArray, List.length_cons, List.length_nil]
    refine take_at (i := 0) (oi := _) (dst := some 18) (v := ?_) rfl rfl (by kernel_rfl) (by kernel_rfl) (by kernel_rfl) (fun _ _ _ h => h) (Or.inl ⟨by rfl, by intro w hSw; (try dsimp only at hSw); go_simp; (try with_reducible rfl)⟩) (by assumption) ?_; (try simp only [Act.put, List.setIfInBounds_toArray, List.set_cons_zero, List.set_cons_succ])
    refine take_at (i := 1) (oi := _) (dst := some 19) (v := ?_) rfl rfl (by kernel_rfl) (by kernel_rfl) (by kernel_rfl) (fun _ _ _ h => h) (Or.inl ⟨by rfl, by intro w hSw; (try dsimp only at hSw); go_simp; (try with_reducible rfl)⟩) (by assumption) ?_; (try simp only [Act.put, List.setIfInBounds_toArray, List.set_cons_zero, List.set_cons_succ])
    refine take_at (i := 2) (oi := _) (dst := some 20) (v := ?_) rfl rfl (by kernel_rfl) (by kernel_rfl) (by kernel_rfl) (fun _ _ _ h => h) (Or.inl ⟨by rfl, by intro w hSw; (try dsimp only at hSw); go_simp; (try with_reducible rfl)⟩) (by assumption) ?_; (try simp only [Act.put, List.setIfInBounds_toArray, List.set_cons_zero, List.set_cons_succ])
    refine take_at (i := 3) (oi := _) (dst := some 21) (v := ?_) rfl rfl (by kernel_rfl) (by kernel_rfl) (by kernel_rfl) (fun _ _ _ h => h) (Or.inl ⟨by rfl, by intro w hSw; (try dsimp only at hSw); go_simp; (try with_reducible rfl)⟩) (by assumption) ?_; (try simp only [Act.put, List.setIfInBounds_toArray, List.set_cons_zero, List.set_cons_succ])
    refine take_at (i := 5) (oi := _) (dst := some 23) (v := ?_) rfl rfl (by kernel_rfl) (by kernel_rfl) (by kernel_rfl) (fun _ _ _ h => h) (Or.inl ⟨by rfl, by intro w hSw; (try dsimp only at hSw); go_simp; (try with_reducible rfl)⟩) (by assumption) ?_; (try simp only [Act.put, List.setIfInBounds_toArray, List.set_cons_zero, List.set_cons_succ])
    refine take_at (i := 6) (oi := _) (dst := some 24) (v := ?_) rfl rfl (by kernel_rfl) (by kernel_rfl) (by kernel_rfl) (fun _ _ _ h => h) (Or.inl ⟨by rfl, by intro w hSw; (try dsimp only at hSw); go_simp; (try with_reducible rfl)⟩) (by assumption) ?_; (try simp only [Act.put, List.setIfInBounds_toArray, List.set_cons_zero, List.set_cons_succ])
    refine wpAnyH_ready (rs := [4, 9]) (by kernel_rfl) (by simp) ?_
    refine AllReadyH.cons (o := _) rfl (fun K hK => ?_) (AllReadyH.cons (o := _) rfl (fun K hK => ?_) AllReadyH.nil)
    · go_simp
      refine hK.out _ _ (Ext.alloc hS _) (fun hS1 => ?_)
      clear hK
      refine wpAnyH_ready (rs := [7, 9]) (by kernel_rfl) (by simp) ?_
      refine AllReadyH.cons (o := _) rfl (fun K hK => ?_) (AllReadyH.cons (o := _) rfl (fun K hK => ?_) AllReadyH.nil)
      · refine step_append_empty (some 25) rfl rfl (.tmp 22) (.tmp 24) _ rfl 5 i0 (.int .u8 0) 1 1 Try.underlying26 hi hz0 hz1' hz2' rfl _ rfl D z.length f (nums .u8 z) rfl (H.out.below (hb2.trans (hS1.2.2.mono hb2.size))) (by omega) (by omega) ?_
        intro D5 f5 w5 ho5 hb5
        refine hK.out _ _ (Ext.below hS1 hb5) (fun hS2 => ?_)
        clear hK
        simp only [Act.put, List.setIfInBounds_toArray, List.set_cons_zero, List.set_cons_succ]
        refine take_at (i := 8) (oi := _) (dst := some 26) (v := ?_) rfl rfl (by kernel_rfl) (by kernel_rfl) (by kernel_rfl) (fun _ _ _ h => h) (Or.inl ⟨by rfl, by intro w hSw; (try dsimp only at hSw); go_simp; (try with_reducible rfl)⟩) (by assumption) ?_; (try simp only [Act.put, List.setIfInBounds_toArray, List.set_cons_zero, List.set_cons_succ])
        refine wpAnyH_ready (rs := [9]) (by kernel_rfl) (by simp) ?_; refine AllReadyH.cons (o := _) rfl (fun K hK => ?_) AllReadyH.nil; go_simp
        refine hK.out _ _ (Ext.alloc hS2 _) (fun hS3 => ?_)
        clear hK
        refine wpAnyH_ready (rs := [10]) (by kernel_rfl) (by simp) ?_; refine AllReadyH.cons (o := _) rfl (fun K hK => ?_) AllReadyH.nil
        refine step_store_part rfl rfl 43 (.tmp 8) (.tmp 26) rfl w5.heap.size 0 _ [.int .u64 pi, .int .u64 pt, .slice D5 z.length f5] rfl rfl rfl zeroCome (Blk.new w5 _ _ _ rfl) (by simp [zeroCome]) (by kernel_rfl) rfl _ rfl ?_
        intro w6 k6 hg6 hz6
        have hb6 : Below w2.heap.size w2 w6 := below_grown hS3.2.2 hg6 hS2.2.2.size (Blk.new w5 _ _ _ rfl).lt
        refine hK.out _ _ (Ext.of hb6) (fun hS7 => ?_)
        clear hK
        refine wpAnyH_done (by kernel_rfl) ?_ _
        go_wp2_with fail
        go_meet
        exact ⟨_, D5, f5, rfl, hS2.2.2.size, hb6, k6, ho5.sl.below (below_grown (below_alloc_one w5 _) hg6 (Nat.le_refl _) (by simp)), ho5.le, far_lt ho5.sl (Nat.le_refl _)⟩
      · go_simp
        refine hK.out _ _ (Ext.alloc hS1 _) (fun hS2 => ?_)
        clear hK
        refine wpAnyH_ready (rs := [7]) (by kernel_rfl) (by simp) ?_; refine AllReadyH.cons (o := _) rfl (fun K hK => ?_) AllReadyH.nil
        refine step_append_empty (some 25) rfl rfl (.tmp 22) (.tmp 24) _ rfl 5 i0 (.int .u8 0) 1 1 Try.underlying26 hi hz0 hz1' hz2' rfl _ rfl D z.length f (nums .u8 z) rfl (H.out.below (hb2.trans (hS2.2.2.mono hb2.size))) (by omega) (by omega) ?_
        intro D5 f5 w5 ho5 hb5
        refine hK.out _ _ (Ext.below hS2 hb5) (fun hS3 => ?_)
        clear hK
        simp only [Act.put, List.setIfInBounds_toArray, List.set_cons_zero, List.set_cons_succ]
        refine take_at (i := 8) (oi := _) (dst := some 26) (v := ?_) rfl rfl (by kernel_rfl) (by kernel_rfl) (by kernel_rfl) (fun _ _ _ h => h) (Or.inl ⟨by rfl, by intro w hSw; (try dsimp only at hSw); go_simp; (try with_reducible rfl)⟩) (by assumption) ?_; (try simp only [Act.put, List.setIfInBounds_toArray, List.set_cons_zero, List.set_cons_succ])
        refine wpAnyH_ready (rs := [10]) (by kernel_rfl) (by simp) ?_; refine AllReadyH.cons (o := _) rfl (fun K hK => ?_) AllReadyH.nil
        refine step_store_part rfl rfl 43 (.tmp 8) (.tmp 26) rfl (w2.heap.size + 1) 0 _ [.int .u64 pi, .int .u64 pt, .slice D5 z.length f5] rfl rfl rfl zeroCome ((Blk.new (w2.alloc _).drew 43 zeroCome _ (by simp)).ext hb5) (by simp [zeroCome]) (by kernel_rfl) rfl _ rfl ?_
        intro w6 k6 hg6 hz6
        have hb6 : Below w2.heap.size w2 w6 := below_grown hS3.2.2 hg6 (by omega) ((Blk.new (w2.alloc _).drew 43 zeroCome _ (by simp)).ext hb5).lt
        refine hK.out _ _ (Ext.of hb6) (fun hS7 => ?_)
        clear hK
        refine wpAnyH_done (by kernel_rfl) ?_ _
        go_wp2_with fail
        go_meet
        exact ⟨_, D5, f5, rfl, by omega, hb6, k6, (ho5.grown hg6 (by intro k hk; injection hk with hk; simp; omega)).sl, ho5.le, far_own ho5 (by simp)⟩
    · go_simp
      refine hK.out _ _ (Ext.alloc hS _) (fun hS1 => ?_)
      clear hK
      refine wpAnyH_ready (rs := [4]) (by kernel_rfl) (by simp) ?_; refine AllReadyH.cons (o := _) rfl (fun K hK => ?_) AllReadyH.nil; go_simp
      refine hK.out _ _ (Ext.alloc hS1 _) (fun hS2 => ?_)
      clear hK
      refine wpAnyH_ready (rs := [7]) (by kernel_rfl) (by simp) ?_; refine AllReadyH.cons (o := _) rfl (fun K hK => ?_) AllReadyH.nil
      refine step_append_empty (some 25) rfl rfl (.tmp 22) (.tmp 24) _ rfl 5 i0 (.int .u8 0) 1 1 Try.underlying26 hi hz0 hz1' hz2' rfl _ rfl D z.length f (nums .u8 z) rfl (H.out.below (hb2.trans (hS2.2.2.mono hb2.size))) (by omega) (by omega) ?_
      intro D5 f5 w5 ho5 hb5
      refine hK.out _ _ (Ext.below hS2 hb5) (fun hS3 => ?_)
      clear hK
      simp only [Act.put, List.setIfInBounds_toArray, List.set_cons_zero, List.set_cons_succ]
      refine take_at (i := 8) (oi := _) (dst := some 26) (v := ?_) rfl rfl (by kernel_rfl) (by kernel_rfl) (by kernel_rfl) (fun _ _ _ h => h) (Or.inl ⟨by rfl, by intro w hSw; (try dsimp only at hSw); go_simp; (try with_reducible rfl)⟩) (by assumption) ?_; (try simp only [Act.put, List.setIfInBounds_toArray, List.set_cons_zero, List.set_cons_succ])
      refine wpAnyH_ready (rs := [10]) (by kernel_rfl) (by simp) ?_; refine AllReadyH.cons (o := _) rfl (fun K hK => ?_) AllReadyH.nil
      refine step_store_part rfl rfl 43 (.tmp 8) (.tmp 26) rfl w2.heap.size 0 _ [.int .u64 pi, .int .u64 pt, .slice D5 z.length f5] rfl rfl rfl zeroCome (((Blk.new w2.drew 43 zeroCome _ rfl).alloc _).ext hb5) (by simp [zeroCome]) (by kernel_rfl) rfl _ rfl ?_
      intro w6 k6 hg6 hz6
      have hb6 : Below w2.heap.size w2 w6 := below_grown hS3.2.2 hg6 (Nat.le_refl _) (((Blk.new w2.drew 43 zeroCome _ rfl).alloc _).ext hb5).lt
      refine hK.out _ _ (Ext.of hb6) (fun hS7 => ?_)
      clear hK
      refine wpAnyH_done (by kernel_rfl) ?_ _
      go_wp2_with fail
      go_meet
      exact ⟨_, D5, f5, rfl, Nat.le_refl _, hb6, k6, (ho5.grown hg6 (by intro k hk; injection hk with hk; simp; omega)).sl, ho5.le, far_own ho5 (by simp; omega)⟩
  case rest =>
    obtain ⟨g8, D3, f3, rfl, hg8, hb3, k8, hs3, hf3, hfar3⟩ := hcut
    have hz3 := k8.lt
    have k5 := k5.ext hb3
    have hbc := hb2.trans (hb3.mono hb2.size)
    clear c3
    have c8 := k8.cell
    go_wp2_with fail
    refine name_world (fun w4 hw4 => ?_)
    have k8 : Blk w4 g8 [.int .u64 pi, .int .u64 pt, .slice D3 z.length f3] := by rw [hw4]; exact k8.alloc _
    have k9 : Blk w4 wc.heap.size [.int .u64 pi, .int .u64 pt, .slice D3 z.length f3] := by rw [hw4]; exact Blk.new wc _ _ _ rfl
    have K5 := hide (show Blk w4 (w.heap.size + 1) [.slice A na ca, .slice B mb db] by rw [hw4]; exact k5.alloc _)
    have hs4 : SlA w4 1 D3 z.length (nums .u8 z) := by rw [hw4]; exact hs3.alloc _
    have hb4 : Below w.heap.size w w4 := by rw [hw4]; exact hbc.alloc hbc.size _
    have hz4 : w4.heap.size = wc.heap.size + 1 := by rw [hw4]; simp
    have hzc := hb3.size
    have hC : Both w4 w4 w2.heap.size g8 wc.heap.size (1048576 * (0 + 1)) := ⟨Below.refl _ _, Nat.le_refl _, pi, pt, D3, f3, D3, f3, z, k8, k9, hs4, hs4, hf3, hf3, hfar3, far_lt hs3 (Nat.le_refl _), hfar3, far_lt hs3 (Nat.le_refl _), by omega⟩
    clear hw4 k8 k9 hs4 hs3 c8 k5 k3 hfar3
    generalize hg9 : wc.heap.size = g9 at *
    go_loopw [10] (fun iv wr => ∃ j : Nat, iv = .int .i64 j ∧ j ≤ n ∧ Both w4 wr w2.heap.size g8 g9 (1048576 * (j + 1))) (fun iv _ => (n - RowKit.intOf iv).toNat)
    case atStart => exact ⟨0, rfl, by omega, hC⟩
    case round =>
      clear hC
      obtain ⟨j, rfl, hj, hbr, hzr, ci, ct, D, f, D', f', zs, k8, k9, hs, hs', hf, hf', hd8, hd9, hd8', hd9', htot⟩ := hrel
      have hwr := hb4.trans (hbr.mono (by omega))
      by_cases hlt : j < n
      · have b1 : (j : Int) < (n : Int) := by omega
        cases L with
        | none => have := HL.out.2.1 rfl; omega
        | some ad =>
        have hjm : j < ms.length := by omega
        obtain ⟨x0, x1, x2, x3, x6, x7, x8, x10, x11, i, t, k, M, q, e, done, y, hmsg, hM, hq⟩ := HOK.out (ms[j]) (List.getElem_mem hjm)
        have hyl := hM.len
        have HCM := Lib.hid (fun (wz : World) (hbz : Below w.heap.size w wz) => msg_cells (m := j * 14) (fun r hr => (flat_cell (HL.out.below hbz) HML.out hjm r hr).trans (by rw [hmsg])))
        obtain ⟨tk, htk⟩ : ∃ tk, taken ci ct i t k zs y = tk := ⟨_, rfl⟩
        obtain ⟨dn, hdn⟩ : ∃ dn, (decide (k = ((hadL ci ct i t zs).length : Int)) && done) = dn := ⟨_, rfl⟩
        have HT := Lib.hid htk
        have HDN := Lib.hid hdn
        have hsum : (hadL ci ct i t zs).length + q ≤ 140737488355328 := by have := hadL_le ci ct i t zs; omega
        have htl : tk.length ≤ zs.length + y.length := by rw [← htk]; exact taken_le _ _ _ _ _ _ _
        have hm := hM.below hwr
        have HMM := Lib.hid hM
        clear htk hdn hmsg hM
        have c8 := k8.cell
        obtain ⟨m0, m1, m2, m3, m4, m5, m6, m7, m8, m9, m10, m11, m12, m13⟩ := HCM.out wr hwr
        go_upto_region 7 with fail
        go_cut [11, 12] (fun s11 s12 wx => TookAt wr wx i t dn tk s11 s12)
        case first =>
          go_wp2_with fail
          refine wp_region_held_drew (S := Ext wr) (by kernel_rfl) Ext.start (fun hS => ?_)
          simp only [List.size_toArray, List.length_cons, List.length_nil]
          refine take_at (i := 0) (oi := _) (dst := some 35) (v := ?_) rfl rfl (by kernel_rfl) (by kernel_rfl) (by kernel_rfl) (fun _ _ _ h => h) (Or.inl ⟨by rfl, by intro w hSw; (try dsimp only at hSw); go_simp; (try with_reducible rfl)⟩) (by assumption) ?_; (try simp only [Act.put, List.setIfInBounds_toArray, List.set_cons_zero, List.set_cons_succ])
          refine take_at (i := 1) (oi := _) (dst := some 36) (v := ?_) rfl rfl (by kernel_rfl) (by kernel_rfl) (by kernel_rfl) (fun _ _ _ h => h) (Or.inl ⟨by rfl, by intro w hSw; (try dsimp only at hSw); go_simp; (try with_reducible rfl)⟩) (by assumption) ?_; (try simp only [Act.put, List.setIfInBounds_toArray, List.set_cons_zero, List.set_cons_succ])
          refine take_at (i := 2) (oi := _) (dst := some 37) (v := ?_) rfl rfl (by kernel_rfl) (by kernel_rfl) (by kernel_rfl) (fun _ _ _ h => h) (Or.inl ⟨by rfl, by intro w hSw; (try dsimp only at hSw); go_simp; (try with_reducible rfl)⟩) (by assumption) ?_; (try simp only [Act.put, List.setIfInBounds_toArray, List.set_cons_zero, List.set_cons_succ])
          refine take_at (i := 3) (oi := _) (dst := some 38) (v := ?_) rfl rfl (by kernel_rfl) (by kernel_rfl) (by kernel_rfl) (fun _ _ _ h => h) (Or.inl ⟨by rfl, by intro w hSw; (try dsimp only at hSw); go_simp; (try with_reducible rfl)⟩) (by assumption) ?_; (try simp only [Act.put, List.setIfInBounds_toArray, List.set_cons_zero, List.set_cons_succ])
          refine take_at (i := 4) (oi := _) (dst := some 39) (v := ?_) rfl rfl (by kernel_rfl) (by kernel_rfl) (by kernel_rfl) (fun _ _ _ h => h) (Or.inl ⟨by rfl, by intro w hSw; (try dsimp only at hSw); go_simp; (try with_reducible rfl)⟩) (by assumption) ?_; (try simp only [Act.put, List.setIfInBounds_toArray, List.set_cons_zero, List.set_cons_succ])
          refine wpAnyH_ready (rs := [5, 9]) (by kernel_rfl) (by simp) ?_
          refine AllReadyH.cons (o := _) rfl (fun K hK => ?_) (AllReadyH.cons (o := _) rfl (fun K hK => ?_) AllReadyH.nil)
          · go_simp
            refine (take_any x0 x1 x2 x3 x6 x7 x8 x10 x11 ci ct i t k D M zs.length f q e done zs y _ (hs.below hS.2.2) (hm.below hS.2.2) hf hsum).mono ?_
            rintro _ w5 ⟨hb5, D5, n5, f5, rfl, ho5⟩
            have hn5 := ho5.length
            simp only [length_nums, Nat.mul_one] at hn5
            subst hn5
            rw [HT.out] at ho5 ⊢
            rw [HDN.out]
            refine hK.out _ _ (Ext.below hS hb5) (fun hS5 => ?_)
            clear hK
            refine take_at (i := 6) (oi := _) (dst := some 34) (v := ?_) rfl rfl (by kernel_rfl) (by kernel_rfl) (by kernel_rfl) (fun _ _ _ h => h) (Or.inl ⟨by rfl, by intro w hSw; (try dsimp only at hSw); go_simp; (try with_reducible rfl)⟩) (by assumption) ?_; (try simp only [Act.put, List.setIfInBounds_toArray, List.set_cons_zero, List.set_cons_succ])
            refine take_at (i := 7) (oi := _) (dst := some 41) (v := ?_) rfl rfl (by kernel_rfl) (by kernel_rfl) (by kernel_rfl) (fun _ _ _ h => h) (Or.inl ⟨by rfl, by intro w hSw; (try dsimp only at hSw); go_simp; (try with_reducible rfl)⟩) (by assumption) ?_; (try simp only [Act.put, List.setIfInBounds_toArray, List.set_cons_zero, List.set_cons_succ])
            refine take_at (i := 8) (oi := _) (dst := some 42) (v := ?_) rfl rfl (by kernel_rfl) (by kernel_rfl) (by kernel_rfl) (fun _ _ _ h => h) (Or.inl ⟨by rfl, by intro w hSw; (try dsimp only at hSw); go_simp; (try with_reducible rfl)⟩) (by assumption) ?_; (try simp only [Act.put, List.setIfInBounds_toArray, List.set_cons_zero, List.set_cons_succ])
            refine wpAnyH_ready (rs := [9]) (by kernel_rfl) (by simp) ?_; refine AllReadyH.cons (o := _) rfl (fun K hK => ?_) AllReadyH.nil; go_simp
            refine hK.out _ _ (Ext.alloc hS5 _) (fun hS6 => ?_)
            clear hK
            refine wpAnyH_ready (rs := [10]) (by kernel_rfl) (by simp) ?_; refine AllReadyH.cons (o := _) rfl (fun K hK => ?_) AllReadyH.nil
            refine step_store_part rfl rfl 43 (.tmp 11) (.tmp 41) rfl w5.heap.size 0 _ [.int .u64 i, .int .u64 t, .slice D5 tk.length f5] rfl rfl rfl zeroCome (Blk.new w5 _ _ _ rfl) (by simp [zeroCome]) (by kernel_rfl) rfl _ rfl ?_
            intro w6 k6 hg6 hz6
            have hb6 : Below wr.heap.size wr w6 := below_grown hS6.2.2 hg6 hS5.2.2.size (by simp)
            refine hK.out _ _ (Ext.of hb6) (fun hS7 => ?_)
            clear hK
            simp only [Act.put, List.setIfInBounds_toArray, List.set_cons_zero, List.set_cons_succ]
            refine take_at (i := 11) (oi := _) (dst := some 12) (v := ?_) rfl rfl (by kernel_rfl) (by kernel_rfl) (by kernel_rfl) (fun _ _ _ h => h) (Or.inl ⟨by rfl, by intro w hSw; (try dsimp only at hSw); go_simp; (try with_reducible rfl)⟩) (by assumption) ?_; (try simp only [Act.put, List.setIfInBounds_toArray, List.set_cons_zero, List.set_cons_succ])
            refine wpAnyH_done (by kernel_rfl) ?_ _
            go_wp2_with fail
            go_meet
            exact ⟨_, D5, f5, rfl, rfl, hS5.2.2.size, hb6, k6, ho5.sl.below (below_grown (below_alloc_one w5 _) hg6 (Nat.le_refl _) (by simp)), ho5.le, fun g' hg' => far_own ho5 hg'⟩
          · go_simp
            refine hK.out _ _ (Ext.alloc hS _) (fun hS5 => ?_)
            clear hK
            refine wpAnyH_ready (rs := [5]) (by kernel_rfl) (by simp) ?_; refine AllReadyH.cons (o := _) rfl (fun K hK => ?_) AllReadyH.nil; go_simp
            refine (take_any x0 x1 x2 x3 x6 x7 x8 x10 x11 ci ct i t k D M zs.length f q e done zs y _ (hs.below hS5.2.2) (hm.below hS5.2.2) hf hsum).mono ?_
            rintro _ w5 ⟨hb5, D5, n5, f5, rfl, ho5⟩
            have hn5 := ho5.length
            simp only [length_nums, Nat.mul_one] at hn5
            subst hn5
            rw [HT.out] at ho5 ⊢
            rw [HDN.out]
            refine hK.out _ _ (Ext.below hS5 hb5) (fun hS6 => ?_)
            clear hK
            refine take_at (i := 6) (oi := _) (dst := some 34) (v := ?_) rfl rfl (by kernel_rfl) (by kernel_rfl) (by kernel_rfl) (fun _ _ _ h => h) (Or.inl ⟨by rfl, by intro w hSw; (try dsimp only at hSw); go_simp; (try with_reducible rfl)⟩) (by assumption) ?_; (try simp only [Act.put, List.setIfInBounds_toArray, List.set_cons_zero, List.set_cons_succ])
            refine take_at (i := 7) (oi := _) (dst := some 41) (v := ?_) rfl rfl (by kernel_rfl) (by kernel_rfl) (by kernel_rfl) (fun _ _ _ h => h) (Or.inl ⟨by rfl, by intro w hSw; (try dsimp only at hSw); go_simp; (try with_reducible rfl)⟩) (by assumption) ?_; (try simp only [Act.put, List.setIfInBounds_toArray, List.set_cons_zero, List.set_cons_succ])
            refine take_at (i := 8) (oi := _) (dst := some 42) (v := ?_) rfl rfl (by kernel_rfl) (by kernel_rfl) (by kernel_rfl) (fun _ _ _ h => h) (Or.inl ⟨by rfl, by intro w hSw; (try dsimp only at hSw); go_simp; (try with_reducible rfl)⟩) (by assumption) ?_; (try simp only [Act.put, List.setIfInBounds_toArray, List.set_cons_zero, List.set_cons_succ])
            refine wpAnyH_ready (rs := [10]) (by kernel_rfl) (by simp) ?_; refine AllReadyH.cons (o := _) rfl (fun K hK => ?_) AllReadyH.nil
            refine step_store_part rfl rfl 43 (.tmp 11) (.tmp 41) rfl wr.heap.size 0 _ [.int .u64 i, .int .u64 t, .slice D5 tk.length f5] rfl rfl rfl zeroCome ((Blk.new wr.drew 43 zeroCome _ rfl).ext hb5) (by simp [zeroCome]) (by kernel_rfl) rfl _ rfl ?_
            intro w6 k6 hg6 hz6
            have hb6 : Below wr.heap.size wr w6 := below_grown hS6.2.2 hg6 (Nat.le_refl _) (by have := hb5.size; simp at this; omega)
            refine hK.out _ _ (Ext.of hb6) (fun hS7 => ?_)
            clear hK
            simp only [Act.put, List.setIfInBounds_toArray, List.set_cons_zero, List.set_cons_succ]
            refine take_at (i := 11) (oi := _) (dst := some 12) (v := ?_) rfl rfl (by kernel_rfl) (by kernel_rfl) (by kernel_rfl) (fun _ _ _ h => h) (Or.inl ⟨by rfl, by intro w hSw; (try dsimp only at hSw); go_simp; (try with_reducible rfl)⟩) (by assumption) ?_; (try simp only [Act.put, List.setIfInBounds_toArray, List.set_cons_zero, List.set_cons_succ])
            refine wpAnyH_done (by kernel_rfl) ?_ _
            go_wp2_with fail
            go_meet
            exact ⟨_, D5, f5, rfl, rfl, Nat.le_refl _, hb6, k6, (ho5.grown hg6 (by intro k hk; injection hk with hk; simp; omega)).sl, ho5.le, fun g' hg' => far_own ho5 (by simp; omega)⟩
        case rest =>
          obtain ⟨g11, D11, f11, rfl, rfl, hg11, hba, k11, hs11, hf11, hfar11⟩ := hcut
          have hza := hba.size
          have hwa := hwr.trans (hba.mono hwr.size)
          clear c8 m0 m1 m2 m3 m4 m5 m6 m7 m8 m9 m10 m11 m12 m13 hm
          have hm := HMM.out.below hwa
          have k8 := k8.ext hba
          have k9 := k9.ext hba
          have hs := hs.below hba
          have hs' := hs'.below hba
          have c9 := k9.cell
          obtain ⟨m0, m1, m2, m3, m4, m5, m6, m7, m8, m9, m10, m11, m12, m13⟩ := HCM.out wc hwa
          go_upto_region 8 with fail
          go_cut [13, 14] (fun s11 s12 wx => TookAt wc wx i t dn tk s11 s12)
          case first =>
            go_wp2_with fail
            refine wp_region_held_drew (S := Ext wc) (by kernel_rfl) Ext.start (fun hS => ?_)
            simp only [List.size_toArray, List.length_cons, List.length_nil]
            refine take_at (i := 0) (oi := _) (dst := some 44) (v := ?_) rfl rfl (by kernel_rfl) (by kernel_rfl) (by kernel_rfl) (fun _ _ _ h => h) (Or.inl ⟨by rfl, by intro w hSw; (try dsimp only at hSw); go_simp; (try with_reducible rfl)⟩) (by assumption) ?_; (try simp only [Act.put, List.setIfInBounds_toArray, List.set_cons_zero, List.set_cons_succ])
            refine take_at (i := 1) (oi := _) (dst := some 45) (v := ?_) rfl rfl (by kernel_rfl) (by kernel_rfl) (by kernel_rfl) (fun _ _ _ h => h) (Or.inl ⟨by rfl, by intro w hSw; (try dsimp only at hSw); go_simp; (try with_reducible rfl)⟩) (by assumption) ?_; (try simp only [Act.put, List.setIfInBounds_toArray, List.set_cons_zero, List.set_cons_succ])
            refine take_at (i := 2) (oi := _) (dst := some 46) (v := ?_) rfl rfl (by kernel_rfl) (by kernel_rfl) (by kernel_rfl) (fun _ _ _ h => h) (Or.inl ⟨by rfl, by intro w hSw; (try dsimp only at hSw); go_simp; (try with_reducible rfl)⟩) (by assumption) ?_; (try simp only [Act.put, List.setIfInBounds_toArray, List.set_cons_zero, List.set_cons_succ])
            refine take_at (i := 3) (oi := _) (dst := some 47) (v := ?_) rfl rfl (by kernel_rfl) (by kernel_rfl) (by kernel_rfl) (fun _ _ _ h => h) (Or.inl ⟨by rfl, by intro w hSw; (try dsimp only at hSw); go_simp; (try with_reducible rfl)⟩) (by assumption) ?_; (try simp only [Act.put, List.setIfInBounds_toArray, List.set_cons_zero, List.set_cons_succ])
            refine take_at (i := 4) (oi := _) (dst := some 48) (v := ?_) rfl rfl (by kernel_rfl) (by kernel_rfl) (by kernel_rfl) (fun _ _ _ h => h) (Or.inl ⟨by rfl, by intro w hSw; (try dsimp only at hSw); go_simp; (try with_reducible rfl)⟩) (by assumption) ?_; (try simp only [Act.put, List.setIfInBounds_toArray, List.set_cons_zero, List.set_cons_succ])
            refine wpAnyH_ready (rs := [5, 9]) (by kernel_rfl) (by simp) ?_
            refine AllReadyH.cons (o := _) rfl (fun K hK => ?_) (AllReadyH.cons (o := _) rfl (fun K hK => ?_) AllReadyH.nil)
            · go_simp
              refine (takeRef_any x0 x1 x2 x3 x6 x7 x8 x10 x11 ci ct i t k D' M zs.length f' q e done zs y _ (hs'.below hS.2.2) (hm.below hS.2.2) hsum).mono ?_
              rintro _ w5 ⟨hb5, D5, n5, f5, rfl, ho5⟩
              have hn5 := ho5.length
              simp only [length_nums, Nat.mul_one] at hn5
              subst hn5
              rw [HT.out] at ho5 ⊢
              rw [HDN.out]
              refine hK.out _ _ (Ext.below hS hb5) (fun hS5 => ?_)
              clear hK
              refine take_at (i := 6) (oi := _) (dst := some 43) (v := ?_) rfl rfl (by kernel_rfl) (by kernel_rfl) (by kernel_rfl) (fun _ _ _ h => h) (Or.inl ⟨by rfl, by intro w hSw; (try dsimp only at hSw); go_simp; (try with_reducible rfl)⟩) (by assumption) ?_; (try simp only [Act.put, List.setIfInBounds_toArray, List.set_cons_zero, List.set_cons_succ])
              refine take_at (i := 7) (oi := _) (dst := some 50) (v := ?_) rfl rfl (by kernel_rfl) (by kernel_rfl) (by kernel_rfl) (fun _ _ _ h => h) (Or.inl ⟨by rfl, by intro w hSw; (try dsimp only at hSw); go_simp; (try with_reducible rfl)⟩) (by assumption) ?_; (try simp only [Act.put, List.setIfInBounds_toArray, List.set_cons_zero, List.set_cons_succ])
              refine take_at (i := 8) (oi := _) (dst := some 51) (v := ?_) rfl rfl (by kernel_rfl) (by kernel_rfl) (by kernel_rfl) (fun _ _ _ h => h) (Or.inl ⟨by rfl, by intro w hSw; (try dsimp only at hSw); go_simp; (try with_reducible rfl)⟩) (by assumption) ?_; (try simp only [Act.put, List.setIfInBounds_toArray, List.set_cons_zero, List.set_cons_succ])
              refine wpAnyH_ready (rs := [9]) (by kernel_rfl) (by simp) ?_; refine AllReadyH.cons (o := _) rfl (fun K hK => ?_) AllReadyH.nil; go_simp
              refine hK.out _ _ (Ext.alloc hS5 _) (fun hS6 => ?_)
              clear hK
              refine wpAnyH_ready (rs := [10]) (by kernel_rfl) (by simp) ?_; refine AllReadyH.cons (o := _) rfl (fun K hK => ?_) AllReadyH.nil
              refine step_store_part rfl rfl 43 (.tmp 13) (.tmp 50) rfl w5.heap.size 0 _ [.int .u64 i, .int .u64 t, .slice D5 tk.length f5] rfl rfl rfl zeroCome (Blk.new w5 _ _ _ rfl) (by simp [zeroCome]) (by kernel_rfl) rfl _ rfl ?_
              intro w6 k6 hg6 hz6
              have hb6 : Below wc.heap.size wc w6 := below_grown hS6.2.2 hg6 hS5.2.2.size (by simp)
              refine hK.out _ _ (Ext.of hb6) (fun hS7 => ?_)
              clear hK
              simp only [Act.put, List.setIfInBounds_toArray, List.set_cons_zero, List.set_cons_succ]
              refine take_at (i := 11) (oi := _) (dst := some 14) (v := ?_) rfl rfl (by kernel_rfl) (by kernel_rfl) (by kernel_rfl) (fun _ _ _ h => h) (Or.inl ⟨by rfl, by intro w hSw; (try dsimp only at hSw); go_simp; (try with_reducible rfl)⟩) (by assumption) ?_; (try simp only [Act.put, List.setIfInBounds_toArray, List.set_cons_zero, List.set_cons_succ])
              refine wpAnyH_done (by kernel_rfl) ?_ _
              go_wp2_with fail
              go_meet
              exact ⟨_, D5, f5, rfl, rfl, hS5.2.2.size, hb6, k6, ho5.sl.below (below_grown (below_alloc_one w5 _) hg6 (Nat.le_refl _) (by simp)), ho5.le, fun g' hg' => far_own ho5 hg'⟩
            · go_simp
              refine hK.out _ _ (Ext.alloc hS _) (fun hS5 => ?_)
              clear hK
              refine wpAnyH_ready (rs := [5]) (by kernel_rfl) (by simp) ?_; refine AllReadyH.cons (o := _) rfl (fun K hK => ?_) AllReadyH.nil; go_simp
              refine (takeRef_any x0 x1 x2 x3 x6 x7 x8 x10 x11 ci ct i t k D' M zs.length f' q e done zs y _ (hs'.below hS5.2.2) (hm.below hS5.2.2) hsum).mono ?_
              rintro _ w5 ⟨hb5, D5, n5, f5, rfl, ho5⟩
              have hn5 := ho5.length
              simp only [length_nums, Nat.mul_one] at hn5
              subst hn5
              rw [HT.out] at ho5 ⊢
              rw [HDN.out]
              refine hK.out _ _ (Ext.below hS5 hb5) (fun hS6 => ?_)
              clear hK
              refine take_at (i := 6) (oi := _) (dst := some 43) (v := ?_) rfl rfl (by kernel_rfl) (by kernel_rfl) (by kernel_rfl) (fun _ _ _ h => h) (Or.inl ⟨by rfl, by intro w hSw; (try dsimp only at hSw); go_simp; (try with_reducible rfl)⟩) (by assumption) ?_; (try simp only [Act.put, List.setIfInBounds_toArray, List.set_cons_zero, List.set_cons_succ])
              refine take_at (i := 7) (oi := _) (dst := some 50) (v := ?_) rfl rfl (by kernel_rfl) (by kernel_rfl) (by kernel_rfl) (fun _ _ _ h => h) (Or.inl ⟨by rfl, by intro w hSw; (try dsimp only at hSw); go_simp; (try with_reducible rfl)⟩) (by assumption) ?_; (try simp only [Act.put, List.setIfInBounds_toArray, List.set_cons_zero, List.set_cons_succ])
              refine take_at (i := 8) (oi := _) (dst := some 51) (v := ?_) rfl rfl (by kernel_rfl) (by kernel_rfl) (by kernel_rfl) (fun _ _ _ h => h) (Or.inl ⟨by rfl, by intro w hSw; (try dsimp only at hSw); go_simp; (try with_reducible rfl)⟩) (by assumption) ?_; (try simp only [Act.put, List.setIfInBounds_toArray, List.set_cons_zero, List.set_cons_succ])
              refine wpAnyH_ready (rs := [10]) (by kernel_rfl) (by simp) ?_; refine AllReadyH.cons (o := _) rfl (fun K hK => ?_) AllReadyH.nil
              refine step_store_part rfl rfl 43 (.tmp 13) (.tmp 50) rfl wc.heap.size 0 _ [.int .u64 i, .int .u64 t, .slice D5 tk.length f5] rfl rfl rfl zeroCome ((Blk.new wc.drew 43 zeroCome _ rfl).ext hb5) (by simp [zeroCome]) (by kernel_rfl) rfl _ rfl ?_
              intro w6 k6 hg6 hz6
              have hb6 : Below wc.heap.size wc w6 := below_grown hS6.2.2 hg6 (Nat.le_refl _) (by have := hb5.size; simp at this; omega)
              refine hK.out _ _ (Ext.of hb6) (fun hS7 => ?_)
              clear hK
              simp only [Act.put, List.setIfInBounds_toArray, List.set_cons_zero, List.set_cons_succ]
              refine take_at (i := 11) (oi := _) (dst := some 14) (v := ?_) rfl rfl (by kernel_rfl) (by kernel_rfl) (by kernel_rfl) (fun _ _ _ h => h) (Or.inl ⟨by rfl, by intro w hSw; (try dsimp only at hSw); go_simp; (try with_reducible rfl)⟩) (by assumption) ?_; (try simp only [Act.put, List.setIfInBounds_toArray, List.set_cons_zero, List.set_cons_succ])
              refine wpAnyH_done (by kernel_rfl) ?_ _
              go_wp2_with fail
              go_meet
              exact ⟨_, D5, f5, rfl, rfl, Nat.le_refl _, hb6, k6, (ho5.grown hg6 (by intro k hk; injection hk with hk; simp; omega)).sl, ho5.le, fun g' hg' => far_own ho5 (by simp; omega)⟩
          case rest =>
            obtain ⟨g13, D13, f13, rfl, rfl, hg13, hbb, k13, hs13, hf13, hfar13⟩ := hcut
            have hzb := hbb.size
            have hwb := hwa.trans (hbb.mono hwa.size)
            clear c9 m0 m1 m2 m3 m4 m5 m6 m7 m8 m9 m10 m11 m12 m13 hm
            have k8 := k8.ext hbb
            have k9 := k9.ext hbb
            have k11 := k11.ext hbb
            have hs := hs.below hbb
            have hs' := hs'.below hbb
            have hs11 := hs11.below hbb
            have c8 := k8.cell
            have c9 := k9.cell
            have c11 := k11.cell
            have c13 := k13.cell
            have v1 := run_convert_sl (P := Try.prog) 26 5 9 Try.underlying26 Try.underlying5 Try.underlying9 hs
            have v2 := run_convert_sl (P := Try.prog) 26 5 9 Try.underlying26 Try.underlying5 Try.underlying9 hs'
            have v3 := run_convert_sl (P := Try.prog) 26 5 9 Try.underlying26 Try.underlying5 Try.underlying9 hs11
            have v4 := run_convert_sl (P := Try.prog) 26 5 9 Try.underlying26 Try.underlying5 Try.underlying9 hs13
            go_wp2_with (with_reducible refine stop_store ?_)
            refine hide (wpList_store_blk rfl 43 (.tmp 8) (.tmp 87) rfl g8 [.int .u64 i, .int .u64 t, .slice D11 tk.length f11] rfl rfl _ k8 rfl (by kernel_rfl) rfl ?_)
            intro w5 k8' hg5 hz5
            have k9 := blk_grown k9 hg5 (by omega)
            have k13 := blk_grown k13 hg5 (by omega)
            have hbw5 : Below w2.heap.size w4 w5 := below_grown ((hbr.trans (hba.mono (by omega))).trans (hbb.mono (by omega))) hg5 hg8 k8.lt
            have hs11 := hs11.grown_far hg5 (hfar11 g8 (by omega))
            have hs13 := hs13.grown_far hg5 (hfar13 g8 (by omega))
            clear v1 v2 v3 v4 c8 c9 c11 c13
            have c13 := k13.cell
            go_wp2_with (with_reducible refine stop_store ?_)
            refine hide (wpList_store_blk rfl 43 (.tmp 9) (.tmp 88) rfl g9 [.int .u64 i, .int .u64 t, .slice D13 tk.length f13] rfl rfl _ k9 rfl (by kernel_rfl) rfl ?_)
            intro w6 k9' hg6 hz6
            have k8' := blk_grown k8' hg6 (by omega)
            have hbw6 : Below w2.heap.size w4 w6 := below_grown hbw5 hg6 (by omega) k9.lt
            have hs11 := hs11.grown_far hg6 (hfar11 g9 (by omega))
            have hs13 := hs13.grown_far hg6 (hfar13 g9 (by omega))
            have hC : Both w4 w6 w2.heap.size g8 g9 (1048576 * (j + 1 + 1)) := ⟨hbw6, by omega, i, t, D11, f11, D13, f13, tk, k8', k9', hs11, hs13, hf11, hf13, hfar11 g8 (by omega), hfar11 g9 (by omega), hfar13 g8 (by omega), hfar13 g9 (by omega), by omega⟩
            clear c13
            go_wp2
            go_roundw
            case rel => exact ⟨j + 1, by go_num, by omega, hC⟩
            case measure => simp [intOf]; omega
      · have b1 : ¬ (j : Int) < (n : Int) := by omega
        have k5 := K5.out.below hbr (by omega)
        have c5 := k5.cell
        have c8 := k8.cell
        go_wp2_with fail
        refine (whole_any ci ct A B D na ca mb db zs.length f l k' zs wr hs (HC.out.below hwr) hna hmb (by omega)).mono ?_
        rintro _ w5 ⟨hb5, A5, c5', B5, d5, D5, f5, rfl, ho5⟩
        have k5 := k5.ext hb5
        have k9 := k9.ext hb5
        have hs' := hs'.below hb5
        have hw5 := hwr.trans (hb5.mono hwr.size)
        clear c5 c8
        have c5 := k5.cell
        have c9 := k9.cell
        go_wp2_with fail
        refine name_calls (fun w6 hw6 => ?_)
        have k15 : Blk w6 w5.heap.size [.int .u64 ci, .int .u64 ct, .slice A5 na c5', .slice B5 mb d5, .slice D5 zs.length f5] := by rw [hw6]; exact Blk.new _ _ _ _ rfl
        have hb6 : Below w5.heap.size w5 w6 := by rw [hw6]; exact below_alloc_one _ _
        have ho6 := ho5.below hb6
        have hs' := hs'.below hb6
        have hw6' := hw5.trans (hb6.mono hw5.size)
        clear hw6 c5 c9
        refine (wholeRef_any ci ct A B D' na ca mb db zs.length f' l k' zs w6 hs' (HC.out.below hw6') hna hmb (by omega)).mono ?_
        rintro _ w7 ⟨hb7, A7, c7', B7, d7, D7, f7, rfl, ho7⟩
        have k15 := k15.ext hb7
        have ho6 := ho6.below hb7
        have hw7 := hw6'.trans (hb7.mono hw6'.size)
        have c15 := k15.cell
        go_wp2_with fail
        refine name_calls (fun w8 hw8 => ?_)
        have hb8 : Below w7.heap.size w7 w8 := by rw [hw8]; exact below_alloc_one _ _
        clear hw8
        refine (sameSnap_any ci ct A5 B5 A7 B7 D5 D7 na c5' c7' mb d5 d7 zs.length f5 f7 l k' zs w8 (ho6.below hb8).is (ho7.below hb8).is (by omega) (by omega)).mono ?_
        rintro _ w9 ⟨rfl, hb9⟩
        have hw8 := hw7.trans (hb8.mono hw7.size)
        go_wp2
        go_ret
        exact ⟨rfl, hw8.trans (hb9.mono hw8.size)⟩
end Go.Proofs.Ytmjohallhdcdnaa

/- The document's net: how it lies in memory; New, node, link, copied. -/
import Derived.Test.YtjihiohmemmabaaNKeep
namespace Go.Proofs.Ytjihiohmemmabaa
open Go.RowKit Go.Gz
attribute [local go_sem] World.cell?_alloc_some frozen?_alloc_some

def sides (n : Nat) (S : Int → Bool) : List Value := (List.range n).map fun i => .bool (S ((i : Nat) + 1))
/-- Each link's bag, by its number. -/
def RowsAt (w : World) (G : Nat → Prop) (n : Nat) (sl : List Value) (f : Int → Int → List Pkt) : Prop := sl.length = n * n ∧ (∀ p, p < n * n → OwnPs w G (sl.getD p nilV) (f ((p / n : Nat) + 1) ((p % n : Nat) + 1))) ∧
  ∀ p q, p < n * n → q < n * n → ¬ p = q → (sl.getD p nilV).ownBlock = none ∨ (sl.getD p nilV).ownBlock ≠ (sl.getD q nilV).ownBlock
def RefAt (w : World) (G : Nat → Prop) (r B sd : Nat) (sl : List Value) (n : Nat) (f : Int → Int → List Pkt) (S : Int → Bool) : Prop :=
  BlkT w r 72 [.int .i64 n, .slice (some ⟨B, 0, none⟩) (n * n) (n * n), .slice (some ⟨sd, 0, none⟩) n n] ∧ BlkT w B 40 sl ∧ BlkT w sd 4 (sides n S) ∧ (G r ∧ G B ∧ G sd) ∧ RowsAt w G n sl f
/-- The document's net. -/
def RefIs (w : World) (G : Nat → Prop) (r n : Nat) (f : Int → Int → List Pkt) (S : Int → Bool) : Prop := ∃ B sd sl, RefAt w G r B sd sl n f S
section
variable {w w' : World} {G G' : Nat → Prop} {r n B sd : Nat} {sl : List Value} {f : Int → Int → List Pkt} {S : Int → Bool}
theorem blkT_spared {g : Nat} {t : TypeId} {cs : List Value} (h : BlkT w g t cs) (hs : Spared G w w') (hg : G g) : BlkT w' g t cs := by
  obtain ⟨row, hgr, hr⟩ := hs
  exact (hgr.block g h.lt (fun e => hr g e.symm hg)).trans h
theorem RefAt.grown (h : RefAt w G r B sd sl n f S) (hs : Spared G w w') : RefAt w' G r B sd sl n f S := by
  obtain ⟨h1, h2, h3, h4, h5, h6, h7⟩ := h
  exact ⟨blkT_spared h1 hs h4.1, blkT_spared h2 hs h4.2.1, blkT_spared h3 hs h4.2.2, h4, h5, fun p hp => (h6 p hp).grown hs, h7⟩
theorem RefAt.mono (h : RefAt w G r B sd sl n f S) (hG : ∀ b, G b → G' b) : RefAt w G' r B sd sl n f S := by
  obtain ⟨h1, h2, h3, h4, h5, h6, h7⟩ := h
  exact ⟨h1, h2, h3, ⟨hG _ h4.1, hG _ h4.2.1, hG _ h4.2.2⟩, h5, fun p hp => (h6 p hp).mono hG, h7⟩
theorem RefIs.grown (h : RefIs w G r n f S) (hs : Spared G w w') : RefIs w' G r n f S := by
  obtain ⟨B, sd, sl, h⟩ := h
  exact ⟨B, sd, sl, h.grown hs⟩
theorem RefIs.below (h : RefIs w G r n f S) (hb : Below w.heap.size w w') : RefIs w' G r n f S := h.grown (Spared.of_below hb)
theorem RefAt.below (h : RefAt w G r B sd sl n f S) (hb : Below w.heap.size w w') : RefAt w' G r B sd sl n f S := h.grown (Spared.of_below hb)
theorem RefIs.mono (h : RefIs w G r n f S) (hG : ∀ b, G b → G' b) : RefIs w G' r n f S := by
  obtain ⟨B, sd, sl, h⟩ := h
  exact ⟨B, sd, sl, h.mono hG⟩
end
theorem sides_len (n : Nat) (S : Int → Bool) : (sides n S).length = n := by simp [sides]
theorem sides_at {n i : Nat} (S : Int → Bool) (hi : i < n) : (sides n S)[i]? = some (.bool (S ((i : Nat) + 1))) := by simp [sides, hi]
theorem replicate_getD (v : Value) (k p : Nat) (hp : p < k) : (List.replicate k v).getD p nilV = v := by simp [hp]

/-- What the document's New answers. -/
def RNewIs (w w' : World) (n : Int) (e : Ending) : Prop :=
  (¬ (1 ≤ n ∧ n ≤ 7) ∧ e = .returned (.tuple #[.pointer none, .int .i64 1])) ∨ ((1 ≤ n ∧ n ≤ 7) ∧ ∃ r, e = .returned (.tuple #[.pointer (some ⟨r, 0, none⟩), .int .i64 0]) ∧ RefIs w' (fun b => w.heap.size ≤ b ∧ b < w'.heap.size) r n.toNat (fun _ _ => []) (fun _ => false))
theorem infoSl : (Try.prog.info? 40).map (fun i => (i.zero, i.size, i.bytes)) = some (some (.slice none 0 0), 1, 24) := by kernel_rfl
theorem infoBool : (Try.prog.info? 4).map (fun i => (i.zero, i.size, i.bytes)) = some (some (.bool false), 1, 1) := by kernel_rfl

theorem blkT_at (w : World) (g : Nat) (t : TypeId) (cs : List Value) (hg : g = w.heap.size) : BlkT (w.alloc (.cells cs.toArray t)) g t cs := by
  subst hg
  exact BlkT.new w t cs
theorem blkT_drew {w : World} {g : Nat} {t : TypeId} {cs : List Value} (h : BlkT w g t cs) : BlkT w.drew g t cs := h
theorem ref_made {w : World} {G : Nat → Prop} {r B sd m k : Nat} (hk : k = m * m) (h1 : BlkT w r 72 [.int .i64 m, .slice (some ⟨B, 0, none⟩) k k, .slice (some ⟨sd, 0, none⟩) m m]) (h2 : BlkT w B 40 (List.replicate k nilV)) (h3 : BlkT w sd 4 (List.replicate m (.bool false))) (hG : G r ∧ G B ∧ G sd) : RefIs w G r m (fun _ _ => []) (fun _ => false) := by
  subst hk
  refine ⟨B, sd, _, h1, h2, ?_, hG, by simp, fun p hp => ?_, fun p q hp hq _ => .inl ?_⟩
  · have e : sides m (fun _ => false) = List.replicate m (.bool false) := by simp [sides, List.map_const']
    rw [e]
    exact h3
  · rw [replicate_getD _ _ _ hp]
    exact OwnPs.nil w G
  · rw [replicate_getD _ _ _ hp]
    rfl
theorem rnew_any (n : Int) (w : World) : Calls Try.prog 20 #[.int .i64 n] w fun e w' => Below w.heap.size w w' ∧ RNewIs w w' n e := by
  go_enter Try.func20, Try.ntmps20
  by_cases h1 : n < 1
  · go_wp2
    refine bodyPost_ret (v := .tuple #[.pointer none, .int .i64 1]) ?_ rfl ⟨Below.refl _ _, .inl ⟨by omega, rfl⟩⟩
    simp [results, Try.results20, go_sem]
  by_cases h2 : 7 < n
  · go_wp2
    refine bodyPost_ret (v := .tuple #[.pointer none, .int .i64 1]) ?_ rfl ⟨Below.refl _ _, .inl ⟨by omega, rfl⟩⟩
    simp [results, Try.results20, go_sem]
  obtain ⟨m, rfl⟩ : ∃ m : Nat, n = m := ⟨n.toNat, by omega⟩
  obtain ⟨i1, hi1, hz1, hs1, hb1⟩ := info_parts infoSl
  obtain ⟨i2, hi2, hz2, hs2, hb2⟩ := info_parts infoBool
  have hmm : m * m ≤ 49 := Nat.mul_le_mul (by omega : m ≤ 7) (by omega : m ≤ 7)
  have HM := Lib.hid (show (m : Int) * (m : Int) = ((m * m : Nat) : Int) by simp)
  obtain ⟨k, hk⟩ : ∃ k, k = m * m := ⟨_, rfl⟩
  rw [← hk] at HM hmm
  have hw : IntKind.i64.wrap ((k : Nat) : Int) = (k : Int) := IntWalk.i64_in _ ⟨by omega, by omega⟩
  have hpr := HM.out
  have hmk1 := run_make_n (P := Try.prog) 69 40 i1 _ Try.underlying69 hi1 hz1 .i64 .i64 k (by rw [hb1]; omega) (by omega)
  have hmk2 := run_make_n (P := Try.prog) 70 4 i2 _ Try.underlying70 hi2 hz2 .i64 .i64 m (by rw [hb2]; omega) (by omega)
  rw [hs1, Nat.mul_one, show (Value.slice none 0 0).cells = #[.slice none 0 0] from rfl, madeCells_list] at hmk1
  rw [hs2, Nat.mul_one, show (Value.bool false).cells = #[.bool false] from rfl, madeCells_list] at hmk2
  have HK := Lib.hid hk
  clear hk
  go_wp2_with fail
  refine wp_region_held_drew (S := fun _ => True) (by kernel_rfl) trivial (fun hS => ?_)
  simp only [List.size_toArray, List.length_cons, List.length_nil]
  refine take_at (i := 0) (oi := _) (dst := some 10) (v := ?_) rfl rfl (by kernel_rfl) (by kernel_rfl) (by kernel_rfl) (fun _ _ _ h => h) (Or.inl ⟨by rfl, by intro w hSw; (try dsimp only at hSw); go_simp; (try with_reducible rfl)⟩) (by assumption) ?_; (try simp only [Act.put, List.setIfInBounds_toArray, List.set_cons_zero, List.set_cons_succ])
  refine take_at (i := 1) (oi := _) (dst := some 11) (v := ?_) rfl rfl (by kernel_rfl) (by kernel_rfl) (by kernel_rfl) (fun _ _ _ h => h) (Or.inl ⟨by rfl, by intro w hSw; (try dsimp only at hSw); go_simp; (try with_reducible rfl)⟩) (by assumption) ?_; (try simp only [Act.put, List.setIfInBounds_toArray, List.set_cons_zero, List.set_cons_succ])
  refine take_at (i := 2) (oi := _) (dst := some 12) (v := ?_) rfl rfl (by kernel_rfl) (by kernel_rfl) (by kernel_rfl) (fun _ _ _ h => h) (Or.inl ⟨by rfl, by intro w hSw; (try dsimp only at hSw); go_simp; (try with_reducible rfl)⟩) (by assumption) ?_; (try simp only [Act.put, List.setIfInBounds_toArray, List.set_cons_zero, List.set_cons_succ])
  refine take_at (i := 3) (oi := _) (dst := some 13) (v := ?_) rfl rfl (by kernel_rfl) (by kernel_rfl) (by kernel_rfl) (fun _ _ _ h => h) (Or.inl ⟨by rfl, by intro w hSw; (try dsimp only at hSw); go_simp; (try with_reducible rfl)⟩) (by assumption) ?_; (try simp only [Act.put, List.setIfInBounds_toArray, List.set_cons_zero, List.set_cons_succ])
  refine take_at (i := 5) (oi := _) (dst := some 15) (v := ?_) rfl rfl (by kernel_rfl) (by kernel_rfl) (by kernel_rfl) (fun _ _ _ h => h) (Or.inl ⟨by rfl, by intro w hSw; (try dsimp only at hSw); go_simp; (try with_reducible rfl)⟩) (by assumption) ?_; (try simp only [Act.put, List.setIfInBounds_toArray, List.set_cons_zero, List.set_cons_succ])
  refine wpAnyH_ready (rs := [4, 6]) (by kernel_rfl) (by simp) ?_
  refine AllReadyH.cons (o := _) rfl (fun K hK => ?_) (AllReadyH.cons (o := _) rfl (fun K hK => ?_) AllReadyH.nil)
  · go_simp
    refine hK.out _ _ trivial (fun _ => ?_)
    clear hK
    refine wpAnyH_ready (rs := [6]) (by kernel_rfl) (by simp) ?_; refine AllReadyH.cons (o := _) rfl (fun K hK => ?_) AllReadyH.nil; go_simp
    refine hK.out _ _ trivial (fun _ => ?_)
    clear hK
    refine take_at (i := 7) (oi := _) (dst := some 17) (v := ?_) rfl rfl (by kernel_rfl) (by kernel_rfl) (by kernel_rfl) (fun _ _ _ h => h) (Or.inl ⟨by rfl, by intro w hSw; (try dsimp only at hSw); go_simp; (try with_reducible rfl)⟩) (by assumption) ?_; (try simp only [Act.put, List.setIfInBounds_toArray, List.set_cons_zero, List.set_cons_succ])
    refine wpAnyH_ready (rs := [8]) (by kernel_rfl) (by simp) ?_; refine AllReadyH.cons (o := _) rfl (fun K hK => ?_) AllReadyH.nil; go_simp
    refine hK.out _ _ trivial (fun _ => ?_)
    clear hK
    refine take_at (i := 9) (oi := _) (dst := some 2) (v := ?_) rfl rfl (by kernel_rfl) (by kernel_rfl) (by kernel_rfl) (fun _ _ _ h => h) (Or.inl ⟨by rfl, by intro w hSw; (try dsimp only at hSw); go_simp; (try with_reducible rfl)⟩) (by assumption) ?_; (try simp only [Act.put, List.setIfInBounds_toArray, List.set_cons_zero, List.set_cons_succ])
    refine take_at (i := 10) (oi := _) (dst := some 3) (v := ?_) rfl rfl (by kernel_rfl) (by kernel_rfl) (by kernel_rfl) (fun _ _ _ h => h) (Or.inl ⟨by rfl, by intro w hSw; (try dsimp only at hSw); go_simp; (try with_reducible rfl)⟩) (by assumption) ?_; (try simp only [Act.put, List.setIfInBounds_toArray, List.set_cons_zero, List.set_cons_succ])
    refine wpAnyH_done (by kernel_rfl) ?_ _
    go_wp2
    simp only [← List.toArray_replicate]
    refine bodyPost_ret (v := .tuple #[.pointer (some ⟨w.heap.size + 1 + 1, 0, none⟩), .int .i64 0]) ?_ rfl ⟨(by (repeat first | refine Below.setCell ?_ (by first | omega | (dsimp only; omega) | (simp only [heap_drew, World.size_alloc, Gz.size_setCell]; omega)) _ | refine Below.alloc ?_ (by first | omega | (dsimp only; omega) | (simp only [heap_drew, World.size_alloc, Gz.size_setCell]; omega)) _ | refine Below.drew ?_); exact Below.refl _ _), .inr ⟨⟨by omega, by omega⟩, w.heap.size + 1 + 1, rfl, ?_⟩⟩
    · simp [results, Try.results20, go_sem]
    · rw [Int.toNat_natCast]
      refine ref_made (B := w.heap.size) (sd := w.heap.size + 1) HK.out ?_ ?_ ?_ ⟨⟨by omega, by simp⟩, ⟨by omega, by simp; try omega⟩, ⟨by omega, by simp; try omega⟩⟩
      · refine blkT_drew (blkT_at _ _ _ [_, _, _] ?_); simp
      · refine blkT_drew (BlkT.below (BlkT.below (blkT_at _ _ _ _ ?_) (below_alloc_one _ _)) (below_alloc_one _ _)); rfl
      · refine blkT_drew (BlkT.below (blkT_at _ _ _ _ ?_) (below_alloc_one _ _)); simp
  · go_simp
    refine hK.out _ _ trivial (fun _ => ?_)
    clear hK
    refine wpAnyH_ready (rs := [4]) (by kernel_rfl) (by simp) ?_; refine AllReadyH.cons (o := _) rfl (fun K hK => ?_) AllReadyH.nil; go_simp
    refine hK.out _ _ trivial (fun _ => ?_)
    clear hK
    refine take_at (i := 7) (oi := _) (dst := some 17) (v := ?_) rfl rfl (by kernel_rfl) (by kernel_rfl) (by kernel_rfl) (fun _ _ _ h => h) (Or.inl ⟨by rfl, by intro w hSw; (try dsimp only at hSw); go_simp; (try with_reducible rfl)⟩) (by assumption) ?_; (try simp only [Act.put, List.setIfInBounds_toArray, List.set_cons_zero, List.set_cons_succ])
    refine wpAnyH_ready (rs := [8]) (by kernel_rfl) (by simp) ?_; refine AllReadyH.cons (o := _) rfl (fun K hK => ?_) AllReadyH.nil; go_simp
    refine hK.out _ _ trivial (fun _ => ?_)
    clear hK
    refine take_at (i := 9) (oi := _) (dst := some 2) (v := ?_) rfl rfl (by kernel_rfl) (by kernel_rfl) (by kernel_rfl) (fun _ _ _ h => h) (Or.inl ⟨by rfl, by intro w hSw; (try dsimp only at hSw); go_simp; (try with_reducible rfl)⟩) (by assumption) ?_; (try simp only [Act.put, List.setIfInBounds_toArray, List.set_cons_zero, List.set_cons_succ])
    refine take_at (i := 10) (oi := _) (dst := some 3) (v := ?_) rfl rfl (by kernel_rfl) (by kernel_rfl) (by kernel_rfl) (fun _ _ _ h => h) (Or.inl ⟨by rfl, by intro w hSw; (try dsimp only at hSw); go_simp; (try with_reducible rfl)⟩) (by assumption) ?_; (try simp only [Act.put, List.setIfInBounds_toArray, List.set_cons_zero, List.set_cons_succ])
    refine wpAnyH_done (by kernel_rfl) ?_ _
    go_wp2
    simp only [← List.toArray_replicate]
    refine bodyPost_ret (v := .tuple #[.pointer (some ⟨w.heap.size + 1 + 1, 0, none⟩), .int .i64 0]) ?_ rfl ⟨(by (repeat first | refine Below.setCell ?_ (by first | omega | (dsimp only; omega) | (simp only [heap_drew, World.size_alloc, Gz.size_setCell]; omega)) _ | refine Below.alloc ?_ (by first | omega | (dsimp only; omega) | (simp only [heap_drew, World.size_alloc, Gz.size_setCell]; omega)) _ | refine Below.drew ?_); exact Below.refl _ _), .inr ⟨⟨by omega, by omega⟩, w.heap.size + 1 + 1, rfl, ?_⟩⟩
    · simp [results, Try.results20, go_sem]
    · rw [Int.toNat_natCast]
      refine ref_made (B := w.heap.size + 1) (sd := w.heap.size) HK.out ?_ ?_ ?_ ⟨⟨by omega, by simp⟩, ⟨by omega, by simp; try omega⟩, ⟨by omega, by simp; try omega⟩⟩
      · refine blkT_drew (blkT_at _ _ _ [_, _, _] ?_); simp
      · refine blkT_drew (BlkT.below (blkT_at _ _ _ _ ?_) (below_alloc_one _ _)); simp
      · refine blkT_drew (BlkT.below (BlkT.below (blkT_at _ _ _ _ ?_) (below_alloc_one _ _)) (below_alloc_one _ _)); rfl
end Go.Proofs.Ytjihiohmemmabaa

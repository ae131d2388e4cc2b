/- Both nets, in memory apart; counts of all slots. -/
import Derived.Test.YtjihiohmemmabaaNRefS
namespace Go.Proofs.Ytjihiohmemmabaa
open Go.RowKit Go.Gz Go.Maps
attribute [local go_sem] World.cell?_alloc_some frozen?_alloc_some

section
variable {w w' : World} {F G : Nat → Prop}
theorem RdP.blocks {cs : List Value} {x : Pkt} (h : RdP w F cs x) (hb : ∀ g, F g → w'.heap[g]? = w.heap[g]?) : RdP w' F cs x := by
  obtain ⟨D, c, e, h1⟩ := h
  exact ⟨D, c, e, h1.blocks hb⟩
theorem OwnPs.blocks {v : Value} {xs : List Pkt} (h : OwnPs w F v xs) (hb : ∀ g, F g → w'.heap[g]? = w.heap[g]?) : OwnPs w' F v xs := by
  obtain ⟨zs, h1, h2, h3, h4⟩ := h
  exact ⟨zs, h1, row_blocks h2 (fun g e => hb g (h3 g e)), h3, fun z hz => (h4 z hz).blocks hb⟩
theorem ownsMap_block {k : TypeId} {R : Value → Option (DataW Value × List MemPlace)} {b N : Nat} {D : DataW Value} (h : w.ownsMap Try.prog k R b N D) (hb : w'.heap[b]? = w.heap[b]?) : w'.ownsMap Try.prog k R b N D := by
  obtain ⟨es, clock, h1, rest⟩ := h
  exact ⟨es, clock, hb.trans h1, rest⟩
theorem NetIs.blocks {g : Nat} {nodes : Int} {N : Nat} {f : Int → Int → List Pkt} {S : Int → Bool} (h : NetIs w F g nodes N f S) (hb : ∀ g, F g → w'.heap[g]? = w.heap[g]?) : NetIs w' F g nodes N f S := by
  obtain ⟨bm, am, h1, h2, h3, hne, ⟨sl, ⟨D0, q1, q2⟩, h5, h6, h7⟩, D, h8, h9⟩ := h
  exact ⟨bm, am, (hb g h2).trans h1, h2, h3, hne, ⟨sl, ⟨D0, ownsMap_block q1 (hb bm h5), q2⟩, h5, fun i j hi hj => (h6 i j hi hj).blocks hb, h7⟩, D, ownsMap_block h8 (hb am h3), h9⟩
theorem RefIs.blocks {r n : Nat} {f : Int → Int → List Pkt} {S : Int → Bool} (h : RefIs w G r n f S) (hb : ∀ g, G g → w'.heap[g]? = w.heap[g]?) : RefIs w' G r n f S := by
  obtain ⟨B, sd, sl, h1, h2, h3, h4, h5, h6, h7⟩ := h
  exact ⟨B, sd, sl, (hb r h4.1).trans h1, (hb B h4.2.1).trans h2, (hb sd h4.2.2).trans h3, h4, h5, fun p hp => (h6 p hp).blocks hb, h7⟩
end

/-- Both nets, of the call's own, apart. -/
structure Two (w0 w : World) (F G : Nat → Prop) (g r n N : Nat) (f : Int → Int → List Pkt) (S : Int → Bool) (f2 : Int → Int → List Pkt) (S2 : Int → Bool) : Prop where
  net : NetIs w F g n N f S
  ref : RefIs w G r n f2 S2
  fin : ∀ b, F b → w0.heap.size ≤ b ∧ b < w.heap.size
  gin : ∀ b, G b → w0.heap.size ≤ b ∧ b < w.heap.size
  apart : ∀ b, F b → G b → False
  bel : Below w0.heap.size w0 w
section
variable {w0 w w' : World} {F G : Nat → Prop} {g r n N N' : Nat} {f f' f2 : Int → Int → List Pkt} {S S' S2 : Int → Bool}
theorem Two.below (h : Two w0 w F G g r n N f S f2 S2) (hb : Below w.heap.size w w') : Two w0 w' F G g r n N f S f2 S2 where
  net := h.net.below hb
  ref := h.ref.below hb
  fin := fun b hh => ⟨(h.fin b hh).1, Nat.lt_of_lt_of_le (h.fin b hh).2 hb.size⟩
  gin := fun b hh => ⟨(h.gin b hh).1, Nat.lt_of_lt_of_le (h.gin b hh).2 hb.size⟩
  apart := h.apart
  bel := h.bel.trans (hb.mono h.bel.size)
theorem Two.first (h : Two w0 w F G g r n N f S f2 S2) (hb : Beside F w w') (hn : NetIs w' (grow F w w') g n N' f' S') : Two w0 w' (grow F w w') G g r n N' f' S' f2 S2 where
  net := hn
  ref := h.ref.blocks (fun b hh => hb.2.2.2.2 b (h.gin b hh).2 (fun hf => h.apart b hf hh))
  fin := fun b hh => by
    have := hb.size
    have := h.bel.size
    rcases hh with hh | hh
    · have := h.fin b hh; omega
    · omega
  gin := fun b hh => ⟨(h.gin b hh).1, Nat.lt_of_lt_of_le (h.gin b hh).2 hb.size⟩
  apart := fun b hf hg => by
    rcases hf with hf | hf
    · exact h.apart b hf hg
    · have := h.gin b hg; omega
  bel := h.bel.trans (hb.below (fun b hh => (h.fin b hh).1) h.bel.size)
theorem Two.second (h : Two w0 w F G g r n N f S f2 S2) (hb : Beside G w w') (hn : RefIs w' (grow G w w') r n f' S') : Two w0 w' F (grow G w w') g r n N f S f' S' where
  net := h.net.blocks (fun b hh => hb.2.2.2.2 b (h.fin b hh).2 (fun hg => h.apart b hh hg))
  ref := hn
  gin := fun b hh => by
    have := hb.size
    have := h.bel.size
    rcases hh with hh | hh
    · have := h.gin b hh; omega
    · omega
  fin := fun b hh => ⟨(h.fin b hh).1, Nat.lt_of_lt_of_le (h.fin b hh).2 hb.size⟩
  apart := fun b hf hg => by
    rcases hg with hg | hg
    · exact h.apart b hf hg
    · have := h.fin b hf; omega
  bel := h.bel.trans (hb.below (fun b hh => (h.gin b hh).1) h.bel.size)
theorem Two.spare {row : Nat} (h : Two w0 w F G g r n N f S f2 S2) (hg : w.grownBy w' (some row)) (h0 : w0.heap.size ≤ row) (hF : ¬ F row) (hG : ¬ G row) : Two w0 w' F G g r n N f S f2 S2 where
  net := h.net.blocks (fun b hh => hg.block b (h.fin b hh).2 (fun e => by injection e with e; subst e; exact hF hh))
  ref := h.ref.blocks (fun b hh => hg.block b (h.gin b hh).2 (fun e => by injection e with e; subst e; exact hG hh))
  fin := fun b hh => ⟨(h.fin b hh).1, Nat.lt_of_lt_of_le (h.fin b hh).2 hg.size⟩
  gin := fun b hh => ⟨(h.gin b hh).1, Nat.lt_of_lt_of_le (h.gin b hh).2 hg.size⟩
  apart := h.apart
  bel := h.bel.grown hg h.bel.size (fun k e => by injection e with e; omega)
theorem Two.raise (h : Two w0 w F G g r n N f S f2 S2) (hN : N ≤ N') : Two w0 w F G g r n N' f S f2 S2 := { h with net := h.net.mono (fun _ hh => hh) hN }
end

/-- The state within a step: what was before it, beside both nets, stands; some blocks of the step's own. -/
def TS (w0 w wr : World) (F0 : Nat → Prop) (g r n N : Nat) (f : Int → Int → List Pkt) (S : Int → Bool) (f2 : Int → Int → List Pkt) (S2 : Int → Bool) (ks : List (Nat × TypeId × List Value)) : Prop :=
  w0.heap.size ≤ w.heap.size ∧ ∃ F G, Two w0 wr F G g r n N f S f2 S2 ∧ Beside F0 w wr ∧ (∀ b, F b ∨ G b → grow F0 w wr b) ∧ ∀ z ∈ ks, BlkT wr z.1 z.2.1 z.2.2 ∧ ¬ F z.1 ∧ ¬ G z.1 ∧ w.heap.size ≤ z.1
section
variable {w0 w wr w' : World} {F0 : Nat → Prop} {g r n N N' : Nat} {f f' f2 : Int → Int → List Pkt} {S S' S2 : Int → Bool} {ks ks' : List (Nat × TypeId × List Value)}
theorem TS.start {F G : Nat → Prop} (h : Two w0 w F G g r n N f S f2 S2) : TS w0 w w (fun b => F b ∨ G b) g r n N f S f2 S2 [] := ⟨h.bel.size, F, G, h, Beside.refl _ _, fun _ hh => .inl hh, fun z hz => by cases hz⟩
theorem TS.bel (h : TS w0 w wr F0 g r n N f S f2 S2 ks) : Below w0.heap.size w0 wr := by
  obtain ⟨_, F, G, h, _⟩ := h
  exact h.bel
theorem TS.size (h : TS w0 w wr F0 g r n N f S f2 S2 ks) : w.heap.size ≤ wr.heap.size := by
  obtain ⟨_, F, G, h, hb, _⟩ := h
  exact hb.size
theorem TS.blk (h : TS w0 w wr F0 g r n N f S f2 S2 ks) {q : Nat} {t : TypeId} {cs : List Value} (hz : (q, t, cs) ∈ ks) : BlkT wr q t cs := by
  obtain ⟨_, F, G, _, _, _, h4⟩ := h
  exact (h4 _ hz).1
theorem TS.sub (h : TS w0 w wr F0 g r n N f S f2 S2 ks) (hk : ∀ z ∈ ks', z ∈ ks) : TS w0 w wr F0 g r n N f S f2 S2 ks' := by
  obtain ⟨h0, F, G, h1, h2, h3, h4⟩ := h
  exact ⟨h0, F, G, h1, h2, h3, fun z hz => h4 z (hk z hz)⟩
theorem grow_up {F0 : Nat → Prop} {w wr w' : World} (h : wr.heap.size ≤ w'.heap.size) {b : Nat} (hb : grow F0 w wr b) : grow F0 w w' b := hb.imp id (fun hh => ⟨hh.1, by omega⟩)
theorem TS.below (h : TS w0 w wr F0 g r n N f S f2 S2 ks) (hb : Below wr.heap.size wr w') : TS w0 w w' F0 g r n N f S f2 S2 ks := by
  obtain ⟨h0, F, G, h1, h2, h3, h4⟩ := h
  exact ⟨h0, F, G, h1.below hb, h2.trans (Beside.of_below hb), fun b hh => grow_up hb.size (h3 b hh), fun z hz => ⟨(h4 z hz).1.below hb, (h4 z hz).2⟩⟩
theorem TS.new (h : TS w0 w wr F0 g r n N f S f2 S2 ks) (hb : Below wr.heap.size wr w') {q : Nat} {t : TypeId} {cs : List Value} (k : BlkT w' q t cs) (hq : wr.heap.size ≤ q) : TS w0 w w' F0 g r n N f S f2 S2 ((q, t, cs) :: ks) := by
  have hs := h.size
  obtain ⟨h0, F, G, h1, h2, h3, h4⟩ := h
  refine ⟨h0, F, G, h1.below hb, h2.trans (Beside.of_below hb), fun b hh => grow_up hb.size (h3 b hh), fun z hz => ?_⟩
  rcases List.mem_cons.1 hz with rfl | hz
  · exact ⟨k, fun hh => by have := h1.fin _ hh; dsimp only at this; omega, fun hh => by have := h1.gin _ hh; dsimp only at this; omega, by dsimp only; omega⟩
  · exact ⟨(h4 z hz).1.below hb, (h4 z hz).2⟩
/-- A store into a block of the step's own. -/
theorem TS.store {q : Nat} {t : TypeId} {cs cs' : List Value} (h : TS w0 w wr F0 g r n N f S f2 S2 ((q, t, cs) :: ks)) (hg : wr.grownBy w' (some q)) (k : BlkT w' q t cs') (hks : ∀ z ∈ ks, ¬ z.1 = q) : TS w0 w w' F0 g r n N f S f2 S2 ((q, t, cs') :: ks) := by
  have hs := h.size
  obtain ⟨h0, F, G, h1, h2, h3, h4⟩ := h
  obtain ⟨_, q2, q3, q4⟩ := h4 (q, t, cs) (List.mem_cons_self ..)
  refine ⟨h0, F, G, h1.spare hg (by dsimp only at q4; omega) q2 q3, h2.trans (Beside.of_grown hg (fun b e => by injection e with e; subst e; exact .inl (.inr ⟨q4, (h4 _ (List.mem_cons_self ..)).1.lt⟩))), fun b hh => grow_up hg.size (h3 b hh), fun z hz => ?_⟩
  rcases List.mem_cons.1 hz with rfl | hz
  · exact ⟨k, q2, q3, q4⟩
  · refine ⟨(hg.block z.1 (h4 z (List.mem_cons_of_mem _ hz)).1.lt (fun e => ?_)).trans (h4 z (List.mem_cons_of_mem _ hz)).1, (h4 z (List.mem_cons_of_mem _ hz)).2⟩
    injection e with e
    exact hks z hz e
end

theorem sum_where {α : Type} (h : α → Nat) (p : α → Bool) : ∀ (l : List α), (∀ x ∈ l, p x = false → h x = 0) → (l.map h).sum = ((l.filter p).map h).sum
  | [], _ => rfl
  | x :: l, hx => by
    have ih := sum_where h p l (fun y hy => hx y (by simp [hy]))
    rw [List.map_cons, List.sum_cons, ih, List.filter_cons]
    by_cases e : p x = true
    · rw [if_pos e, List.map_cons, List.sum_cons]
    · rw [if_neg e, hx x (by simp) (by simpa using e), Nat.zero_add]
theorem slots_pairs : ((List.range 7).all fun k => decide ((pairs.filter fun p : Int × Int => decide (1 ≤ p.1 ∧ p.1 ≤ (k : Int) + 1 ∧ 1 ≤ p.2 ∧ p.2 ≤ (k : Int) + 1)) = (List.range ((k + 1) * (k + 1))).map fun p => ((((p / (k + 1) : Nat) : Int) + 1, ((p % (k + 1) : Nat) : Int) + 1) : Int × Int))) = true := by decide +kernel
theorem total_slots {n : Nat} (h0 : 1 ≤ n) (hn : n ≤ 7) {h : Int → Int → Nat} (hz : ∀ i j, ¬ okWay n i j → h i j = 0) : total h = ((List.range (n * n)).map fun p => h ((p / n : Nat) + 1) ((p % n : Nat) + 1)).sum := by
  obtain ⟨m, rfl⟩ : ∃ m, n = m + 1 := ⟨n - 1, by omega⟩
  have h1 := List.all_eq_true.1 slots_pairs m (List.mem_range.2 (by omega))
  have h2 := of_decide_eq_true h1
  unfold total
  rw [sum_where (fun p : Int × Int => h p.1 p.2) (fun p => decide (1 ≤ p.1 ∧ p.1 ≤ (m : Int) + 1 ∧ 1 ≤ p.2 ∧ p.2 ≤ (m : Int) + 1)) pairs (fun p _ hp => hz _ _ (fun hok => by
    have h3 := of_decide_eq_false hp
    have h4 := hok.1
    have h5 := hok.2.1
    exact h3 ⟨by omega, by omega, by omega, by omega⟩)), h2, List.map_map]
  rfl
end Go.Proofs.Ytjihiohmemmabaa

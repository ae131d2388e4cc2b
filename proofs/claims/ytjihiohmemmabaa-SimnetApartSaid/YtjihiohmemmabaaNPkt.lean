/- Packets; the net in memory; the functions New, has, way, copied. -/
import Derived.Test.YtjihiohmemmabaaNMem
namespace Go.Proofs.Ytjihiohmemmabaa
open Go.RowKit Go.Gz
attribute [local go_sem] World.cell?_alloc_some frozen?_alloc_some

/-- A packet: from, to, kind; data. -/
abbrev Pkt := Int × Int × Int × List Int
/-- Bytes in a row of their own, whose block is in F. -/
def DataF (w : World) (F : Nat → Prop) (D : Option Addr) (n c : Nat) (l : List Int) : Prop := (n = 0 ∧ c = 0 ∧ l = []) ∨ (w.ownsRow 0 5 1 (.slice D n c) n (nums .u8 l) ∧ ∀ ad, D = some ad → F ad.block)
/-- Four cells read as a packet. -/
def IsP (w : World) (cs : List Value) (x : Pkt) : Prop := ∃ D c, cs = [.int .i64 x.1, .int .i64 x.2.1, .int .i64 x.2.2.1, .slice D x.2.2.2.length c] ∧ SlA w 1 D x.2.2.2.length (nums .u8 x.2.2.2)
def RdP (w : World) (F : Nat → Prop) (cs : List Value) (x : Pkt) : Prop := ∃ D c, cs = [.int .i64 x.1, .int .i64 x.2.1, .int .i64 x.2.2.1, .slice D x.2.2.2.length c] ∧ DataF w F D x.2.2.2.length c x.2.2.2
/-- Grown, but for a block that is not in F. -/
def Spared (F : Nat → Prop) (w w' : World) : Prop := ∃ row, w.grownBy w' row ∧ ∀ r, row = some r → ¬ F r
/-- A turn of what is no cells. -/
def Turn (w w' : World) : Prop := ∃ row, w.grownBy w' row ∧ ∀ r, row = some r → ∀ cur t fr, ¬ w.heap[r]? = some (.cells cur t fr)
section
variable {w w' : World} {F G : Nat → Prop}
theorem Spared.of_below (h : Below w.heap.size w w') : Spared F w w' := ⟨none, ⟨h.os, h.tape, h.output, h.size, fun k hk _ => h.block k hk⟩, fun r e => (by cases e)⟩
theorem row_turn {e : TypeId} {size n : Nat} {v : Value} {xs : List Value} (h : w.ownsRow 0 e size v n xs) (ht : Turn w w') : w'.ownsRow 0 e size v n xs := by
  obtain ⟨row, hg, hr⟩ := ht
  refine ⟨h.1, ?_⟩
  rcases h.2 with hn | ⟨g, cap, cur, hv, hbg, hgg, rest⟩
  · exact .inl hn
  · refine .inr ⟨g, cap, cur, hv, hbg, (hg.block g (Array.getElem?_eq_some_iff.1 hgg).1 (fun e' => ?_)).trans hgg, rest⟩
    exact hr g e'.symm _ _ _ hgg
theorem DataF.sl {D : Option Addr} {n c : Nat} {l : List Int} (h : DataF w F D n c l) : SlA w 1 D n (nums .u8 l) := by
  rcases h with ⟨rfl, rfl, rfl⟩ | ⟨h, _⟩
  · exact ⟨rfl, fun _ => rfl, fun ad _ j u hu => (by simp [nums] at hu)⟩
  · exact ownsRow_sl h
theorem DataF.grown {D : Option Addr} {n c : Nat} {l : List Int} (h : DataF w F D n c l) (hs : Spared F w w') : DataF w' F D n c l := by
  obtain ⟨row, hg, hr⟩ := hs
  refine h.imp id fun ⟨h1, h2⟩ => ⟨h1.kept hg ?_, h2⟩
  cases D with
  | none => exact .inl rfl
  | some ad => exact .inr (fun e => hr _ e.symm (h2 ad rfl))
theorem DataF.turn {D : Option Addr} {n c : Nat} {l : List Int} (h : DataF w F D n c l) (ht : Turn w w') : DataF w' F D n c l := h.imp id fun ⟨h1, h2⟩ => ⟨row_turn h1 ht, h2⟩
theorem DataF.same {D : Option Addr} {n c : Nat} {l : List Int} {e : TypeId} (h : DataF w F D n c l) (hs : SameBut e w w') (hne : 5 ≠ e) : DataF w' F D n c l := by
  refine h.imp id fun ⟨h1, h2⟩ => ⟨⟨h1.1, ?_⟩, h2⟩
  rcases h1.2 with hn | ⟨g, cap, cur, hv, hbg, hgg, rest⟩
  · exact .inl hn
  · exact .inr ⟨g, cap, cur, hv, hbg, hs g _ _ hgg hne, rest⟩
theorem DataF.mono {D : Option Addr} {n c : Nat} {l : List Int} (h : DataF w F D n c l) (hF : ∀ b, F b → G b) : DataF w G D n c l := h.imp id fun ⟨h1, h2⟩ => ⟨h1, fun ad e => hF _ (h2 ad e)⟩
theorem RdP.is {cs : List Value} {x : Pkt} (h : RdP w F cs x) : IsP w cs x := by
  obtain ⟨D, c, e, h1⟩ := h
  exact ⟨D, c, e, h1.sl⟩
theorem RdP.grown {cs : List Value} {x : Pkt} (h : RdP w F cs x) (hs : Spared F w w') : RdP w' F cs x := by
  obtain ⟨D, c, e, h1⟩ := h
  exact ⟨D, c, e, h1.grown hs⟩
theorem RdP.turn {cs : List Value} {x : Pkt} (h : RdP w F cs x) (hs : Turn w w') : RdP w' F cs x := by
  obtain ⟨D, c, e, h1⟩ := h
  exact ⟨D, c, e, h1.turn hs⟩
theorem RdP.same {cs : List Value} {x : Pkt} {t : TypeId} (h : RdP w F cs x) (hs : SameBut t w w') (hne : 5 ≠ t) : RdP w' F cs x := by
  obtain ⟨D, c, e, h1⟩ := h
  exact ⟨D, c, e, h1.same hs hne⟩
theorem RdP.mono {cs : List Value} {x : Pkt} (h : RdP w F cs x) (hF : ∀ b, F b → G b) : RdP w G cs x := by
  obtain ⟨D, c, e, h1⟩ := h
  exact ⟨D, c, e, h1.mono hF⟩
theorem RdP.len {cs : List Value} {x : Pkt} (h : RdP w F cs x) : cs.length = 4 := by
  obtain ⟨D, c, e, _⟩ := h
  rw [e]
  rfl
theorem RdP.one {cs : List Value} {x : Pkt} (h : RdP w F cs x) : ∀ v ∈ cs, v.oneCell' = true := by
  obtain ⟨D, c, e, _⟩ := h
  rw [e]
  intro v hv
  simp at hv
  rcases hv with rfl | rfl | rfl | rfl <;> rfl
theorem IsP.below {cs : List Value} {x : Pkt} (h : IsP w cs x) (hb : Below w.heap.size w w') : IsP w' cs x := by
  obtain ⟨D, c, e, h1⟩ := h
  exact ⟨D, c, e, h1.below hb⟩
end
/-- A slice that owns packets. -/
def OwnPs (w : World) (F : Nat → Prop) (v : Value) (xs : List Pkt) : Prop := ∃ zs : List (List Value × Pkt), zs.map (·.2) = xs ∧ w.ownsRow 0 29 4 v zs.length (zs.flatMap (·.1)) ∧ (∀ g, v.ownBlock = some g → F g) ∧ ∀ z ∈ zs, RdP w F z.1 z.2
theorem OwnPs.grown {w w' : World} {F : Nat → Prop} {v : Value} {xs : List Pkt} (h : OwnPs w F v xs) (hs : Spared F w w') : OwnPs w' F v xs := by
  obtain ⟨zs, h1, h2, h3, h4⟩ := h
  have hs' := hs
  obtain ⟨row, hg, hr⟩ := hs
  refine ⟨zs, h1, h2.kept hg ?_, h3, fun z hz => (h4 z hz).grown hs'⟩
  cases hv : v.ownBlock with
  | none => exact .inl rfl
  | some g => exact .inr (fun e => hr g e.symm (h3 g hv))
theorem OwnPs.mono {w : World} {F G : Nat → Prop} {v : Value} {xs : List Pkt} (h : OwnPs w F v xs) (hF : ∀ b, F b → G b) : OwnPs w G v xs := by
  obtain ⟨zs, h1, h2, h3, h4⟩ := h
  exact ⟨zs, h1, h2, fun g e => hF g (h3 g e), fun z hz => (h4 z hz).mono hF⟩
theorem OwnPs.nil (w : World) (F : Nat → Prop) : OwnPs w F nilV [] := ⟨[], rfl, World.ownsRow_nil _ _ _ _, fun g e => (by cases e), fun z hz => (by cases hz)⟩
theorem OwnPs.slice {w : World} {F : Nat → Prop} {v : Value} {xs : List Pkt} (h : OwnPs w F v xs) : ∃ A c, v = .slice A xs.length c := by
  obtain ⟨zs, h1, ⟨_, h2⟩, _⟩ := h
  rw [← h1, List.length_map]
  rcases h2 with ⟨rfl, h0⟩ | ⟨g, cap, cur, rfl, _⟩
  · exact ⟨none, 0, by rw [h0]⟩
  · exact ⟨_, _, rfl⟩

/-- The bags. -/
def BagsAt (w : World) (F : Nat → Prop) (bm N : Nat) (f : Int → Int → List Pkt) : Prop := ∃ sl, BagMap w bm N sl ∧ F bm ∧ (∀ i j, Small i → Small j → OwnPs w F (sl i j) (f i j)) ∧
  ∀ i j a b, Small i → Small j → Small a → Small b → ¬ (i = a ∧ j = b) → (sl i j).ownBlock = none ∨ (sl i j).ownBlock ≠ (sl a b).ownBlock
theorem BagsAt.grown {w w' : World} {F : Nat → Prop} {bm N : Nat} {f : Int → Int → List Pkt} (h : BagsAt w F bm N f) (hs : Spared F w w') : BagsAt w' F bm N f := by
  obtain ⟨sl, h1, h2, h3, h4⟩ := h
  have hs' := hs
  obtain ⟨row, hg, hr⟩ := hs
  exact ⟨sl, h1.kept hg (fun e => hr bm e.symm h2), h2, fun i j hi hj => (h3 i j hi hj).grown hs', h4⟩
theorem BagsAt.mono {w : World} {F G : Nat → Prop} {bm N : Nat} {f : Int → Int → List Pkt} (h : BagsAt w F bm N f) (hF : ∀ b, F b → G b) : BagsAt w G bm N f := by
  obtain ⟨sl, h1, h2, h3, h4⟩ := h
  exact ⟨sl, h1, hF _ h2, fun i j hi hj => (h3 i j hi hj).mono hF, h4⟩
/-- The sides. -/
def AsideAt (w : World) (am N : Nat) (S : Int → Bool) : Prop := ∃ D : DataW Value, w.ownsMap Try.prog 3 (plainElem Try.prog 4) am N D ∧ ∀ i, (Lit.int .i64 i).wf = true → D.atKey (.int .i64 i) (.lit (.bool false)) = .lit (.bool (S i))
/-- The net. -/
def NetIs (w : World) (F : Nat → Prop) (g : Nat) (nodes : Int) (N : Nat) (f : Int → Int → List Pkt) (S : Int → Bool) : Prop := ∃ bm am, BlkT w g 58 [.int .i64 nodes, .map (some bm), .map (some am)] ∧ F g ∧ F am ∧ ¬ am = bm ∧ BagsAt w F bm N f ∧ AsideAt w am N S
theorem NetIs.grown {w w' : World} {F : Nat → Prop} {g : Nat} {nodes : Int} {N : Nat} {f : Int → Int → List Pkt} {S : Int → Bool} (h : NetIs w F g nodes N f S) (hs : Spared F w w') : NetIs w' F g nodes N f S := by
  obtain ⟨bm, am, h1, h2, h3, hne, h4, D, h5, h6⟩ := h
  have hs' := hs
  obtain ⟨row, hg, hr⟩ := hs
  exact ⟨bm, am, (hg.block g h1.lt (fun e => hr g e.symm h2)).trans h1, h2, h3, hne, h4.grown hs', D, h5.kept hg (fun e => hr am e.symm h3), h6⟩
theorem NetIs.below {w w' : World} {F : Nat → Prop} {g : Nat} {nodes : Int} {N : Nat} {f : Int → Int → List Pkt} {S : Int → Bool} (h : NetIs w F g nodes N f S) (hb : Below w.heap.size w w') : NetIs w' F g nodes N f S := h.grown (Spared.of_below hb)

/-- What New answers. -/
def NewIs (w w' : World) (n : Int) (e : Ending) : Prop :=
  (¬ (1 ≤ n ∧ n ≤ 7) ∧ e = .returned (.tuple #[.pointer none, .int .i64 1])) ∨ ((1 ≤ n ∧ n ≤ 7) ∧ ∃ g, e = .returned (.tuple #[.pointer (some ⟨g, 0, none⟩), .int .i64 0]) ∧ NetIs w' (fun b => w.heap.size ≤ b ∧ b < w'.heap.size) g n 0 (fun _ _ => []) (fun _ => false))
/-- New: of so many nodes. -/
theorem new_any (n : Int) (w : World) : Calls Try.prog 9 #[.int .i64 n] w fun e w' => Below w.heap.size w w' ∧ NewIs w w' n e := by
  have hmm := @run_makeMap Try.prog
  go_enter Try.func9, Try.ntmps9
  by_cases h1 : n < 1
  · go_wp2
    refine bodyPost_ret (v := .tuple #[.pointer none, .int .i64 1]) ?_ rfl ⟨Below.refl _ _, .inl ⟨by omega, rfl⟩⟩
    simp [results, Try.results9, go_sem]
  by_cases h2 : 7 < n
  · go_wp2
    refine bodyPost_ret (v := .tuple #[.pointer none, .int .i64 1]) ?_ rfl ⟨Below.refl _ _, .inl ⟨by omega, rfl⟩⟩
    simp [results, Try.results9, go_sem]
  go_wp2
  have hb : Below w.heap.size w (((w.alloc (.map #[] 0)).alloc (.map #[] 0)).alloc (.cells #[.int .i64 n, .map (some w.heap.size), .map (some (w.heap.size + 1))] 58)) := (by (repeat first | refine Below.setCell ?_ (by first | omega | (dsimp only; omega) | (simp only [heap_drew, World.size_alloc, Gz.size_setCell]; omega)) _ | refine Below.alloc ?_ (by first | omega | (dsimp only; omega) | (simp only [heap_drew, World.size_alloc, Gz.size_setCell]; omega)) _ | refine Below.drew ?_); exact Below.refl _ _)
  refine bodyPost_ret (v := .tuple #[.pointer (some ⟨w.heap.size + 1 + 1, 0, none⟩), .int .i64 0]) ?_ rfl ⟨hb, .inr ⟨⟨by omega, by omega⟩, w.heap.size + 1 + 1, rfl, w.heap.size, w.heap.size + 1, ?_, ⟨by omega, by simp⟩, ⟨by omega, by simp; try omega⟩, by omega, ⟨fun _ _ => nilV, ?_, ⟨by omega, by simp; omega⟩, fun _ _ _ _ => OwnPs.nil _ _, fun _ _ _ _ _ _ _ _ _ => .inl rfl⟩, .map [], ?_, fun i _ => rfl⟩⟩
  · simp [results, Try.results9, go_sem]
  · have h3 := BlkT.new ((w.alloc (.map #[] 0)).alloc (.map #[] 0)) 58 [.int .i64 n, .map (some w.heap.size), .map (some (w.heap.size + 1))]
    simpa using h3
  · exact ((bag_made w).kept (World.grownBy_alloc _ _ none) (by simp)).kept (World.grownBy_alloc _ _ none) (by simp)
  · have h3 := (World.ownsMap_made (w.alloc (.map #[] 0)) Try.prog 3 (plainElem (H := Value) Try.prog 4)).alloc (.cells #[.int .i64 n, .map (some w.heap.size), .map (some (w.heap.size + 1))] 58)
    simpa using h3

theorem has_any (w : World) (F : Nat → Prop) (g : Nat) (nodes : Int) (N : Nat) (f : Int → Int → List Pkt) (S : Int → Bool) (node : Int) (h : NetIs w F g nodes N f S) :
    Calls Try.prog 26 #[.pointer (some ⟨g, 0, none⟩), .int .i64 node] w fun e w' => e = .returned (.bool (decide (1 ≤ node) && decide (node ≤ nodes))) ∧ Below w.heap.size w w' := by
  obtain ⟨bm, am, hg, _⟩ := h
  have cg := hg.blk.cell
  go_enter Try.func26, Try.ntmps26
  by_cases h1 : 1 ≤ node
  · go_wp2
    go_ret
    refine ⟨congrArg (fun b => Ending.returned (.bool b)) (?_ : decide (node ≤ nodes) = _), Below.refl _ _⟩
    rw [decide_eq_true h1, Bool.true_and]
  · go_wp2
    go_ret
    refine ⟨congrArg (fun b => Ending.returned (.bool b)) (?_ : false = _), Below.refl _ _⟩
    rw [decide_eq_false (by omega), Bool.false_and]

theorem copied_any (cs : List Value) (x : Pkt) (w : World) (h : IsP w cs x) (hf : x.2.2.2.length ≤ 140737488355328) :
    Calls Try.prog 28 #[.agg cs.toArray] w fun e w' => Below w.heap.size w w' ∧ ∃ cs' : List Value, e = .returned (.agg cs'.toArray) ∧ RdP w' (fun b => w.heap.size ≤ b ∧ b < w'.heap.size) cs' x := by
  obtain ⟨i, t, k, ds⟩ := x
  obtain ⟨D, dc, rfl, hs⟩ := h
  dsimp only at hs hf
  have H := Lib.hid hs
  clear hs
  dsimp only
  go_enter Try.func28, Try.ntmps28
  go_wp2_with fail
  refine name_calls (fun w1 hw1 => ?_)
  have k1 : Blk w1 w.heap.size [.int .i64 i, .int .i64 t, .int .i64 k, .slice D ds.length dc] := by rw [hw1]; exact (Blk.new _ _ _ _ rfl).alloc _
  have k2 : Blk w1 (w.heap.size + 1) [.int .i64 0, .int .i64 0, .int .i64 0, .slice none 0 0] := by rw [hw1]; exact Blk.new _ _ _ _ (by simp)
  have hb1 : Below w.heap.size w w1 := by rw [hw1]; exact (by (repeat first | refine Below.setCell ?_ (by first | omega | (dsimp only; omega) | (simp only [heap_drew, World.size_alloc, Gz.size_setCell]; omega)) _ | refine Below.alloc ?_ (by first | omega | (dsimp only; omega) | (simp only [heap_drew, World.size_alloc, Gz.size_setCell]; omega)) _ | refine Below.drew ?_); exact Below.refl _ _)
  have hz1 : w1.heap.size = w.heap.size + 2 := by rw [hw1]; simp
  clear hw1
  refine (clone_bytes D ds.length dc ds w1 (H.out.below hb1) hf).mono ?_
  rintro e w2 ⟨hb2, A2, c2, rfl, ho2⟩
  have k1 := k1.ext hb2
  have k2 := k2.ext hb2
  have hz2 := hb2.size
  have hb2' := hb1.trans (hb2.mono hb1.size)
  go_wp2_with (with_reducible refine stop_store ?_)
  refine hide (wpList_store_part rfl 22 (.tmp 6) (.tmp 5) rfl w.heap.size 3 _ [.slice A2 ds.length c2] rfl rfl rfl _ k1 (by simp) (by kernel_rfl) rfl _ rfl ?_)
  intro w3 k1 hg3 hz3
  simp only [List.take_succ_cons, List.take_zero, List.drop_succ_cons, List.drop_zero, List.cons_append, List.nil_append, List.length_cons, List.length_nil] at k1
  have k2 := blk_grown k2 hg3 (by omega)
  have hb3 := below_grown hb2' hg3 (Nat.le_refl _) (by omega)
  have ho3 := ho2.grown hg3 (fun r e => by injection e with e; omega)
  have c1 := k1.cell
  go_wp2_with (with_reducible refine stop_store ?_)
  refine hide (wpList_store_blk rfl 29 (.tmp 2) (.tmp 7) rfl (w.heap.size + 1) [.int .i64 i, .int .i64 t, .int .i64 k, .slice A2 ds.length c2] rfl rfl _ k2 rfl (by kernel_rfl) rfl ?_)
  intro w4 k2 hg4 hz4
  have ho4 := ho3.grown hg4 (fun r e => by injection e with e; omega)
  go_wp2
  refine bodyPost_ret (v := .agg #[.int .i64 i, .int .i64 t, .int .i64 k, .slice A2 ds.length c2]) ?_ rfl ⟨below_grown hb3 hg4 (by omega) (by omega), [.int .i64 i, .int .i64 t, .int .i64 k, .slice A2 ds.length c2], rfl, A2, c2, rfl, ?_⟩
  · simp [results, Try.results28, go_sem, k2.cell]
  · rcases ho4 with ⟨h1, h2, h3⟩ | h4
    · exact .inl ⟨h1, h2, nums_eq_nil h3⟩
    · refine .inr ⟨⟨h4.1, ?_⟩, fun ad e => ?_⟩
      · rcases h4.2 with hn | ⟨g, cap, cur, hv, hbg, rest⟩
        · exact .inl hn
        · exact .inr ⟨g, cap, cur, hv, Nat.zero_le _, rest⟩
      · have := h4.lt ad.block (by rw [e]; rfl)
        exact ⟨by omega, this.2⟩
end Go.Proofs.Ytjihiohmemmabaa

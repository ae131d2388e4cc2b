/- A region that draws its order, whose last operations (the stores) wait for all others: whatever order is drawn, the others come first, then the last ones in the text's order. No program is named. -/
import Derived.Test.YtjihiohmemmabaaBase
namespace Go.Gz
open Go.RowKit

/-- The first part asks nothing of the second; each of the second waits for all before it. -/
def phaseOk (l1 l2 : List Oper) : Bool :=
  ((List.range l1.length).all fun j => match l1[j]? with
    | some o => (o.after.all fun e => !Region.binds .any e || decide (e.on < j)) && (match o.guard with | some (g, _) => decide (g < l1.length) | none => true)
    | none => true) &&
  ((List.range l2.length).all fun j => match l2[j]? with
    | some o => (o.after.all fun e => !Region.binds .any e || decide (e.on < l1.length + j)) && (List.range (l1.length + j)).all fun i => o.after.any fun e => Region.binds .any e && e.on == i
    | none => true)

section
variable {l1 l2 : List Oper}
theorem phase_first (hB : phaseOk l1 l2 = true) {j : Nat} {o : Oper} (ho : l1[j]? = some o) : (∀ e ∈ o.after, Region.binds .any e = true → e.on < j) ∧ (∀ g w, o.guard = some (g, w) → g < l1.length) := by
  have hj : j < l1.length := (List.getElem?_eq_some_iff.1 ho).1
  have h1 := (Bool.and_eq_true_iff.1 hB).1
  have h2 := List.all_eq_true.1 h1 j (List.mem_range.2 hj)
  simp only [ho, Bool.and_eq_true] at h2
  refine ⟨fun e he hb => ?_, fun g w hg => ?_⟩
  · have h3 := Array.all_eq_true_iff_forall_mem.1 h2.1 e he
    simpa [hb] using h3
  · have h3 := h2.2
    rw [hg] at h3
    simpa using h3
theorem phase_second (hB : phaseOk l1 l2 = true) {j : Nat} {o : Oper} (ho : l2[j]? = some o) : (∀ e ∈ o.after, Region.binds .any e = true → e.on < l1.length + j) ∧ ∀ i, i < l1.length + j → ∃ e ∈ o.after, Region.binds .any e = true ∧ e.on = i := by
  have hj : j < l2.length := (List.getElem?_eq_some_iff.1 ho).1
  have h1 := (Bool.and_eq_true_iff.1 hB).2
  have h2 := List.all_eq_true.1 h1 j (List.mem_range.2 hj)
  simp only [ho, Bool.and_eq_true] at h2
  refine ⟨fun e he hb => ?_, fun i hi => ?_⟩
  · have h3 := Array.all_eq_true_iff_forall_mem.1 h2.1 e he
    simpa [hb] using h3
  · have h3 := List.all_eq_true.1 h2.2 i (List.mem_range.2 hi)
    obtain ⟨e, he, hb⟩ := Array.any_eq_true'.1 h3
    simp only [Bool.and_eq_true, beq_iff_eq] at hb
    exact ⟨e, he, hb.1, hb.2⟩

theorem getD_left {x y : Array Bool} {i : Nat} (h : i < x.size) (d : Bool) : (x ++ y).getD i d = x.getD i d := by
  simp [Array.getElem?_append_left h]
theorem getD_right {x : Array Bool} {m i : Nat} (h : x.size ≤ i) (h2 : i < x.size + m) (d : Bool) : (x ++ Array.replicate m false).getD i d = false := by
  have h3 : i - x.size < m := by omega
  simp [Array.getElem?_append_right h, Array.getElem?_replicate, h3]

/-- Someone of the first part has not come up: just those of the first part may come up. -/
theorem ready_first (hB : phaseOk l1 l2 = true) {x : Array Bool} (hx : x.size = l1.length) {u : Nat} (hu : u < l1.length) (hun : x.getD u true = false) (i : Nat) :
    i ∈ Region.ready .any (l1 ++ l2).toArray (x ++ Array.replicate l2.length false) ↔ i ∈ Region.ready .any l1.toArray x := by
  rw [mem_ready, mem_ready]
  simp only [List.getElem?_toArray]
  by_cases hi : i < l1.length
  · rw [List.getElem?_append_left hi, getD_left (by omega)]
    refine and_congr_right fun _ => exists_congr fun o => and_congr_right fun ho => ?_
    refine forall_congr' fun e => forall_congr' fun he => forall_congr' fun hb => ?_
    have := (phase_first hB ho).1 e he hb
    rw [getD_left (by omega)]
  · constructor
    · rintro ⟨h0, o, ho, hall⟩
      exfalso
      rw [List.getElem?_append_right (by omega)] at ho
      obtain ⟨e, he, hb, hon⟩ := (phase_second hB ho).2 u (by omega)
      have h3 := hall e he hb
      rw [hon, getD_left (by omega)] at h3
      have h4 : u < x.size := by omega
      simp [h4] at h3 hun
      rw [h3] at hun
      cases hun
    · rintro ⟨h0, o, ho, _⟩
      have := (List.getElem?_eq_some_iff.1 ho).1
      omega

/-- Somebody may come up as long as not all have. -/
theorem ready_some (hB : phaseOk l1 l2 = true) {x : Array Bool} (hx : x.size = l1.length) : ∀ u, u < l1.length → x.getD u true = false → Region.ready .any l1.toArray x ≠ [] := by
  intro u
  induction u using Nat.strongRecOn with
  | _ u ih =>
    intro hu hun
    by_cases hr : u ∈ Region.ready .any l1.toArray x
    · exact fun h => by rw [h] at hr; cases hr
    · have ho : l1[u]? = some l1[u] := List.getElem?_eq_getElem hu
      rw [mem_ready] at hr
      have hr' : ∃ e ∈ l1[u].after, Region.binds .any e = true ∧ x.getD e.on false = false := by
        apply Classical.byContradiction
        intro hne
        apply hr
        refine ⟨hun, l1[u], by simp, fun e he hb => ?_⟩
        cases hv : x.getD e.on false
        · exact absurd ⟨e, he, hb, hv⟩ hne
        · rfl
      obtain ⟨e, he, hb, hv⟩ := hr'
      have hlt := (phase_first hB ho).1 e he hb
      refine ih e.on hlt (by omega) ?_
      have h4 : e.on < x.size := by omega
      simpa [h4] using hv

variable {P : Program} {Q : Exit → Act → World → Prop}
theorem wpOp_first (hB : phaseOk l1 l2 = true) {next : Act → World → Prop} {i : Nat} (hi : i < l1.length) {K : Act → World → Prop} {a : Act} {w : World}
    (h : wpOp P l1.toArray (Exit.then next Q) i K a w) : wpOp P (l1 ++ l2).toArray Q i K a w := by
  have ho : l1[i]? = some l1[i] := List.getElem?_eq_getElem hi
  have ho2 : (l1 ++ l2)[i]? = some l1[i] := by rw [List.getElem?_append_left hi]; exact ho
  unfold wpOp at *
  simp only [List.getElem?_toArray, ho] at h
  simp only [List.getElem?_toArray, ho2]
  have hy : Region.wanted l1[i] (yielded (l1 ++ l2).toArray a.tmps) = Region.wanted l1[i] (yielded l1.toArray a.tmps) := by
    unfold Region.wanted
    cases hg : l1[i].guard with
    | none => rfl
    | some gw =>
      obtain ⟨g, want⟩ := gw
      have hlt := (phase_first hB ho).2 g want hg
      have : yielded (l1 ++ l2).toArray a.tmps g = yielded l1.toArray a.tmps g := by
        unfold yielded
        simp only [List.getElem?_toArray, List.getElem?_append_left hlt]
      simp only [this]
  rw [hy]
  split
  · rename_i hw
    rw [if_pos hw] at h
    refine h.imp (fun h => ?_) (fun h => ⟨h.1, ?_⟩)
    · unfold Oper.wp at *
      generalize (execOp a.eval l1[i]).run P w = r at *
      cases r with
      | ok n w' => cases n <;> simp only [Oper.upon] at h ⊢ <;> first | exact h | exact Calls.mono h (fun e w'' he => by cases e <;> first | exact he | exact (let ⟨a0, w0, hq⟩ := he; ⟨a0, w0, hq⟩))
      | halt x w' => cases x <;> simp only [Oper.upon] at h ⊢ <;> exact h
    · obtain ⟨a0, w0, hq⟩ := h.2
      exact ⟨a0, w0, hq⟩
  · rename_i hw
    rw [if_neg hw] at h
    exact h

/-- More fuel does no harm. -/
theorem wpAny_fuel {ops : Array Oper} : ∀ (n m : Nat), m ≤ n → ∀ (x : Array Bool) (a : Act) (w : World), wpAny P .any ops Q m x a w → wpAny P .any ops Q n x a w := by
  intro n
  induction n with
  | zero =>
    intro m hm x a w h
    have : m = 0 := by omega
    subst this
    exact h
  | succ n ih =>
    intro m hm x a w h
    cases m with
    | zero => exact ⟨fun _ => h.2, fun i hi => by rw [h.1] at hi; cases hi⟩
    | succ m => exact ⟨h.1, fun i hi => wpOp_mono (fun a' w' h' => ih m (by omega) _ a' w' h') (h.2 i hi)⟩

/-- The last ones, in the text's order. -/
theorem wpAny_last (hB : phaseOk l1 l2 = true) : ∀ (n : Nat) (j : Nat) (x : Array Bool) (a : Act) (w : World), j + n = l2.length → x.size = l1.length + l2.length →
    (∀ i, i < l1.length + j → x.getD i true = true) → (∀ i, l1.length + j ≤ i → i < l1.length + l2.length → x.getD i true = false) →
    wpList P (l1 ++ l2).toArray Q (l2.drop j) a w → wpAny P .any (l1 ++ l2).toArray Q n x a w := by
  intro n
  induction n with
  | zero =>
    intro j x a w hj hx ht hf h
    have hd : l2.drop j = [] := List.drop_eq_nil_of_le (by omega)
    rw [hd] at h
    refine ⟨?_, h⟩
    apply List.eq_nil_iff_forall_not_mem.2
    intro i hi
    obtain ⟨h0, o, ho, _⟩ := mem_ready.1 hi
    have hlt : i < (l1 ++ l2).length := by simpa using (Array.getElem?_eq_some_iff.1 ho).1
    rw [List.length_append] at hlt
    rw [ht i (by omega)] at h0
    cases h0
  | succ n ih =>
    intro j x a w hj hx ht hf h
    have hjl : j < l2.length := by omega
    have ho : l2[j]? = some l2[j] := List.getElem?_eq_getElem hjl
    have hop : (l1 ++ l2)[l1.length + j]? = some l2[j] := by rw [List.getElem?_append_right (by omega), Nat.add_sub_cancel_left]; exact ho
    have hr : ∀ i, i ∈ Region.ready .any (l1 ++ l2).toArray x ↔ i = l1.length + j := by
      intro i
      rw [mem_ready]
      constructor
      · rintro ⟨h0, o, hoi, hall⟩
        have hlt : i < (l1 ++ l2).length := by simpa using (Array.getElem?_eq_some_iff.1 hoi).1
        rw [List.length_append] at hlt
        rcases Nat.lt_trichotomy i (l1.length + j) with hc | hc | hc
        · rw [ht i hc] at h0; cases h0
        · exact hc
        · exfalso
          rw [List.getElem?_toArray, List.getElem?_append_right (by omega)] at hoi
          obtain ⟨e, he, hb, hon⟩ := (phase_second hB hoi).2 (l1.length + j) (by omega)
          have h3 := hall e he hb
          have h4 := hf (l1.length + j) (Nat.le_refl _) (by omega)
          have h5 : l1.length + j < x.size := by omega
          rw [hon] at h3
          simp [h5] at h3 h4
          rw [h3] at h4
          cases h4
      · rintro rfl
        refine ⟨hf _ (Nat.le_refl _) (by omega), l2[j], by rw [List.getElem?_toArray]; exact hop, fun e he hb => ?_⟩
        have hlt := (phase_second hB ho).1 e he hb
        have h4 := ht e.on hlt
        have h5 : e.on < x.size := by omega
        simpa [h5] using h4
    rw [List.drop_eq_getElem_cons hjl] at h
    refine ⟨fun h0 => ?_, fun i hi => ?_⟩
    · have := (hr (l1.length + j)).2 rfl
      rw [h0] at this
      cases this
    · have hij := (hr i).1 hi
      subst hij
      unfold wpOp
      simp only [List.getElem?_toArray, hop]
      unfold wpList at h
      have step : ∀ a w, wpList P (l1 ++ l2).toArray Q (l2.drop (j + 1)) a w → wpAny P .any (l1 ++ l2).toArray Q n (x.setIfInBounds (l1.length + j) true) a w := by
        intro a w hh
        refine ih (j + 1) _ a w (by omega) (by simpa using hx) (fun i hi => ?_) (fun i hi1 hi2 => ?_) hh
        · by_cases e : l1.length + j = i
          · subst e
            have h5 : l1.length + j < x.size := by omega
            simp [h5]
          · rw [getD_set_ne true e]; exact ht i (by omega)
        · rw [getD_set_ne true (by omega)]; exact hf i (by omega) hi2
      split
      · rename_i hw
        rw [if_pos hw] at h
        exact h.imp (Oper.wp_mono step) id
      · rename_i hw
        rw [if_neg hw] at h
        exact step _ _ h

theorem wpAny_first_part (hB : phaseOk l1 l2 = true) : ∀ (fuel : Nat) (x : Array Bool) (a : Act) (w : World), x.size = l1.length →
    wpAny P .any l1.toArray (Exit.then (wpList P (l1 ++ l2).toArray Q l2) Q) fuel x a w → wpAny P .any (l1 ++ l2).toArray Q (fuel + l2.length) (x ++ Array.replicate l2.length false) a w := by
  intro fuel
  have done : ∀ (x : Array Bool) (a : Act) (w : World), x.size = l1.length → Region.ready .any l1.toArray x = [] → wpList P (l1 ++ l2).toArray Q l2 a w → ∀ n, l2.length ≤ n →
      wpAny P .any (l1 ++ l2).toArray Q n (x ++ Array.replicate l2.length false) a w := by
    intro x a w hx hr hq n hn
    have hall : ∀ i, i < l1.length → x.getD i true = true := by
      intro i hi
      cases hv : x.getD i true
      · exact absurd hr (ready_some hB hx i hi hv)
      · rfl
    have h0 : wpAny P .any (l1 ++ l2).toArray Q l2.length (x ++ Array.replicate l2.length false) a w :=
      wpAny_last hB l2.length 0 _ a w (by omega) (by simp [hx]) (fun i hi => by rw [getD_left (by omega)]; exact hall i (by omega)) (fun i h1 h2 => getD_right (by omega) (by omega) _) (by simpa using hq)
    exact wpAny_fuel n l2.length hn _ a w h0
  induction fuel with
  | zero =>
    intro x a w hx h
    exact done x a w hx h.1 h.2 _ (by omega)
  | succ fuel ih =>
    intro x a w hx h
    by_cases hr : Region.ready .any l1.toArray x = []
    · exact done x a w hx hr (h.1 hr) _ (by omega)
    · have hu : ∃ u, u < l1.length ∧ x.getD u true = false := by
        obtain ⟨i, hi⟩ := List.exists_mem_of_ne_nil _ hr
        obtain ⟨h0, o, ho, _⟩ := mem_ready.1 hi
        exact ⟨i, by simpa using (Array.getElem?_eq_some_iff.1 ho).1, h0⟩
      obtain ⟨u, hu, hun⟩ := hu
      have hrf := ready_first hB hx hu hun
      rw [show fuel + 1 + l2.length = (fuel + l2.length) + 1 from by omega]
      refine ⟨fun h0 => ?_, fun i hi => ?_⟩
      · obtain ⟨i, hi⟩ := List.exists_mem_of_ne_nil _ hr
        have := (hrf i).2 hi
        rw [h0] at this
        cases this
      · have hi' := (hrf i).1 hi
        obtain ⟨h0, o, ho, _⟩ := mem_ready.1 hi'
        have hil : i < l1.length := by simpa using (Array.getElem?_eq_some_iff.1 ho).1
        refine wpOp_first hB hil (wpOp_mono (fun a' w' h' => ?_) (h.2 i hi'))
        have := ih (x.setIfInBounds i true) a' w' (by simpa using hx) h'
        rwa [show (x ++ Array.replicate l2.length false).setIfInBounds i true = x.setIfInBounds i true ++ Array.replicate l2.length false from by
          rw [Array.setIfInBounds_append_left (by omega)]]
end

section
variable {P : Program} {Q : Exit → Act → World → Prop} {S : World → Prop}
/-- **The region by its two parts**, k operations in the first. -/
theorem wp_region_phase {id : Nat} {l : List Oper} {a : Act} {w : World} (k : Nat) (hm : P.follows .mixedOrders = true) (hk : (l.take k).length = k) (hB : phaseOk (l.take k) (l.drop k) = true)
    (h : S w.drew → wpAnyH P .any (l.take k).toArray (Exit.then (wpList P l.toArray Q (l.drop k)) Q) S k (Array.replicate k false) a w.drew) (hS : S w.drew) : (Code.region id l.toArray true).wp P Q a w := by
  refine wp_region_any hm ?_
  have h1 := wpAny_of_held _ _ _ _ (h hS)
  have h2 := wpAny_first_part (l1 := l.take k) (l2 := l.drop k) (P := P) (Q := Q) hB k (Array.replicate k false) a w.drew (by rw [Array.size_replicate]; exact hk.symm) (by rw [List.take_append_drop]; exact h1)
  rw [List.take_append_drop] at h2
  have h3 : k + (l.drop k).length = l.toArray.size := by
    have := congrArg List.length (List.take_append_drop k l)
    rw [List.length_append, hk] at this
    simpa using this
  have h4 : Array.replicate k false ++ Array.replicate (l.drop k).length false = Array.replicate l.toArray.size false := by
    rw [← h3, Array.replicate_append_replicate]
  rw [h3, h4] at h2
  exact h2
end

/-- A struct stored over the whole of a variable of the call's own. -/
theorem wpList_store_blk {P : Program} {w : World} {ops : Array Oper} {rest : List Oper} {o : Oper} {a : Act} {Q : Exit → Act → World → Prop} (hgd : o.guard = none) (ty : TypeId) (x y : Operand) (ho : o.op = .store ty x y)
    (g : Nat) (cs : List Value) (hx : a.eval x = .pointer (some ⟨g, 0, none⟩)) (hy : a.eval y = .agg cs.toArray) (olds : List Value) (hb : Blk w g olds) (hl : olds.length = cs.length)
    (hi : (P.info? ty).map (·.size) = some cs.length) (h1' : cs.all (fun v => v.oneCell') = true)
    (h : ∀ w', Blk w' g cs → w.grownBy w' (some g) → w'.heap.size = w.heap.size → wpList P ops Q rest (a.put o.dst undef) w') : wpList P ops Q (o :: rest) a w := by
  obtain ⟨t, hg⟩ := hb
  have h1 : ∀ v ∈ cs, v.oneCell' = true := fun v hv => List.all_eq_true.1 h1' v hv
  have hst := run_storeCells_at P g 0 t cs 0 olds.toArray w hg (by simpa using (Nat.le_of_eq hl.symm)) h1
  simp only [Nat.zero_add, List.take_zero, List.nil_append] at hst
  have hd : List.drop cs.length olds = [] := List.drop_eq_nil_of_le (by omega)
  rw [hd, List.append_nil] at hst
  refine wpList_plain hgd fun K hK => ?_
  have hrun : (storeVar ty ⟨g, 0, none⟩ (.agg cs.toArray)).run P w = .ok () (w.setRow g cs.toArray) := by
    cases hq : P.info? ty with
    | none => simp [hq] at hi
    | some i =>
      have hs : cs.length = i.size := by simp [hq] at hi; omega
      simp [storeVar, Go.sizeOf, typeInfo, hq, Value.cells, hs, hst]
  unfold Oper.wp execOp
  simp only [ho, hx, hy, Instr.storeAt, Instr.sureAddr, Sem.run_bind, Sem.run_pure, Result.andThen_ok, hrun]
  exact hK _ _ (h _ ⟨t, setRow_heap w g _ _ t _ hg⟩ ⟨rfl, rfl, rfl, by simp, fun k _ hk => setRow_other w g k _ (fun e => hk (by rw [e]))⟩ (by simp))
theorem stop_store {P : Program} {ops : Array Oper} {Q : Exit → Act → World → Prop} {rest : List Oper} {a : Act} {w : World} {ty : TypeId} {x y : Operand} {t : TypeId} {pos : String} {after : Array Edge} {g : Option (Nat × Bool)}
    (h : Hid (wpList P ops Q (⟨none, .store ty x y, t, pos, after, g⟩ :: rest) a w)) : wpList P ops Q (⟨none, .store ty x y, t, pos, after, g⟩ :: rest) a w := h

/-- 'wpAnyH_take', the temporary named. -/
theorem take_at {P : Program} {ops : Array Oper} {Q : Exit → Act → World → Prop} {S : World → Prop} {i : Nat} {oi : Oper} {dst : Option Tmp} {v : Value} {fuel : Nat} {listed : Array Bool} {a : Act} {w : World} (hi : ops[i]? = some oi) (hd : oi.dst = dst)
    (hs : Region.noSelect ops = true) (hf : Region.free .any ops listed i = true) (hr : (Region.ready .any ops listed).contains i = true)
    (hQ : ∀ c a w, Q (.panic c) (a.put oi.dst v) w → Q (.panic c) a w) (hy : YieldsIf P ops S oi v a) (hS : S w)
    (h : wpAnyH P .any ops Q S fuel (listed.setIfInBounds i true) (a.put dst v) w) : wpAnyH P .any ops Q S (fuel + 1) listed a w :=
  wpAnyH_take hi hs hf hr hQ hy hS (by rw [hd]; exact h)
/-- The world has only grown since w1: what the first part of a region keeps. -/
abbrev Ext (w1 w : World) : Prop :=
  (∀ p : Addr, (w1.cell? p).isSome = true → w.cell? p = w1.cell? p) ∧ (∀ p : Addr, (w1.cell? p).isSome = true → w.frozen? p = w1.frozen? p) ∧ Below w1.heap.size w1 w
theorem Ext.of {w1 w : World} (h : Below w1.heap.size w1 w) : Ext w1 w := ⟨(ext_rule h).1, (ext_rule h).2, h⟩
theorem Ext.start {w1 : World} : Ext w1 w1.drew := Ext.of (Below.refl _ _).drew
theorem Ext.below {w1 w w' : World} (h : Ext w1 w) (hb : Below w.heap.size w w') : Ext w1 w' := Ext.of (h.2.2.trans (hb.mono h.2.2.size))
theorem Ext.alloc {w1 w : World} (h : Ext w1 w) (o : Obj) : Ext w1 (w.alloc o) := h.below ((Below.refl _ _).alloc (Nat.le_refl _) o)
theorem Ext.drew {w1 w : World} (h : Ext w1 w) : Ext w1 w.drew := h.below (Below.refl _ _).drew
end Go.Gz

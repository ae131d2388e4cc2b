/- Words on memory for the walks of this claim: slices that read as lists of cells, append onto a row of the call's own, what stays when the world only grows. Plain theorems; no program is named. -/
import Derived.WalkKit
import Derived.ProofKit
import Derived.OpenShut
import Derived.Outline
import Derived.Maps.AppendAt
import Derived.Deep.AppendLies
import Derived.Deep.RegionHeld3
import Derived.Lib.Hide
import Derived.WalkSpells
import Derived.Deep.QuietTactic
import Derived.BigQuiet
import Derived.Laws.CopyOwn

namespace Go.Gz
open Go.RowKit

def SlA (w : World) (size : Nat) (A : Option Addr) (n : Nat) (xs : List Value) : Prop :=
  xs.length = n * size ∧ (A = none → n = 0) ∧ ∀ ad, A = some ad → ∀ j u, xs[j]? = some u → w.cell? (ad.add j) = some u

theorem SlA.below {w w' : World} {size n : Nat} {A : Option Addr} {xs : List Value} (h : SlA w size A n xs) (hb : Below w.heap.size w w') : SlA w' size A n xs :=
  ⟨h.1, h.2.1, fun ad ha j u hu => by
    have hc := h.2.2 ad ha j u hu
    rw [hb.cell (World.block_lt_of_cell? w _ hc)]; exact hc⟩

theorem ownsRow_sl {w : World} {base : Nat} {e : TypeId} {size n : Nat} {A : Option Addr} {c : Nat} {xs : List Value} (h : w.ownsRow base e size (.slice A n c) n xs) : SlA w size A n xs := by
  refine ⟨h.1, ?_, fun ad ha j u hu => ?_⟩
  · intro hA
    rcases h.2 with ⟨_, h0⟩ | ⟨g, cap, cur, hv, _⟩
    · exact h0
    · subst hA; cases hv
  · rcases h.2 with ⟨hv, h0⟩ | ⟨g, cap, cur, hv, _⟩
    · subst ha; cases hv
    · have hg : ad = ⟨g, 0, none⟩ := by subst ha; injection hv with h1; injection h1
      subst hg
      exact h.cells (g := g) (by subst ha; rfl) j u hu

/-- numbers of one kind, as cells -/
def nums (k : IntKind) (l : List Int) : List Value := l.map (.int k)
theorem oneCell_nums (k : IntKind) (l : List Int) : ∀ u ∈ nums k l, u.oneCell' = true := by
  intro u hu
  simp [nums] at hu
  obtain ⟨x, _, rfl⟩ := hu
  rfl
theorem length_nums (k : IntKind) (l : List Int) : (nums k l).length = l.length := by simp [nums]
theorem nums_eq_nil {k : IntKind} {l : List Int} (h : nums k l = []) : l = [] := by simpa [nums] using h
theorem nums_get {k : IntKind} {l : List Int} {j : Nat} (hj : j < l.length) : (nums k l)[j]? = some (.int k (l.getD j 0)) := by simp [nums, hj]

theorem SlA.alloc {w : World} {size n : Nat} {A : Option Addr} {xs : List Value} (h : SlA w size A n xs) (o : Obj) : SlA (w.alloc o) size A n xs :=
  h.below ((Below.refl _ _).alloc (Nat.le_refl _) o)
theorem SlA.nil_xs {w : World} {size n : Nat} {xs : List Value} (h : SlA w size none n xs) : n = 0 ∧ xs = [] := by
  have hn := h.2.1 rfl
  refine ⟨hn, ?_⟩
  have := h.1
  rw [hn] at this
  exact List.eq_nil_of_length_eq_zero (by simpa using this)
theorem Below.of_grown {w w' : World} {B : Nat} {row : Option Nat} (hg : w.grownBy w' row) (hB : B ≤ w.heap.size) (hr : ∀ k, row = some k → B ≤ k) : Below B w w' := (Below.refl B w).grown hg hB hr

/-- A slice of the call's own: an empty one without room, or a row in a block of its own from 'base' on. -/
def Own (w : World) (base : Nat) (e : TypeId) (size : Nat) (A : Option Addr) (n c : Nat) (xs : List Value) : Prop :=
  (n = 0 ∧ c = 0 ∧ xs = []) ∨ w.ownsRow base e size (.slice A n c) n xs

theorem own_below' {w w' : World} {base : Nat} {e : TypeId} {size n : Nat} {v : Value} {xs : List Value} (h : w.ownsRow base e size v n xs) (hb : Below w.heap.size w w') : w'.ownsRow base e size v n xs := by
  refine ⟨h.1, ?_⟩
  rcases h.2 with hn | ⟨g, cap, cur, rfl, hbg, hgg, rest⟩
  · exact .inl hn
  · exact .inr ⟨g, cap, cur, rfl, hbg, (hb.block g (Array.getElem?_eq_some_iff.1 hgg).1).trans hgg, rest⟩
section
variable {w w' : World} {base base' : Nat} {e : TypeId} {size n c : Nat} {A : Option Addr} {xs : List Value}
theorem Own.below (h : Own w base e size A n c xs) (hb : Below w.heap.size w w') : Own w' base e size A n c xs := h.imp id fun h => own_below' h hb
theorem Own.lower (h : Own w base e size A n c xs) (hb : base' ≤ base) : Own w base' e size A n c xs := by
  refine h.imp id fun h => ⟨h.1, ?_⟩
  rcases h.2 with hn | ⟨g, cap, cur, hv, hbg, rest⟩
  · exact .inl hn
  · exact .inr ⟨g, cap, cur, hv, Nat.le_trans hb hbg, rest⟩
theorem Own.set (h : Own w base e size A n c xs) (p : Addr) (v : Value) (hp : p.block < base) : Own (w.setCell p v) base e size A n c xs := h.imp id fun h => ownsRow_setCell_below h hp v
theorem Own.grown {row : Option Nat} (h : Own w base e size A n c xs) (hg : w.grownBy w' row) (hr : ∀ k, row = some k → k < base) : Own w' base e size A n c xs := by
  refine h.imp id fun h => ⟨h.1, ?_⟩
  rcases h.2 with hn | ⟨g, cap, cur, hv, hbg, hgg, rest⟩
  · exact .inl hn
  · exact .inr ⟨g, cap, cur, hv, hbg, (hg.block g (Array.getElem?_eq_some_iff.1 hgg).1 (fun e => by have := hr g e.symm; omega)).trans hgg, rest⟩
theorem Own.alloc (h : Own w base e size A n c xs) (o : Obj) : Own (w.alloc o) base e size A n c xs := h.below ((Below.refl _ _).alloc (Nat.le_refl _) o)
theorem Own.drew (h : Own w base e size A n c xs) : Own w.drew base e size A n c xs := h
theorem Own.length (h : Own w base e size A n c xs) : xs.length = n * size := by
  rcases h with ⟨rfl, rfl, rfl⟩ | h
  · simp
  · exact h.1
theorem Own.le (h : Own w base e size A n c xs) : n ≤ c := by
  rcases h with ⟨rfl, rfl, rfl⟩ | h
  · exact Nat.le_refl _
  · rcases h.2 with ⟨hv, hn⟩ | ⟨g, cap, cur, hv, _, _, hnc, _⟩
    · injection hv with _ _ h3; omega
    · injection hv with _ _ h3; omega
end
/-- It reads as the list. -/
theorem Own.sl {w : World} {base : Nat} {e : TypeId} {size n c : Nat} {A : Option Addr} {xs : List Value} (h : Own w base e size A n c xs) : SlA w size A n xs := by
  rcases h with ⟨rfl, rfl, rfl⟩ | h
  · exact ⟨by simp, fun _ => rfl, fun ad _ j u hu => by simp at hu⟩
  · exact ownsRow_sl h

/-- Where it lies, if it has elements. -/
theorem Own.addr {w : World} {base : Nat} {e : TypeId} {size n c : Nat} {A : Option Addr} {xs : List Value} (h : Own w base e size A n c xs) (hn : 0 < n) : ∃ g, A = some ⟨g, 0, none⟩ ∧ base ≤ g ∧ ∃ cur, w.heap[g]? = some (.cells cur e (0, 0)) := by
  rcases h with ⟨h0, _, _⟩ | h
  · omega
  · rcases h.2 with ⟨_, h0⟩ | ⟨g, cap, cur, hv, hbg, hgg, _⟩
    · omega
    · injection hv with h1
      exact ⟨g, h1, hbg, cur, hgg⟩
theorem Own.addr_lt {w : World} {base : Nat} {e : TypeId} {size n c : Nat} {A : Option Addr} {xs : List Value} (h : Own w base e size A n c xs) {g : Nat} (hA : A = some ⟨g, 0, none⟩) (hn : 0 < n) : g < w.heap.size := by
  obtain ⟨g', hg, _, cur, hc⟩ := h.addr hn
  rw [hA] at hg
  injection hg with hg
  injection hg with hg
  subst hg
  rcases Nat.lt_or_ge g w.heap.size with hlt | hge
  · exact hlt
  · rw [Array.getElem?_eq_none hge] at hc; cases hc
/-- A number stored in one of its elements. -/
theorem Own.put {w : World} {base : Nat} {e : TypeId} {n c g : Nat} {k : IntKind} {zs : List Int} (h : Own w base e 1 (some ⟨g, 0, none⟩) n c (nums k zs)) {j : Nat} (hj : j < n) (v : Int) :
    w.cell? ⟨g, j, none⟩ = some (.int k (zs.getD j 0)) ∧ w.frozen? ⟨g, j, none⟩ = false ∧ Own (w.setCell ⟨g, j, none⟩ (.int k v)) base e 1 (some ⟨g, 0, none⟩) n c (nums k (zs.set j v)) := by
  have hlen : zs.length = n := by have := h.length; simpa [length_nums] using this
  have hc := h.sl.2.2 _ rfl j _ (nums_get (k := k) (by omega : j < zs.length))
  rw [Addr.add_lit, Nat.zero_add] at hc
  rcases h with ⟨h0, _, _⟩ | h
  · omega
  · rcases h.2 with ⟨_, h0⟩ | ⟨g', cap, cur, hv, hbg, hgg, hnc, hcm, hcs, htake⟩
    · omega
    · injection hv with h1 h2 h3
      injection h1 with h1
      injection h1 with h1
      subst h1
      subst h3
      refine ⟨hc, by simp [World.frozen?, hgg], .inr ⟨by simp [length_nums, hlen], .inr ⟨g, c, cur.setIfInBounds j (.int k v), rfl, hbg, ?_, hnc, hcm, by simpa using hcs, ?_⟩⟩⟩
      · simp [World.setCell, Array.getElem?_modify, hgg]
      · rw [Nat.mul_one] at htake ⊢
        rw [Array.toList_setIfInBounds, List.take_set, htake]
        simp [nums]
/-- A store into a block of another type. -/
theorem Own.setOther {w : World} {base : Nat} {e e' : TypeId} {size n c : Nat} {A : Option Addr} {xs : List Value} (h : Own w base e size A n c xs) {p : Addr} {cur : Array Value} {fr : Nat × Nat} (hp : w.heap[p.block]? = some (.cells cur e' fr)) (hne : e ≠ e') (v : Value) :
    Own (w.setCell p v) base e size A n c xs := by
  refine h.imp id fun h => ⟨h.1, ?_⟩
  rcases h.2 with hn | ⟨g, cap, cur', hv, hbg, hgg, rest⟩
  · exact .inl hn
  · refine .inr ⟨g, cap, cur', hv, hbg, (Below.heap_setCell w p v g ?_).trans hgg, rest⟩
    intro e
    rw [e] at hgg
    rw [hgg] at hp
    injection hp with hp
    injection hp with _ ht
    exact hne ht
theorem zeroCells_len (z : Array Value) (n : Nat) : (Builtin.zeroCells z n).size = n * z.size := by simp [Builtin.zeroCells]

/-- append onto an empty slice without room. -/
theorem run_append_empty {P : Program} (w : World) (t ty e : TypeId) (i : TypeInfo) (z : Value) (size bytes : Nat) (ht : P.underlying t = some (.slice e)) (hi : P.info? e = some i) (hz : i.zero = some z)
    (hsize : i.size = size) (hby : i.bytes = bytes) (hzs : z.cells.size = size)
    (B : Option Addr) (A : Option Addr) (m c : Nat) (news : List Value) (hr : SlA w size A m news)
    (hbytes : m * bytes ≤ 281474976710656) (hb0 : 0 < bytes) :
    ∃ A' c' w', (Builtin.append_ #[t, t] ty #[.slice B 0 0, .slice A m c]).run P w = .ok (.slice A' m c') w' ∧ Own w' w.heap.size e size A' m c' news ∧ Below w.heap.size w w' := by
  subst hsize
  subst hby
  by_cases hm : m = 0
  · subst hm
    have hn : news = [] := List.eq_nil_of_length_eq_zero (by simpa using hr.1)
    subst hn
    refine ⟨B, 0, w, ?_, .inl ⟨rfl, rfl, rfl⟩, Below.refl _ _⟩
    cases A <;> cases B <;> simp [Builtin.append_, run_underlying ht, sizeOf, typeInfo, hi, Builtin.lenOf, Builtin.firstCells, loadCells, loadCellsFrom, storeCells]
  · cases A with
    | none => exact absurd (hr.2.1 rfl) hm
    | some ad =>
      have hle : m ≤ m * i.bytes := Nat.le_mul_of_pos_right _ hb0
      have hcm : grownCap w m 0 e ≤ maxLen := grownCap_le_maxLen w m 0 e (by simp only [maxLen]; omega)
      have hge := grownCap_ge w m 0 e
      have hown : (w.drew.alloc (.cells (news.toArray ++ Builtin.zeroCells z.cells (grownCap w m 0 e - m)) e)).ownsRow w.heap.size e i.size (.slice (some ⟨w.heap.size, 0, none⟩) m (grownCap w m 0 e)) m news := by
        refine ⟨hr.1, .inr ⟨w.heap.size, _, _, rfl, Nat.le_refl _, heap_alloc_new w.drew _, hge, hcm, ?_, ?_⟩⟩
        · simp only [Array.size_append, List.size_toArray, zeroCells_len, hzs, hr.1, ← Nat.add_mul]
          congr 1
          omega
        · rw [Array.toList_append, ← hr.1]
          exact List.take_left
      have hbel : Below w.heap.size w (w.drew.alloc (.cells (news.toArray ++ Builtin.zeroCells z.cells (grownCap w m 0 e - m)) e)) := (Below.refl _ _).drew.alloc (Nat.le_refl _) _
      have hne : Builtin.nextslicecap m 0 * i.bytes ≤ 281474976710656 := by rw [nextslicecap_zero (by omega)]; exact hbytes
      cases B with
      | none =>
        exact ⟨_, _, _, run_append_nil (P := P) w t ty e i z ht hi hz ad m c news hr.1 (hr.2.2 ad rfl) (by omega) (by omega) (by omega), .inr hown, hbel⟩
      | some b =>
        have hrun := run_append_grow (P := P) w t ty e i z ht hi hz b 0 0 [] (by simp) (fun j v hv => by simp at hv) ad m c news hr.1 (hr.2.2 ad rfl) (by omega) (by omega) (by rw [Nat.zero_add]; exact hne)
        simp only [Nat.zero_add, List.nil_append, Array.empty_append] at hrun
        exact ⟨_, _, _, hrun, .inr hown, hbel⟩

theorem wp_append_empty {P : Program} {w : World} {o : Oper} {a : Act} {K : Act → World → Prop} {Q : Exit → Act → World → Prop} (s x : Operand) (t : TypeId)
    (ho : o.op = .call { callee := .builtin .append, args := #[s, x], argTypes := #[t, t] })
    (e : TypeId) (i : TypeInfo) (z : Value) (size bytes : Nat) (ht : P.underlying t = some (.slice e)) (hi : P.info? e = some i) (hz : i.zero = some z)
    (hsize : i.size = size) (hby : i.bytes = bytes) (hzs : z.cells.size = size)
    (B : Option Addr) (hs : a.eval s = .slice B 0 0)
    (A : Option Addr) (m c : Nat) (news : List Value) (hx : a.eval x = .slice A m c) (hr : SlA w size A m news)
    (hbytes : m * bytes ≤ 281474976710656) (hb0 : 0 < bytes)
    (h : ∀ A' c' w', Own w' w.heap.size e size A' m c' news → Below w.heap.size w w' → K (a.put o.dst (.slice A' m c')) w') : o.wp P a w K Q := by
  obtain ⟨A', c', w', hrun, h2, h3⟩ := run_append_empty (P := P) w t o.type e i z size bytes ht hi hz hsize hby hzs B A m c news hr hbytes hb0
  unfold Oper.wp execOp
  simp only [ho, resolve, invoke, builtin, Sem.run_bind, Sem.run_pure, Result.andThen_ok, List.map_toArray, List.map_cons, List.map_nil, hs, hx, hrun]
  exact h A' c' w' h2 h3
theorem wpList_append_empty {P : Program} {w : World} {ops : Array Oper} {rest : List Oper} {o : Oper} {a : Act} {Q : Exit → Act → World → Prop} (hgd : o.guard = none) (s x : Operand) (t : TypeId)
    (ho : o.op = .call { callee := .builtin .append, args := #[s, x], argTypes := #[t, t] })
    (e : TypeId) (i : TypeInfo) (z : Value) (size bytes : Nat) (ht : P.underlying t = some (.slice e)) (hi : P.info? e = some i) (hz : i.zero = some z)
    (hsize : i.size = size) (hby : i.bytes = bytes) (hzs : z.cells.size = size)
    (B : Option Addr) (hs : a.eval s = .slice B 0 0)
    (A : Option Addr) (m c : Nat) (news : List Value) (hx : a.eval x = .slice A m c) (hr : SlA w size A m news)
    (hbytes : m * bytes ≤ 281474976710656) (hb0 : 0 < bytes)
    (h : ∀ A' c' w', Own w' w.heap.size e size A' m c' news → Below w.heap.size w w' → wpList P ops Q rest (a.put o.dst (.slice A' m c')) w') : wpList P ops Q (o :: rest) a w :=
  wpList_plain hgd fun _ hK => wp_append_empty s x t ho e i z size bytes ht hi hz hsize hby hzs B hs A m c news hx hr hbytes hb0 fun A' c' w' h2 h3 => hK _ _ (h A' c' w' h2 h3)
theorem step_append_empty {P : Program} {w : World} {ops : Array Oper} {o : Oper} {a : Act} {K : Act → World → Prop} {Q : Exit → Act → World → Prop} {E : Prop} (dst : Option Tmp) (hd : o.dst = dst) (hgd : o.guard = none) (s x : Operand) (t : TypeId)
    (ho : o.op = .call { callee := .builtin .append, args := #[s, x], argTypes := #[t, t] })
    (e : TypeId) (i : TypeInfo) (z : Value) (size bytes : Nat) (ht : P.underlying t = some (.slice e)) (hi : P.info? e = some i) (hz : i.zero = some z)
    (hsize : i.size = size) (hby : i.bytes = bytes) (hzs : z.cells.size = size)
    (B : Option Addr) (hs : a.eval s = .slice B 0 0)
    (A : Option Addr) (m c : Nat) (news : List Value) (hx : a.eval x = .slice A m c) (hr : SlA w size A m news)
    (hbytes : m * bytes ≤ 281474976710656) (hb0 : 0 < bytes)
    (h : ∀ A' c' w', Own w' w.heap.size e size A' m c' news → Below w.heap.size w w' → K (a.put dst (.slice A' m c')) w') :
    if Region.wanted o (yielded ops a.tmps) = true then Oper.wp P o a w K Q else E := by
  subst hd
  have hw : Region.wanted o (yielded ops a.tmps) = true := by simp [Region.wanted, hgd]
  rw [if_pos hw]
  exact wp_append_empty s x t ho e i z size bytes ht hi hz hsize hby hzs B hs A m c news hx hr hbytes hb0 h

theorem run_append_of_nil {P : Program} (w : World) (base : Nat) (t ty e : TypeId) (i : TypeInfo) (size : Nat) (ht : P.underlying t = some (.slice e)) (hi : P.info? e = some i)
    (v : Value) (n : Nat) (xs : List Value) (hown : w.ownsRow base e size v n xs) (c : Nat) : (Builtin.append_ #[t, t] ty #[v, .slice none 0 c]).run P w = .ok v w := by
  rcases hown.2 with ⟨rfl, rfl⟩ | ⟨g, cap, cur, rfl, _, _, hnc, _⟩
  · simp [Builtin.append_, run_underlying ht, sizeOf, typeInfo, hi, Builtin.lenOf, Builtin.firstCells]
  · simp [Builtin.append_, run_underlying ht, sizeOf, typeInfo, hi, Builtin.lenOf, Builtin.firstCells, hnc, storeCells]

/-- append of a readable slice onto one of the call's own: only blocks from 'base' on may turn. -/
theorem run_append_own_sl {P : Program} (w : World) (base : Nat) (t ty e : TypeId) (i : TypeInfo) (z : Value) (size bytes : Nat) (ht : P.underlying t = some (.slice e)) (hi : P.info? e = some i) (hz : i.zero = some z)
    (hsize : i.size = size) (hby : i.bytes = bytes) (hzs : z.cells.size = size) (hsz : 0 < size)
    (B : Option Addr) (n d : Nat) (xs : List Value) (hown : Own w base e size B n d xs)
    (A : Option Addr) (m c : Nat) (news : List Value) (hr : SlA w size A m news) (h1 : ∀ u ∈ news, u.oneCell' = true)
    (hbytes : (n + m) * bytes ≤ 140737488355328) (hb0 : 0 < bytes) (hbase : base ≤ w.heap.size) :
    ∃ A' c' w', (Builtin.append_ #[t, t] ty #[.slice B n d, .slice A m c]).run P w = .ok (.slice A' (n + m) c') w' ∧ Own w' base e size A' (n + m) c' (xs ++ news) ∧ Below base w w' ∧ w.grownBy w' (Value.slice B n d).ownBlock := by
  rcases hown with ⟨rfl, rfl, rfl⟩ | hown
  · obtain ⟨A', c', w', h2, h3, h4⟩ := run_append_empty (P := P) w t ty e i z size bytes ht hi hz hsize hby hzs B A m c news hr (by simp at hbytes; omega) hb0
    exact ⟨A', c', w', by simpa using h2, by simpa using h3.lower hbase, h4.mono hbase, ⟨h4.os, h4.tape, h4.output, h4.size, fun k hk _ => h4.block k hk⟩⟩
  · cases A with
    | none =>
      obtain ⟨hm, hn⟩ := hr.nil_xs
      subst hm hn
      exact ⟨B, d, w, run_append_of_nil w base t ty e i size ht hi _ n xs hown c, .inr (by simpa using hown), Below.refl _ _, World.grownBy.refl w _⟩
    | some ad =>
      have h63 : n + m ≤ maxLen := by
        have : n + m ≤ (n + m) * bytes := Nat.le_mul_of_pos_right _ hb0
        simp only [maxLen]; omega
      obtain ⟨v', w', hrun, h2, h3, _, h5⟩ := run_append_own_at (P := P) w base t ty e i z size bytes ht hi hz hsize hby hzs hsz _ n xs hown ad m c news hr.1 (hr.2.2 ad rfl) h1 h63 hbytes hbase
      obtain ⟨A', c', rfl⟩ : ∃ A c, v' = .slice A (n + m) c := by
        rcases h2.2 with ⟨rfl, h0⟩ | ⟨g, cap, cur, rfl, _⟩
        · exact ⟨none, 0, by rw [h0]⟩
        · exact ⟨_, _, rfl⟩
      exact ⟨A', c', w', hrun, .inr h2, (Below.refl base w).grown h3 hbase (fun k hk => (hown.lt k hk).1), h3⟩

theorem wp_append_own_sl {P : Program} {w : World} {o : Oper} {a : Act} {K : Act → World → Prop} {Q : Exit → Act → World → Prop} (s x : Operand) (t : TypeId)
    (ho : o.op = .call { callee := .builtin .append, args := #[s, x], argTypes := #[t, t] })
    (base : Nat) (e : TypeId) (i : TypeInfo) (z : Value) (size bytes : Nat) (ht : P.underlying t = some (.slice e)) (hi : P.info? e = some i) (hz : i.zero = some z)
    (hsize : i.size = size) (hby : i.bytes = bytes) (hzs : z.cells.size = size) (hsz : 0 < size)
    (B : Option Addr) (n d : Nat) (xs : List Value) (hs : a.eval s = .slice B n d) (hown : Own w base e size B n d xs)
    (A : Option Addr) (m c : Nat) (news : List Value) (hx : a.eval x = .slice A m c) (hr : SlA w size A m news) (h1 : ∀ u ∈ news, u.oneCell' = true)
    (hbytes : (n + m) * bytes ≤ 140737488355328) (hb0 : 0 < bytes) (hbase : base ≤ w.heap.size)
    (h : ∀ A' c' w', Own w' base e size A' (n + m) c' (xs ++ news) → Below base w w' → w.grownBy w' (Value.slice B n d).ownBlock → K (a.put o.dst (.slice A' (n + m) c')) w') : o.wp P a w K Q := by
  obtain ⟨A', c', w', hrun, h2, h3, h4⟩ := run_append_own_sl (P := P) w base t o.type e i z size bytes ht hi hz hsize hby hzs hsz B n d xs hown A m c news hr h1 hbytes hb0 hbase
  unfold Oper.wp execOp
  simp only [ho, resolve, invoke, builtin, Sem.run_bind, Sem.run_pure, Result.andThen_ok, List.map_toArray, List.map_cons, List.map_nil, hs, hx, hrun]
  exact h A' c' w' h2 h3 h4
theorem wpList_append_own_sl {P : Program} {w : World} {ops : Array Oper} {rest : List Oper} {o : Oper} {a : Act} {Q : Exit → Act → World → Prop} (hgd : o.guard = none) (s x : Operand) (t : TypeId)
    (ho : o.op = .call { callee := .builtin .append, args := #[s, x], argTypes := #[t, t] })
    (base : Nat) (e : TypeId) (i : TypeInfo) (z : Value) (size bytes : Nat) (ht : P.underlying t = some (.slice e)) (hi : P.info? e = some i) (hz : i.zero = some z)
    (hsize : i.size = size) (hby : i.bytes = bytes) (hzs : z.cells.size = size) (hsz : 0 < size)
    (B : Option Addr) (n d : Nat) (xs : List Value) (hs : a.eval s = .slice B n d) (hown : Own w base e size B n d xs)
    (A : Option Addr) (m c : Nat) (news : List Value) (hx : a.eval x = .slice A m c) (hr : SlA w size A m news) (h1 : ∀ u ∈ news, u.oneCell' = true)
    (hbytes : (n + m) * bytes ≤ 140737488355328) (hb0 : 0 < bytes) (hbase : base ≤ w.heap.size)
    (h : ∀ A' c' w', Own w' base e size A' (n + m) c' (xs ++ news) → Below base w w' → w.grownBy w' (Value.slice B n d).ownBlock → wpList P ops Q rest (a.put o.dst (.slice A' (n + m) c')) w') : wpList P ops Q (o :: rest) a w :=
  wpList_plain hgd fun _ hK => wp_append_own_sl s x t ho base e i z size bytes ht hi hz hsize hby hzs hsz B n d xs hs hown A m c news hx hr h1 hbytes hb0 hbase fun A' c' w' h2 h3 h4 => hK _ _ (h A' c' w' h2 h3 h4)
theorem step_append_own_sl {P : Program} {w : World} {ops : Array Oper} {o : Oper} {a : Act} {K : Act → World → Prop} {Q : Exit → Act → World → Prop} {E : Prop} (dst : Option Tmp) (hd : o.dst = dst) (hgd : o.guard = none) (s x : Operand) (t : TypeId)
    (ho : o.op = .call { callee := .builtin .append, args := #[s, x], argTypes := #[t, t] })
    (base : Nat) (e : TypeId) (i : TypeInfo) (z : Value) (size bytes : Nat) (ht : P.underlying t = some (.slice e)) (hi : P.info? e = some i) (hz : i.zero = some z)
    (hsize : i.size = size) (hby : i.bytes = bytes) (hzs : z.cells.size = size) (hsz : 0 < size)
    (B : Option Addr) (n d : Nat) (xs : List Value) (hs : a.eval s = .slice B n d) (hown : Own w base e size B n d xs)
    (A : Option Addr) (m c : Nat) (news : List Value) (hx : a.eval x = .slice A m c) (hr : SlA w size A m news) (h1 : ∀ u ∈ news, u.oneCell' = true)
    (hbytes : (n + m) * bytes ≤ 140737488355328) (hb0 : 0 < bytes) (hbase : base ≤ w.heap.size)
    (h : ∀ A' c' w', Own w' base e size A' (n + m) c' (xs ++ news) → Below base w w' → w.grownBy w' (Value.slice B n d).ownBlock → K (a.put dst (.slice A' (n + m) c')) w') :
    if Region.wanted o (yielded ops a.tmps) = true then Oper.wp P o a w K Q else E := by
  subst hd
  have hw : Region.wanted o (yielded ops a.tmps) = true := by simp [Region.wanted, hgd]
  rw [if_pos hw]
  exact wp_append_own_sl s x t ho base e i z size bytes ht hi hz hsize hby hzs hsz B n d xs hs hown A m c news hx hr h1 hbytes hb0 hbase h

/-! ### What is kept from step to step -/
theorem kc_below {w w' : World} {p : Addr} {u : Value} (hb : Below w.heap.size w w') (h : w.cell? p = some u) : w'.cell? p = some u :=
  (hb.cell (World.block_lt_of_cell? w p h)).trans h
theorem kc_alloc {w : World} {o : Obj} {p : Addr} {u : Value} (h : w.cell? p = some u) : (w.alloc o).cell? p = some u :=
  kc_below ((Below.refl _ _).alloc (Nat.le_refl _) o) h
theorem kc_drew {w : World} {p : Addr} {u : Value} (h : w.cell? p = some u) : w.drew.cell? p = some u := h
theorem kc_set {w : World} {p q : Addr} {u v : Value} (h : w.cell? p = some u) (hne : q.block ≠ p.block) : (w.setCell q v).cell? p = some u :=
  (World.cell?_setCell_other w q p v (fun e => hne (by rw [e]))).trans h
theorem kc_grown {w w' : World} {row : Option Nat} {p : Addr} {u : Value} (hg : w.grownBy w' row) (h : w.cell? p = some u) (hne : row ≠ some p.block) : w'.cell? p = some u :=
  hg.cell h (fun e => hne e.symm)

/-- n cells stand in block g, none frozen: a variable of the call's own that may be stored to. -/
def There (w : World) (g n : Nat) : Prop := (∀ j, j < n → (w.cell? ⟨g, j, none⟩).isSome = true) ∧ ∀ j, w.frozen? ⟨g, j, none⟩ = false
theorem There.lt {w : World} {g n : Nat} (h : There w g (n + 1)) : g < w.heap.size := by
  obtain ⟨u, hu⟩ := Option.isSome_iff_exists.1 (h.1 0 (by omega))
  exact World.block_lt_of_cell? w _ hu
theorem There.of_block {w w' : World} {g n : Nat} (h : There w g n) (hb : w'.heap[g]? = w.heap[g]?) : There w' g n :=
  ⟨fun j hj => by rw [World.cell?_of_block (a := ⟨g, j, none⟩) hb]; exact h.1 j hj, fun j => by rw [World.frozen?_of_block (a := ⟨g, j, none⟩) hb]; exact h.2 j⟩
theorem There.new (w : World) (t : TypeId) (cs : Array Value) (n : Nat) (hn : cs.size = n) : There (w.alloc (.cells cs t)) w.heap.size n := by
  refine ⟨fun j hj => ?_, fun j => frozen_of_row _ _ _ _ _ (heap_alloc_new w _)⟩
  rw [cell_of_row _ _ _ _ _ _ (heap_alloc_new w _), Array.getElem?_eq_getElem (by omega)]
  rfl
theorem There.below {w w' : World} {g n : Nat} (hb : Below w.heap.size w w') (h : There w g (n + 1)) : There w' g (n + 1) := h.of_block (hb.block g h.lt)
theorem There.alloc {w : World} {g n : Nat} (o : Obj) (h : There w g (n + 1)) : There (w.alloc o) g (n + 1) := h.below ((Below.refl _ _).alloc (Nat.le_refl _) o)
theorem There.drew {w : World} {g n : Nat} (h : There w g n) : There w.drew g n := h
theorem There.set {w : World} {g n : Nat} (p : Addr) (v : Value) (h : There w g n) : There (w.setCell p v) g n := by
  refine ⟨fun j hj => ?_, fun j => ?_⟩
  · by_cases e : p = ⟨g, j, none⟩
    · subst e
      rw [World.cell?_setCell_same' _ _ _ (h.1 j hj)]
      rfl
    · rw [World.cell?_setCell_other _ _ _ _ e]
      exact h.1 j hj
  · have hh := h.2 j
    unfold World.frozen? at hh ⊢
    simp only [World.setCell, Array.getElem?_modify]
    by_cases e : p.block = g
    · simp only [e, if_true]
      cases ho : w.heap[g]? with
      | none => rfl
      | some o => cases o <;> simp_all
    · simp only [e, if_false]
      exact hh
theorem There.unset {w : World} {g n : Nat} {p : Addr} {v : Value} (h : There (w.setCell p v) g n) : There w g n := by
  have hc : ∀ q : Addr, ((w.setCell p v).cell? q).isSome = true → (w.cell? q).isSome = true := by
    intro q hq
    by_cases e : p = q
    · subst e
      cases hx : w.cell? p with
      | some u => rfl
      | none =>
        exfalso
        unfold World.cell? at hx hq
        simp only [World.setCell, Array.getElem?_modify, if_true] at hq
        cases ho : w.heap[p.block]? with
        | none => simp [ho] at hq
        | some o =>
          rw [ho] at hx hq
          cases o with
          | cells c el fr =>
            simp only [Option.map_some] at hq
            by_cases hs : p.spot.isSome = true
            · simp [hs] at hq
            · simp [hs] at hx hq
              omega
          | _ => simp_all
    · rwa [World.cell?_setCell_other _ _ _ _ e] at hq
  refine ⟨fun j hj => hc _ (h.1 j hj), fun j => ?_⟩
  have hh := h.2 j
  unfold World.frozen? at hh ⊢
  simp only [World.setCell, Array.getElem?_modify] at hh
  by_cases e : p.block = g
  · simp only [e, if_true] at hh
    cases ho : w.heap[g]? with
    | none => rfl
    | some o => rw [ho] at hh; cases o <;> simp_all
  · simp only [e, if_false] at hh
    exact hh

theorem of_drew {w w' : World} (h : Below w.drew.heap.size w.drew w') : Below w.heap.size w w' := Below.trans (b := w.drew) (Below.refl w.heap.size w).drew h

/-- What the walk may use of a world that only adds blocks: as a rewrite rule. -/
theorem ext_rule {w w' : World} (hb : Below w.heap.size w w') : (∀ p, (w.cell? p).isSome = true → w'.cell? p = w.cell? p) ∧ (∀ p, (w.cell? p).isSome = true → w'.frozen? p = w.frozen? p) :=
  ⟨fun p h => by obtain ⟨u, hu⟩ := Option.isSome_iff_exists.1 h; exact hb.cell (World.block_lt_of_cell? w p hu),
   fun p h => by obtain ⟨u, hu⟩ := Option.isSome_iff_exists.1 h; exact hb.frozen (World.block_lt_of_cell? w p hu)⟩

theorem name_world {P : Program} {c : Code} {Q : Exit → Act → World → Prop} {a : Act} {w : World} (h : ∀ w1, w1 = w → c.wp P Q a w1) : c.wp P Q a w := h w rfl

theorem run_convert_sl {P : Program} {w : World} {A : Option Addr} {n : Nat} {l : List Int} (src e dst : TypeId) (hs : P.underlying src = some (.slice e)) (he : P.underlying e = some (.int .u8)) (hd : P.underlying dst = some .string)
    (h : SlA w 1 A n (nums .u8 l)) (c : Nat) : (convert src dst (.slice A n c)).run P w = .ok (.string (strOfNums l)) w := by
  cases A with
  | none =>
    obtain ⟨hn, hx⟩ := h.nil_xs
    rw [nums_eq_nil hx, run_convert_bytes_nil w src e hs he n c dst hd]
    rfl
  | some ad =>
    have hlen : l.length = n := by have := h.1; simpa [length_nums] using this
    have hl : (loadCells ad n).run P w = .ok (l.map (Value.int .u8)).toArray w := by
      have := run_loadCells_list (P := P) w ad (l.map (Value.int .u8)) (h.2.2 ad rfl)
      simpa [hlen] using this
    rw [run_convert_bytes_string w src dst e _ n c hs he hd, run_bytesToString w _ n c l hl, foldl_push_bytes]
    simp [strOfNums, ByteArray.empty, ByteArray.emptyWithCapacity]
    rfl
theorem SlA.cell {w : World} {n : Nat} {k : IntKind} {ad : Addr} {l : List Int} (h : SlA w 1 (some ad) n (nums k l)) {j : Nat} (hj : j < l.length) : w.cell? (ad.add j) = some (.int k (l.getD j 0)) :=
  h.2.2 ad rfl j _ (nums_get hj)
theorem SlA.len {w : World} {n : Nat} {A : Option Addr} {k : IntKind} {l : List Int} (h : SlA w 1 A n (nums k l)) : l.length = n := by have := h.1; simpa [length_nums] using this

theorem below_drewN {B : Nat} {a w : World} (h : Below B a w) (n : Nat) : Below B a (w.drewN n) := ⟨h.os, h.tape, h.output, h.size, h.block⟩

/-- What a cell holds, behind a name that no rule opens. -/
def old (w : World) (g j : Nat) : Value := (w.cell? ⟨g, j, none⟩).getD undef
theorem old_of {w : World} {g j : Nat} (h : (w.cell? ⟨g, j, none⟩).isSome = true) : w.cell? ⟨g, j, none⟩ = some (old w g j) := by
  obtain ⟨u, hu⟩ := Option.isSome_iff_exists.1 h
  simp [old, hu]

theorem name_calls {P : Program} {f : FuncId} {args : Array Value} {R : Ending → World → Prop} {w : World} (h : ∀ w1, w1 = w → Calls P f args w1 R) : Calls P f args w R := h w rfl

theorem name_list {P : Program} {ops : Array Oper} {Q : Exit → Act → World → Prop} {l : List Oper} {a : Act} {w : World} (h : ∀ w1, w1 = w → wpList P ops Q l a w1) : wpList P ops Q l a w := h w rfl

theorem frozen?_alloc_some (w : World) (a : Addr) (o : Obj) (h : (w.cell? a).isSome = true) : (w.alloc o).frozen? a = w.frozen? a := by
  obtain ⟨u, hu⟩ := Option.isSome_iff_exists.1 h
  exact World.frozen?_of_block (Below.heap_alloc w o a.block (World.block_lt_of_cell? w a hu))

theorem hide {p : Prop} (h : p) : Hid p := h

theorem size_setCell (w : World) (a : Addr) (v : Value) : (w.setCell a v).heap.size = w.heap.size := by simp [World.setCell]

/-- A block of the call's own that is known whole. -/
def Blk (w : World) (g : Nat) (cs : List Value) : Prop := ∃ t, w.heap[g]? = some (.cells cs.toArray t (0, 0))
section
variable {w w' : World} {g : Nat} {cs : List Value}
theorem Blk.lt (h : Blk w g cs) : g < w.heap.size := by
  obtain ⟨t, h⟩ := h
  rcases Nat.lt_or_ge g w.heap.size with hlt | hge
  · exact hlt
  · rw [Array.getElem?_eq_none hge] at h; cases h
theorem Blk.cell (h : Blk w g cs) : ∀ i, w.cell? ⟨g, i, none⟩ = cs[i]? := fun i => by
  obtain ⟨t, h⟩ := h
  simpa using cell_of_row w g i cs.toArray t (0, 0) h
theorem Blk.frozen (h : Blk w g cs) : ∀ i, w.frozen? ⟨g, i, none⟩ = false := fun i => by
  obtain ⟨t, h⟩ := h
  simp [World.frozen?, h]
theorem Blk.of_block (h : Blk w g cs) (hb : w'.heap[g]? = w.heap[g]?) : Blk w' g cs := by
  obtain ⟨t, h⟩ := h
  exact ⟨t, hb.trans h⟩
theorem Blk.new (w : World) (t : TypeId) (cs : List Value) (g : Nat) (h : g = w.heap.size) : Blk (w.alloc (.cells cs.toArray t)) g cs := by
  subst h
  exact ⟨t, heap_alloc_new w _⟩
theorem Blk.drew (h : Blk w g cs) : Blk w.drew g cs := h
theorem Blk.drewN (h : Blk w g cs) (n : Nat) : Blk (w.drewN n) g cs := h
theorem Blk.alloc (h : Blk w g cs) (o : Obj) : Blk (w.alloc o) g cs := h.of_block (Below.heap_alloc w o g h.lt)
theorem Blk.set (h : Blk w g cs) (i : Nat) (u : Value) : Blk (w.setCell ⟨g, i, none⟩ u) g (cs.set i u) := by
  obtain ⟨t, h⟩ := h
  refine ⟨t, ?_⟩
  simp [World.setCell, Array.getElem?_modify, h]
theorem Blk.far (h : Blk w g cs) {p : Addr} (hp : g ≠ p.block) (u : Value) : Blk (w.setCell p u) g cs := h.of_block (Below.heap_setCell w p u g hp)
theorem Blk.below {B : Nat} (h : Blk w g cs) (hb : Below B w w') (hg : g < B) : Blk w' g cs := h.of_block (hb.block g hg)
theorem Blk.ext (h : Blk w g cs) (hb : Below w.heap.size w w') : Blk w' g cs := h.of_block (hb.block g h.lt)
theorem Blk.grown {row : Option Nat} (h : Blk w g cs) (hb : w.grownBy w' row) (hg : some g ≠ row) : Blk w' g cs := h.of_block (hb.block g h.lt hg)
theorem Blk.there (h : Blk w g cs) (n : Nat) (hn : n = cs.length) : There w g n := by
  subst hn
  refine ⟨fun j hj => ?_, h.frozen⟩
  rw [h.cell j, List.getElem?_eq_getElem hj]
  rfl
end

/-! ### Slice expressions -/
/-- Where 'x[k:]' begins: the model keeps the old address where nothing is left of the room. -/
def cutA (A : Option Addr) (c k size : Nat) : Option Addr := if c = k then A else A.map (·.add (k * size))
theorem add_add' (a : Addr) (i j : Nat) : (a.add i).add j = a.add (i + j) := by
  unfold Addr.add
  by_cases hi : i = 0 <;> by_cases hj : j = 0 <;> simp [hi, hj, Nat.add_assoc]
theorem SlA.take {w : World} {size n : Nat} {A : Option Addr} {xs : List Value} (h : SlA w size A n xs) {k : Nat} (hk : k ≤ n) : SlA w size A k (xs.take (k * size)) := by
  have hle : k * size ≤ n * size := Nat.mul_le_mul_right _ hk
  refine ⟨by rw [List.length_take, h.1]; omega, fun e => by have := h.2.1 e; omega, fun ad e j u hu => h.2.2 ad e j u ?_⟩
  rw [List.getElem?_take] at hu
  split at hu
  · exact hu
  · cases hu
theorem SlA.cut {w : World} {size n : Nat} {A : Option Addr} {xs : List Value} (h : SlA w size A n xs) {c k : Nat} (hk : k ≤ n) (hc : n ≤ c) : SlA w size (cutA A c k size) (n - k) (xs.drop (k * size)) := by
  refine ⟨by rw [List.length_drop, h.1, Nat.sub_mul], fun e => ?_, fun ad e j u hu => ?_⟩
  · unfold cutA at e
    split at e
    · have := h.2.1 e; omega
    · cases A with
      | none => have := h.2.1 rfl; omega
      | some a => cases e
  · unfold cutA at e
    split at e
    · have : xs.length ≤ k * size := by rw [h.1]; exact Nat.mul_le_mul_right _ (by omega)
      rw [List.drop_eq_nil_of_le this] at hu
      simp at hu
    · cases A with
      | none => cases e
      | some a =>
        simp only [Option.map_some, Option.some.injEq] at e
        subst e
        rw [add_add']
        rw [List.getElem?_drop] at hu
        exact h.2.2 a rfl _ u hu
theorem run_slice_low {P : Program} (t e : TypeId) (i : TypeInfo) (size : Nat) (ht : P.underlying t = some (.slice e)) (hi : P.info? e = some i) (hs : i.size = size) (kd : IntKind) (A : Option Addr) (n c k : Nat) (hk : k ≤ n) (W : World) :
    (Instr.slice t (.slice A n c) (some (.int kd k)) none none).run P W = .ok (.slice (cutA A c k size) (n - k) (c - k)) W := by
  subst hs
  simp [Instr.slice, Instr.sliceBounds, Instr.sliceBound, asIntOf, run_underlying ht, sizeOf, typeInfo, hi, hk, cutA]
theorem run_slice_high {P : Program} (t e : TypeId) (i : TypeInfo) (ht : P.underlying t = some (.slice e)) (hi : P.info? e = some i) (kd : IntKind) (A : Option Addr) (n c k : Nat) (hk : k ≤ c) (W : World) :
    (Instr.slice t (.slice A n c) none (some (.int kd k)) none).run P W = .ok (.slice A k c) W := by
  have h3 : (A.map fun x => x.add 0) = A := by cases A <;> simp [Addr.add]
  simp [Instr.slice, Instr.sliceBounds, Instr.sliceBound, asIntOf, run_underlying ht, sizeOf, typeInfo, hi, hk, h3]
theorem run_slice_high_max {P : Program} (t e : TypeId) (i : TypeInfo) (ht : P.underlying t = some (.slice e)) (hi : P.info? e = some i) (kd kd' : IntKind) (A : Option Addr) (n c k m : Nat) (hk : k ≤ m) (hm : m ≤ c) (W : World) :
    (Instr.slice t (.slice A n c) none (some (.int kd k)) (some (.int kd' m))).run P W = .ok (.slice A k m) W := by
  have h3 : (A.map fun x => x.add 0) = A := by cases A <;> simp [Addr.add]
  simp [Instr.slice, Instr.sliceBounds, Instr.sliceBound, asIntOf, run_underlying ht, sizeOf, typeInfo, hi, hk, h3, hm]
theorem run_slice_low_high {P : Program} (t e : TypeId) (i : TypeInfo) (size : Nat) (ht : P.underlying t = some (.slice e)) (hi : P.info? e = some i) (hs : i.size = size) (kd kd' : IntKind) (A : Option Addr) (n c k m : Nat) (hk : k ≤ m) (hm : m ≤ c) (W : World) :
    (Instr.slice t (.slice A n c) (some (.int kd k)) (some (.int kd' m)) none).run P W = .ok (.slice (cutA A c k size) (m - k) (c - k)) W := by
  subst hs
  simp [Instr.slice, Instr.sliceBounds, Instr.sliceBound, asIntOf, run_underlying ht, sizeOf, typeInfo, hi, hk, hm, cutA]
/-- make([]T, n) -/
theorem run_make_n {P : Program} (t e : TypeId) (i : TypeInfo) (z : Value) (ht : P.underlying t = some (.slice e)) (hi : P.info? e = some i) (hz : i.zero = some z) (kl kc : IntKind) (n : Nat) (hb : i.bytes * n ≤ 281474976710656) (h63 : n ≤ 9223372036854775807) (W : World) :
    (Instr.makeSlice t (.int kl n) (.int kc n)).run P W = .ok (.slice (some ⟨W.heap.size, 0, none⟩) n n) (W.alloc (.cells (madeCells z.cells (n * i.size)) e)) := by
  have hb' : (i.bytes : Int) * (n : Int) ≤ 281474976710656 := by
    have h : ((i.bytes * n : Nat) : Int) ≤ 281474976710656 := by omega
    rwa [Int.natCast_mul] at h
  simpa using run_make (P := P) W t e i z ht hi hz kl kc n n (by omega) (Int.le_refl _) hb' (by omega)

theorem heap_at (w : World) (o : Obj) (g : Nat) (h : g = w.heap.size) : (w.alloc o).heap[g]? = some o := by subst h; exact heap_alloc_new w o
theorem madeCells_list (z : Value) (n : Nat) : madeCells #[z] n = (List.replicate n z).toArray := by
  rw [← toList_madeCells_one]
/-- The walk is made to stand still at the operation that writes temporary d. -/
theorem stop_at {P : Program} {ops : Array Oper} {Q : Exit → Act → World → Prop} {rest : List Oper} {a : Act} {w : World} {d : Tmp} {op : Op} {t : TypeId} {pos : String} {after : Array Edge} {g : Option (Nat × Bool)}
    (h : Hid (wpList P ops Q (⟨some d, op, t, pos, after, g⟩ :: rest) a w)) : wpList P ops Q (⟨some d, op, t, pos, after, g⟩ :: rest) a w := h

/-- copy of a readable slice into the whole of a block that has just been made. -/
theorem wpList_copy_fresh {P : Program} {w : World} {ops : Array Oper} {rest : List Oper} {o : Oper} {a : Act} {Q : Exit → Act → World → Prop} (hgd : o.guard = none) (d s : Operand) (dT sT : TypeId)
    (ho : o.op = .call { callee := .builtin .copy, args := #[d, s], argTypes := #[dT, sT] }) (e : TypeId) (hu : P.underlying dT = some (.slice e)) (hsz : (P.info? e).map (·.size) = some 1)
    (g q dCap : Nat) (hd : a.eval d = .slice (some ⟨g, 0, none⟩) q dCap) (A : Option Addr) (c : Nat) (hs : a.eval s = .slice A q c)
    (news : List Value) (hr : SlA w 1 A q news) (h1 : ∀ v ∈ news, v.oneCell' = true) (cur : List Value) (hcur : cur.length = q) (hq : q ≤ maxLen) (hg : w.heap[g]? = some (.cells cur.toArray e (0, 0)))
    (h : ∀ w', Own w' g e 1 (some ⟨g, 0, none⟩) q q news → Below g w w' → wpList P ops Q rest (a.put o.dst (.int .i64 q)) w') : wpList P ops Q (o :: rest) a w := by
  have hlen : news.length = q := by simpa using hr.1
  refine wpList_copy_splice hgd d s dT sT ho e hu hsz _ A q dCap q c hd hs g 0 cur e hg news (by rw [hlen]; exact (Nat.min_self q).symm) (fun hpos => ⟨rfl, ?_⟩) (by omega) h1 g w (Below.refl _ _) (Nat.le_refl _) ?_
  · cases A with
    | none => have := hr.2.1 rfl; omega
    | some ad => exact ⟨ad, rfl, hr.2.2 ad rfl⟩
  · intro w' hh hb
    have hsp : splice cur 0 news = news := by simp [splice, hlen, hcur]
    rw [hlen]
    refine h w' (.inr ⟨hr.1, .inr ⟨g, q, news.toArray, rfl, Nat.le_refl _, ?_, Nat.le_refl _, hq, by simp [hlen], by simp [← hlen]⟩⟩) hb
    have hh' := hh.out
    rwa [hsp] at hh'

/-- Only block g (n cells, which may be stored to) may have turned of what was there in w1. -/
abbrev Held (w1 : World) (g n : Nat) (w : World) : Prop :=
  (∀ p : Addr, p.block ≠ g → (w1.cell? p).isSome = true → w.cell? p = w1.cell? p) ∧ (∀ j, j < n → w.cell? ⟨g, j, none⟩ = some (old w g j)) ∧ (∀ j, w.frozen? ⟨g, j, none⟩ = false) ∧
  (w.os = w1.os ∧ w.tape = w1.tape ∧ w.output = w1.output ∧ w1.heap.size ≤ w.heap.size ∧ g < w1.heap.size ∧ ∀ k, k < w1.heap.size → k ≠ g → w.heap[k]? = w1.heap[k]?)

theorem Held.start {w1 : World} {g n : Nat} (h : There w1 g (n + 1)) : Held w1 g (n + 1) w1.drew :=
  ⟨fun _ _ _ => rfl, fun j hj => old_of (h.1 j hj), h.2, rfl, rfl, rfl, Nat.le_refl _, h.lt, fun _ _ _ => rfl⟩
theorem Held.there {w1 w : World} {g n : Nat} (h : Held w1 g n w) : There w g n := ⟨fun j hj => by rw [h.2.1 j hj]; rfl, h.2.2.1⟩
theorem Held.step {w1 w w' : World} {g n : Nat} (h : Held w1 g (n + 1) w) (ht : There w' g (n + 1)) (ho : w'.os = w.os) (htp : w'.tape = w.tape) (hou : w'.output = w.output) (hs : w.heap.size ≤ w'.heap.size)
    (hk : ∀ k, k < w.heap.size → k ≠ g → w'.heap[k]? = w.heap[k]?) : Held w1 g (n + 1) w' := by
  obtain ⟨h1, h2, h3, i1, i2, i3, i4, i5, i6⟩ := h
  have hk' : ∀ k, k < w1.heap.size → k ≠ g → w'.heap[k]? = w1.heap[k]? := fun k hlt hne => (hk k (by omega) hne).trans (i6 k hlt hne)
  refine ⟨fun p hp hs' => ?_, fun j hj => old_of (ht.1 j hj), ht.2, ho.trans i1, htp.trans i2, hou.trans i3, Nat.le_trans i4 hs, i5, hk'⟩
  obtain ⟨u, hu⟩ := Option.isSome_iff_exists.1 hs'
  exact World.cell?_of_block (hk' p.block (World.block_lt_of_cell? _ p hu) hp)
theorem Held.below {w1 w w' : World} {g n : Nat} (h : Held w1 g (n + 1) w) (hb : Below w.heap.size w w') : Held w1 g (n + 1) w' :=
  h.step (There.below hb h.there) hb.os hb.tape hb.output hb.size fun k hk _ => hb.block k hk
theorem Held.alloc {w1 w : World} {g n : Nat} (h : Held w1 g (n + 1) w) (o : Obj) : Held w1 g (n + 1) (w.alloc o) := h.below ((Below.refl _ _).alloc (Nat.le_refl _) o)
theorem Held.drew {w1 w : World} {g n : Nat} (h : Held w1 g (n + 1) w) : Held w1 g (n + 1) w.drew := h.below ((Below.refl _ _).drew)
theorem Held.set {w1 w : World} {g n : Nat} (j : Nat) (v : Value) (h : Held w1 g (n + 1) w) : Held w1 g (n + 1) (w.setCell ⟨g, j, none⟩ v) :=
  h.step (There.set _ _ h.there) rfl rfl rfl (by simp [World.setCell]) fun _ _ hne => Below.heap_setCell _ _ _ _ hne
theorem Held.grown {w1 w w' : World} {g n : Nat} {row : Option Nat} (h : Held w1 g (n + 1) w) (hg : w.grownBy w' row) (hr : ∀ k, row = some k → w1.heap.size ≤ k) : Held w1 g (n + 1) w' := by
  obtain ⟨_, _, _, i1, i2, i3, i4, i5, i6⟩ := id h
  have hk' : ∀ k, k < w1.heap.size → w'.heap[k]? = w.heap[k]? := fun k hlt => hg.block k (by omega) (fun e => by have := hr k e.symm; omega)
  have ht : There w' g (n + 1) := (There.of_block (Held.there h) (hk' g i5))
  refine ⟨fun p hp hs' => ?_, fun j hj => old_of (ht.1 j hj), ht.2, hg.os.trans i1, hg.tape.trans i2, hg.output.trans i3, Nat.le_trans i4 hg.size, i5, fun k hlt hne => (hk' k hlt).trans (i6 k hlt hne)⟩
  obtain ⟨u, hu⟩ := Option.isSome_iff_exists.1 hs'
  exact World.cell?_of_block ((hk' p.block (World.block_lt_of_cell? _ p hu)).trans (i6 p.block (World.block_lt_of_cell? _ p hu) hp))
theorem Held.toBelow {w1 w : World} {g n B : Nat} (h : Held w1 g n w) (hB : B ≤ g) : Below B w1 w :=
  let ⟨_, _, _, i1, i2, i3, i4, i5, i6⟩ := h
  ⟨i1, i2, i3, i4, fun k hk => i6 k (by omega) (by omega)⟩
end Go.Gz


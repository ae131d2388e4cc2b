/- Entries of a log: what a slice of them reads as, in memory of any owner and in new memory. -/
import Derived.Test.YtglabhfmeinogaaRows
import Derived.Test.YtglabhfmeinogaaConf
import Derived.Test.YtglabhfmeinogaaSame
import Derived.Test.YtglabhfmeinogaaStore
import Derived.Test.YtglabhfmeinogaaMany
import Derived.Laws.CopyOwn
namespace Go.Gz
open Go.RowKit
theorem below_grown {B : Nat} {w w1 w' : World} {g : Nat} (h : Below B w w1) (hg : w1.grownBy w' (some g)) (hB : B ≤ g) (hl : g < w1.heap.size) : Below B w w' := h.grown hg (by omega) (fun k hk => by injection hk with hk; omega)
theorem blk_grown {w w' : World} {g g' : Nat} {cs : List Value} (h : Blk w g cs) (hg : w.grownBy w' (some g')) (hne : ¬ g = g') : Blk w' g cs := h.grown hg (fun e => hne (by injection e))
theorem below_alloc_one (w : World) (o : Obj) : Below w.heap.size w (w.alloc o) := (Below.refl _ _).alloc (Nat.le_refl _) o
theorem sl_new (w : World) (g : Nat) (ys : Array Value) (hg : g = w.heap.size) (t : TypeId) (xs : List Value) (size n : Nat) (h : xs.length = n * size) (hy : ys = xs.toArray := by rfl) : SlA (w.alloc (.cells ys t)) size (some ⟨g, 0, none⟩) n xs := by
  subst hg hy
  exact ⟨h, fun e => (by cases e), fun ad e j u hu => by
    injection e with e
    subst e
    rw [Addr.add_lit, Nat.zero_add]
    exact ((Blk.new w t xs _ rfl).cell j).trans hu⟩
theorem flat_cell {w : World} {k n : Nat} {ad : Addr} {α : Type} (val : α → List Value) {l : List α} (h : SlA w k (some ad) n (l.flatMap val)) (hk : ∀ y ∈ l, (val y).length = k) {j : Nat} (hj : j < l.length) (r : Nat) (hr : r < k) : w.cell? (ad.add (j * k + r)) = (val (l[j]))[r]? := by
  have e := flat_at val k l hk j r hj hr
  have hl : r < (val (l[j])).length := by rw [hk _ (List.getElem_mem hj)]; exact hr
  rw [List.getElem?_eq_getElem hl] at e ⊢
  exact h.2.2 ad rfl _ _ e
theorem add_of (ad : Addr) (m k : Nat) (hk : 0 < k) : (⟨(ad.add m).block, (ad.add m).off + k, none⟩ : Addr) = ad.add (m + k) := by
  obtain ⟨b, o, s⟩ := ad
  cases k with
  | zero => omega
  | succ k => cases m <;> simp [Addr.add] <;> omega

/-- Memory of one type is not touched by what grows a slice of another one. -/
theorem Own.grown_type {w w' : World} {base base' size size' n n' c c' : Nat} {e e' : TypeId} {A B : Option Addr} {xs ys : List Value} (h : Own w base e size A n c xs) (hs : Own w base' e' size' B n' c' ys) (hne : e ≠ e') (hB : B = none ∨ 0 < n') (hg : w.grownBy w' (Value.slice B n' c').ownBlock) : Own w' base e size A n c xs := by
  refine h.imp id fun h => ⟨h.1, ?_⟩
  rcases h.2 with hn | ⟨g, cap, cur, hv, hbg, hgg, rest⟩
  · exact .inl hn
  · refine .inr ⟨g, cap, cur, hv, hbg, (hg.block g (Array.getElem?_eq_some_iff.1 hgg).1 (fun e => ?_)).trans hgg, rest⟩
    rcases hB with rfl | hpos
    · simp [Value.ownBlock] at e
    · obtain ⟨g', h1, _, cur', h2⟩ := hs.addr hpos
      subst h1
      simp only [Value.ownBlock, Option.some.injEq] at e
      subst e
      rw [hgg] at h2
      injection h2 with h2
      injection h2 with _ h3
      exact hne h3

/-- A block of the call's own, its type known. -/
def BlkT (w : World) (g : Nat) (t : TypeId) (cs : List Value) : Prop := w.heap[g]? = some (.cells cs.toArray t (0, 0))
theorem BlkT.blk {w : World} {g : Nat} {t : TypeId} {cs : List Value} (h : BlkT w g t cs) : Blk w g cs := ⟨t, h⟩
theorem BlkT.new (w : World) (t : TypeId) (cs : List Value) : BlkT (w.alloc (.cells cs.toArray t)) w.heap.size t cs := heap_at _ _ _ (by simp)
theorem BlkT.lt {w : World} {g : Nat} {t : TypeId} {cs : List Value} (h : BlkT w g t cs) : g < w.heap.size := h.blk.lt
theorem BlkT.below {w w' : World} {g : Nat} {t : TypeId} {cs : List Value} (h : BlkT w g t cs) (hb : Below w.heap.size w w') : BlkT w' g t cs := (hb.block g h.lt).trans h
theorem BlkT.own {w : World} {g : Nat} {t : TypeId} {cs : List Value} (h : BlkT w g t cs) {size n base : Nat} (hl : cs.length = n * size) (hb : base ≤ g) (hn : n ≤ maxLen) : Own w base t size (some ⟨g, 0, none⟩) n n cs :=
  .inr ⟨hl, .inr ⟨g, n, cs.toArray, rfl, hb, h, Nat.le_refl _, hn, by simp [hl], by simp [← hl]⟩⟩
theorem wpList_store_partT {P : Program} {w : World} {ops : Array Oper} {rest : List Oper} {o : Oper} {a : Act} {Q : Exit → Act → World → Prop} (hgd : o.guard = none) (ty : TypeId) (x y : Operand) (ho : o.op = .store ty x y)
    (g j : Nat) (t : TypeId) (v : Value) (cs : List Value) (hx : a.eval x = .pointer (some ⟨g, j, none⟩)) (hy : a.eval y = v) (hv : v.cells = cs.toArray) (olds : List Value) (hg : BlkT w g t olds) (hl : j + cs.length ≤ olds.length)
    (hi : (P.info? ty).map (·.size) = some cs.length) (h1' : cs.all (fun v => v.oneCell') = true) (news : List Value) (hn : olds.take j ++ cs ++ olds.drop (j + cs.length) = news)
    (h : ∀ w', BlkT w' g t news → w.grownBy w' (some g) → w'.heap.size = w.heap.size → wpList P ops Q rest (a.put o.dst undef) w') : wpList P ops Q (o :: rest) a w := by
  have h1 : ∀ v ∈ cs, v.oneCell' = true := fun v hv => List.all_eq_true.1 h1' v hv
  have hst := run_storeCells_at P g j t cs 0 olds.toArray w hg (by simpa using hl) h1
  simp only [Nat.add_zero] at hst
  rw [hn] at hst
  refine wpList_plain hgd fun K hK => ?_
  have hrun : (storeVar ty ⟨g, j, none⟩ v).run P w = .ok () (w.setRow g news.toArray) := by
    cases hq : P.info? ty with
    | none => simp [hq] at hi
    | some i =>
      have hs : cs.length = i.size := by simp [hq] at hi; omega
      simp [storeVar, Go.sizeOf, typeInfo, hq, hv, hs, hst]
  unfold Oper.wp execOp
  simp only [ho, hx, hy, Instr.storeAt, Instr.sureAddr, Sem.run_bind, Sem.run_pure, Result.andThen_ok, hrun]
  exact hK _ _ (h _ (setRow_heap w g _ _ t _ hg) ⟨rfl, rfl, rfl, by simp, fun k _ hk => setRow_other w g k _ (fun e => hk (by rw [e]))⟩ (by simp))
/-- copy into a block of the call's own that is as long. -/
theorem wpList_copy_many {P : Program} {w : World} {ops : Array Oper} {rest : List Oper} {o : Oper} {a : Act} {Q : Exit → Act → World → Prop} (hgd : o.guard = none) (d s : Operand) (dT sT : TypeId)
    (ho : o.op = .call { callee := .builtin .copy, args := #[d, s], argTypes := #[dT, sT] }) (e : TypeId) (hu : P.underlying dT = some (.slice e)) (size : Nat) (hsz : (P.info? e).map (·.size) = some size)
    (g q dCap : Nat) (hd : a.eval d = .slice (some ⟨g, 0, none⟩) q dCap) (A : Option Addr) (c : Nat) (hs : a.eval s = .slice A q c)
    (news : List Value) (hr : SlA w size A q news) (h1 : ∀ v ∈ news, v.oneCell' = true) (cur : List Value) (hcur : cur.length = q * size) (t : TypeId) (hg : BlkT w g t cur)
    (h : ∀ w', BlkT w' g t news → w.grownBy w' (some g) → w'.heap.size = w.heap.size → wpList P ops Q rest (a.put o.dst (.int .i64 q)) w') : wpList P ops Q (o :: rest) a w := by
  have hlen : news.length = q * size := hr.1
  obtain ⟨i, hi⟩ : ∃ i, P.info? e = some i := by cases hq : P.info? e with | none => simp [hq] at hsz | some i => exact ⟨i, rfl⟩
  have hsi : i.size = size := by simpa [hi] using hsz
  have hfc : (Builtin.firstCells size q (.slice A q c)).run P w = .ok news.toArray w := by
    cases A with
    | none =>
      have h0 := hr.2.1 rfl
      subst h0
      have : news = [] := List.eq_nil_of_length_eq_zero (by simpa using hlen)
      subst this
      rfl
    | some ad =>
      have := run_loadCells_list (P := P) (w := w) ad news (hr.2.2 ad rfl)
      rw [hlen] at this
      exact this
  have hst := run_storeCells_at P g 0 t news 0 cur.toArray w hg (by simp [hcur, hlen]) h1
  have hfull : cur.drop (0 + news.length) = [] := List.drop_eq_nil_of_le (by omega)
  simp only [Nat.add_zero, List.take_zero, List.nil_append] at hst
  rw [hfull, List.append_nil] at hst
  refine wpList_plain hgd fun K hK => ?_
  have hrun : (Builtin.copy_ #[dT, sT] o.type #[.slice (some ⟨g, 0, none⟩) q dCap, .slice A q c]).run P w = .ok (.int .i64 q) (w.setRow g news.toArray) := by
    simp only [Builtin.copy_]
    simp [run_underlying hu, Go.sizeOf, typeInfo, hi, hsi, Builtin.lenOf, hfc, hst, goInt]
  unfold Oper.wp
  simp [execOp, ho, resolve, invoke, builtin, hd, hs, hrun, Result.andThen]
  exact hK _ _ (h _ (setRow_heap w g _ _ t _ hg) ⟨rfl, rfl, rfl, by simp, fun k _ hk => setRow_other w g k _ (fun e => hk (by rw [e]))⟩ (by simp))
end Go.Gz
namespace Go.Proofs.Ytglabhfmeinogaa
open Go.RowKit Go.Gz

/-- An entry: index, term, kind; data; voters, learners. -/
abbrev Ent := Int × Int × Int × List Int × List Int × List Int
/-- Its lists are not longer than a slice may be. -/
def Fits (x : Ent) : Prop := x.2.2.2.1.length ≤ 140737488355328 ∧ x.2.2.2.2.1.length * 8 ≤ 140737488355328 ∧ x.2.2.2.2.2.length * 8 ≤ 140737488355328
/-- Six cells read as an entry. -/
def IsE (w : World) (cs : List Value) (x : Ent) : Prop := ∃ D dc V vc L lc, cs = [.int .u64 x.1, .int .u64 x.2.1, .int .i64 x.2.2.1, .slice D x.2.2.2.1.length dc, .slice V x.2.2.2.2.1.length vc, .slice L x.2.2.2.2.2.length lc] ∧
  SlA w 1 D x.2.2.2.1.length (nums .u8 x.2.2.2.1) ∧ IsConf w V L x.2.2.2.2.1.length x.2.2.2.2.2.length x.2.2.2.2.1 x.2.2.2.2.2
/-- ... in new memory. -/
def OwnE (w : World) (base : Nat) (cs : List Value) (x : Ent) : Prop := ∃ D dc V vc L lc, cs = [.int .u64 x.1, .int .u64 x.2.1, .int .i64 x.2.2.1, .slice D x.2.2.2.1.length dc, .slice V x.2.2.2.2.1.length vc, .slice L x.2.2.2.2.2.length lc] ∧
  Own w base 5 1 D x.2.2.2.1.length dc (nums .u8 x.2.2.2.1) ∧ OwnConf w base V L x.2.2.2.2.1.length vc x.2.2.2.2.2.length lc x.2.2.2.2.1 x.2.2.2.2.2
theorem OwnE.is {w : World} {base : Nat} {cs : List Value} {x : Ent} (h : OwnE w base cs x) : IsE w cs x := by
  obtain ⟨D, dc, V, vc, L, lc, e, h1, h2⟩ := h
  exact ⟨D, dc, V, vc, L, lc, e, h1.sl, h2.is⟩
theorem IsE.below {w w' : World} {cs : List Value} {x : Ent} (h : IsE w cs x) (hb : Below w.heap.size w w') : IsE w' cs x := by
  obtain ⟨D, dc, V, vc, L, lc, e, h1, h2⟩ := h
  exact ⟨D, dc, V, vc, L, lc, e, h1.below hb, h2.below hb⟩
theorem OwnE.below {w w' : World} {base : Nat} {cs : List Value} {x : Ent} (h : OwnE w base cs x) (hb : Below w.heap.size w w') : OwnE w' base cs x := by
  obtain ⟨D, dc, V, vc, L, lc, e, h1, h2⟩ := h
  exact ⟨D, dc, V, vc, L, lc, e, h1.below hb, h2.below hb⟩
theorem OwnE.lower {w : World} {base base' : Nat} {cs : List Value} {x : Ent} (h : OwnE w base cs x) (hb : base' ≤ base) : OwnE w base' cs x := by
  obtain ⟨D, dc, V, vc, L, lc, e, h1, h2⟩ := h
  exact ⟨D, dc, V, vc, L, lc, e, h1.lower hb, h2.lower hb⟩
theorem OwnE.grown {w w' : World} {base g : Nat} {cs : List Value} {x : Ent} (h : OwnE w base cs x) (hg : w.grownBy w' (some g)) (hb : g < base) : OwnE w' base cs x := by
  obtain ⟨D, dc, V, vc, L, lc, e, h1, h2⟩ := h
  exact ⟨D, dc, V, vc, L, lc, e, h1.grown hg (fun k hk => by injection hk with hk; omega), h2.1.grown hg (fun k hk => by injection hk with hk; omega), h2.2.grown hg (fun k hk => by injection hk with hk; omega)⟩
theorem IsE.len {w : World} {cs : List Value} {x : Ent} (h : IsE w cs x) : cs.length = 6 := by
  obtain ⟨D, dc, V, vc, L, lc, e, _⟩ := h
  rw [e]; rfl
theorem IsE.one {w : World} {cs : List Value} {x : Ent} (h : IsE w cs x) : ∀ v ∈ cs, v.oneCell' = true := by
  obtain ⟨D, dc, V, vc, L, lc, e, _⟩ := h
  intro v hv
  rw [e] at hv
  simp at hv
  rcases hv with rfl | rfl | rfl | rfl | rfl | rfl <;> rfl

/-- A slice of entries. -/
def IsEs (w : World) (A : Option Addr) (n : Nat) (xs : List Ent) : Prop := ∃ zs : List (List Value × Ent), zs.map (·.2) = xs ∧ zs.length = n ∧ SlA w 6 A n (zs.flatMap (·.1)) ∧ ∀ z ∈ zs, IsE w z.1 z.2
/-- ... in new memory. -/
def OwnEs (w : World) (base : Nat) (A : Option Addr) (n c : Nat) (xs : List Ent) : Prop := ∃ zs : List (List Value × Ent), zs.map (·.2) = xs ∧ zs.length = n ∧ Own w base 47 6 A n c (zs.flatMap (·.1)) ∧ ∀ z ∈ zs, OwnE w base z.1 z.2
theorem OwnEs.is {w : World} {base n c : Nat} {A : Option Addr} {xs : List Ent} (h : OwnEs w base A n c xs) : IsEs w A n xs := by
  obtain ⟨zs, h1, h2, h3, h4⟩ := h
  exact ⟨zs, h1, h2, h3.sl, fun z hz => (h4 z hz).is⟩
theorem IsEs.below {w w' : World} {n : Nat} {A : Option Addr} {xs : List Ent} (h : IsEs w A n xs) (hb : Below w.heap.size w w') : IsEs w' A n xs := by
  obtain ⟨zs, h1, h2, h3, h4⟩ := h
  exact ⟨zs, h1, h2, h3.below hb, fun z hz => (h4 z hz).below hb⟩
theorem OwnEs.below {w w' : World} {base n c : Nat} {A : Option Addr} {xs : List Ent} (h : OwnEs w base A n c xs) (hb : Below w.heap.size w w') : OwnEs w' base A n c xs := by
  obtain ⟨zs, h1, h2, h3, h4⟩ := h
  exact ⟨zs, h1, h2, h3.below hb, fun z hz => (h4 z hz).below hb⟩
theorem OwnEs.lower {w : World} {base base' n c : Nat} {A : Option Addr} {xs : List Ent} (h : OwnEs w base A n c xs) (hb : base' ≤ base) : OwnEs w base' A n c xs := by
  obtain ⟨zs, h1, h2, h3, h4⟩ := h
  exact ⟨zs, h1, h2, h3.lower hb, fun z hz => (h4 z hz).lower hb⟩
theorem IsEs.len {w : World} {n : Nat} {A : Option Addr} {xs : List Ent} (h : IsEs w A n xs) : xs.length = n := by
  obtain ⟨zs, h1, h2, _⟩ := h
  rw [← h1, List.length_map, h2]
/-- One of them, as cells. -/
theorem IsEs.at {w : World} {n : Nat} {ad : Addr} {xs : List Ent} (h : IsEs w (some ad) n xs) {j : Nat} (hj : j < n) : ∃ x D dc V vc L lc, xs[j]? = some x ∧
    IsE w [.int .u64 x.1, .int .u64 x.2.1, .int .i64 x.2.2.1, .slice D x.2.2.2.1.length dc, .slice V x.2.2.2.2.1.length vc, .slice L x.2.2.2.2.2.length lc] x ∧
    SlA w 1 D x.2.2.2.1.length (nums .u8 x.2.2.2.1) ∧ IsConf w V L x.2.2.2.2.1.length x.2.2.2.2.2.length x.2.2.2.2.1 x.2.2.2.2.2 ∧
    w.cell? (ad.add (j * 6)) = some (.int .u64 x.1) ∧ w.cell? ⟨(ad.add (j * 6)).block, (ad.add (j * 6)).off + 1, none⟩ = some (.int .u64 x.2.1) ∧ w.cell? ⟨(ad.add (j * 6)).block, (ad.add (j * 6)).off + 2, none⟩ = some (.int .i64 x.2.2.1) ∧
    w.cell? ⟨(ad.add (j * 6)).block, (ad.add (j * 6)).off + 3, none⟩ = some (.slice D x.2.2.2.1.length dc) ∧ w.cell? ⟨(ad.add (j * 6)).block, (ad.add (j * 6)).off + 4, none⟩ = some (.slice V x.2.2.2.2.1.length vc) ∧ w.cell? ⟨(ad.add (j * 6)).block, (ad.add (j * 6)).off + 5, none⟩ = some (.slice L x.2.2.2.2.2.length lc) := by
  obtain ⟨zs, h1, h2, h3, h4⟩ := h
  have hjz : j < zs.length := by omega
  have hz := h4 (zs[j]) (List.getElem_mem hjz)
  have hz2 := hz
  obtain ⟨D, dc, V, vc, L, lc, e, hs, hc⟩ := hz
  have cm := fun r hr => flat_cell (fun z : List Value × Ent => z.1) h3 (fun z hz => (h4 z hz).len) hjz r hr
  rw [e] at cm
  rw [e] at hz2
  refine ⟨(zs[j]).2, D, dc, V, vc, L, lc, by rw [← h1]; simp [hjz], hz2, hs, hc, cm 0 (by omega), ?_, ?_, ?_, ?_, ?_⟩
  · rw [add_of ad (j * 6) 1 (by omega)]; exact cm 1 (by omega)
  · rw [add_of ad (j * 6) 2 (by omega)]; exact cm 2 (by omega)
  · rw [add_of ad (j * 6) 3 (by omega)]; exact cm 3 (by omega)
  · rw [add_of ad (j * 6) 4 (by omega)]; exact cm 4 (by omega)
  · rw [add_of ad (j * 6) 5 (by omega)]; exact cm 5 (by omega)
theorem IsEs.nil (w : World) : IsEs w none 0 [] := ⟨[], rfl, rfl, ⟨rfl, fun _ => rfl, fun ad e => (by cases e)⟩, fun z hz => (by cases hz)⟩
theorem infoEnt : (Try.prog.info? 47).map (fun i => (i.zero, i.size, i.bytes)) = some (some (.agg #[.int .u64 0, .int .u64 0, .int .i64 0, .slice none 0 0, .slice none 0 0, .slice none 0 0]), 6, 96) := by kernel_rfl
end Go.Proofs.Ytglabhfmeinogaa

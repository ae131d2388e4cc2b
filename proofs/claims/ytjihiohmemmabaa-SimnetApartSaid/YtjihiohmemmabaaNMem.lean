/- Words on memory; slices.Clone of bytes. -/
import Derived.Test.YtjihiohmemmabaaNMap
import Derived.Test.YtjihiohmemmabaaMany
import Derived.Laws.CopyOwn
import Derived.Deep.QuietTactic
import Derived.BigQuiet
namespace Go.Gz
open Go.RowKit
theorem below_grown {B : Nat} {w w1 w' : World} {g : Nat} (h : Below B w w1) (hg : w1.grownBy w' (some g)) (hB : B ≤ g) (hl : g < w1.heap.size) : Below B w w' := h.grown hg (by omega) (fun k hk => by injection hk with hk; omega)
theorem blk_grown {w w' : World} {g g' : Nat} {cs : List Value} (h : Blk w g cs) (hg : w.grownBy w' (some g')) (hne : ¬ g = g') : Blk w' g cs := h.grown hg (fun e => hne (by injection e))
theorem below_alloc_one (w : World) (o : Obj) : Below w.heap.size w (w.alloc o) := (Below.refl _ _).alloc (Nat.le_refl _) o
theorem sl_new (w : World) (g : Nat) (ys : Array Value) (hg : g = w.heap.size) (t : TypeId) (xs : List Value) (size n : Nat) (h : xs.length = n * size) (hy : ys = xs.toArray := by rfl) : SlA (w.alloc (.cells ys t)) size (some ⟨g, 0, none⟩) n xs := by
  subst hg hy
  exact ⟨h, fun e => (by cases e), fun ad e j u hu => by
    injection e with e
    subst e
    rw [Addr.add_lit, Nat.zero_add]
    exact ((Blk.new w t xs _ rfl).cell j).trans hu⟩
theorem flat_cell {w : World} {k n : Nat} {ad : Addr} {α : Type} (val : α → List Value) {l : List α} (h : SlA w k (some ad) n (l.flatMap val)) (hk : ∀ y ∈ l, (val y).length = k) {j : Nat} (hj : j < l.length) (r : Nat) (hr : r < k) : w.cell? (ad.add (j * k + r)) = (val (l[j]))[r]? := by
  have e := flat_at val k l hk j r hj hr
  have hl : r < (val (l[j])).length := by rw [hk _ (List.getElem_mem hj)]; exact hr
  rw [List.getElem?_eq_getElem hl] at e ⊢
  exact h.2.2 ad rfl _ _ e
theorem add_of (ad : Addr) (m k : Nat) (hk : 0 < k) : (⟨(ad.add m).block, (ad.add m).off + k, none⟩ : Addr) = ad.add (m + k) := by
  obtain ⟨b, o, s⟩ := ad
  cases k with
  | zero => omega
  | succ k => cases m <;> simp [Addr.add] <;> omega

/-- Memory of one type is not touched by what grows a slice of another one. -/
theorem Own.grown_type {w w' : World} {base base' size size' n n' c c' : Nat} {e e' : TypeId} {A B : Option Addr} {xs ys : List Value} (h : Own w base e size A n c xs) (hs : Own w base' e' size' B n' c' ys) (hne : e ≠ e') (hB : B = none ∨ 0 < n') (hg : w.grownBy w' (Value.slice B n' c').ownBlock) : Own w' base e size A n c xs := by
  refine h.imp id fun h => ⟨h.1, ?_⟩
  rcases h.2 with hn | ⟨g, cap, cur, hv, hbg, hgg, rest⟩
  · exact .inl hn
  · refine .inr ⟨g, cap, cur, hv, hbg, (hg.block g (Array.getElem?_eq_some_iff.1 hgg).1 (fun e => ?_)).trans hgg, rest⟩
    rcases hB with rfl | hpos
    · simp [Value.ownBlock] at e
    · obtain ⟨g', h1, _, cur', h2⟩ := hs.addr hpos
      subst h1
      simp only [Value.ownBlock, Option.some.injEq] at e
      subst e
      rw [hgg] at h2
      injection h2 with h2
      injection h2 with _ h3
      exact hne h3

/-- A block of the call's own, its type known. -/
def BlkT (w : World) (g : Nat) (t : TypeId) (cs : List Value) : Prop := w.heap[g]? = some (.cells cs.toArray t (0, 0))
theorem BlkT.blk {w : World} {g : Nat} {t : TypeId} {cs : List Value} (h : BlkT w g t cs) : Blk w g cs := ⟨t, h⟩
theorem BlkT.new (w : World) (t : TypeId) (cs : List Value) : BlkT (w.alloc (.cells cs.toArray t)) w.heap.size t cs := heap_at _ _ _ (by simp)
theorem BlkT.lt {w : World} {g : Nat} {t : TypeId} {cs : List Value} (h : BlkT w g t cs) : g < w.heap.size := h.blk.lt
theorem BlkT.below {w w' : World} {g : Nat} {t : TypeId} {cs : List Value} (h : BlkT w g t cs) (hb : Below w.heap.size w w') : BlkT w' g t cs := (hb.block g h.lt).trans h
theorem BlkT.own {w : World} {g : Nat} {t : TypeId} {cs : List Value} (h : BlkT w g t cs) {size n base : Nat} (hl : cs.length = n * size) (hb : base ≤ g) (hn : n ≤ maxLen) : Own w base t size (some ⟨g, 0, none⟩) n n cs :=
  .inr ⟨hl, .inr ⟨g, n, cs.toArray, rfl, hb, h, Nat.le_refl _, hn, by simp [hl], by simp [← hl]⟩⟩
theorem wpList_store_partT {P : Program} {w : World} {ops : Array Oper} {rest : List Oper} {o : Oper} {a : Act} {Q : Exit → Act → World → Prop} (hgd : o.guard = none) (ty : TypeId) (x y : Operand) (ho : o.op = .store ty x y)
    (g j : Nat) (t : TypeId) (v : Value) (cs : List Value) (hx : a.eval x = .pointer (some ⟨g, j, none⟩)) (hy : a.eval y = v) (hv : v.cells = cs.toArray) (olds : List Value) (hg : BlkT w g t olds) (hl : j + cs.length ≤ olds.length)
    (hi : (P.info? ty).map (·.size) = some cs.length) (h1' : cs.all (fun v => v.oneCell') = true) (news : List Value) (hn : olds.take j ++ cs ++ olds.drop (j + cs.length) = news)
    (h : ∀ w', BlkT w' g t news → w.grownBy w' (some g) → w'.heap.size = w.heap.size → wpList P ops Q rest (a.put o.dst undef) w') : wpList P ops Q (o :: rest) a w := by
  have h1 : ∀ v ∈ cs, v.oneCell' = true := fun v hv => List.all_eq_true.1 h1' v hv
  have hst := run_storeCells_at P g j t cs 0 olds.toArray w hg (by simpa using hl) h1
  simp only [Nat.add_zero] at hst
  rw [hn] at hst
  refine wpList_plain hgd fun K hK => ?_
  have hrun : (storeVar ty ⟨g, j, none⟩ v).run P w = .ok () (w.setRow g news.toArray) := by
    cases hq : P.info? ty with
    | none => simp [hq] at hi
    | some i =>
      have hs : cs.length = i.size := by simp [hq] at hi; omega
      simp [storeVar, Go.sizeOf, typeInfo, hq, hv, hs, hst]
  unfold Oper.wp execOp
  simp only [ho, hx, hy, Instr.storeAt, Instr.sureAddr, Sem.run_bind, Sem.run_pure, Result.andThen_ok, hrun]
  exact hK _ _ (h _ (setRow_heap w g _ _ t _ hg) ⟨rfl, rfl, rfl, by simp, fun k _ hk => setRow_other w g k _ (fun e => hk (by rw [e]))⟩ (by simp))
/-- copy into a block of the call's own that is as long. -/
theorem wpList_copy_many {P : Program} {w : World} {ops : Array Oper} {rest : List Oper} {o : Oper} {a : Act} {Q : Exit → Act → World → Prop} (hgd : o.guard = none) (d s : Operand) (dT sT : TypeId)
    (ho : o.op = .call { callee := .builtin .copy, args := #[d, s], argTypes := #[dT, sT] }) (e : TypeId) (hu : P.underlying dT = some (.slice e)) (size : Nat) (hsz : (P.info? e).map (·.size) = some size)
    (g q dCap : Nat) (hd : a.eval d = .slice (some ⟨g, 0, none⟩) q dCap) (A : Option Addr) (c : Nat) (hs : a.eval s = .slice A q c)
    (news : List Value) (hr : SlA w size A q news) (h1 : ∀ v ∈ news, v.oneCell' = true) (cur : List Value) (hcur : cur.length = q * size) (t : TypeId) (hg : BlkT w g t cur)
    (h : ∀ w', BlkT w' g t news → w.grownBy w' (some g) → w'.heap.size = w.heap.size → wpList P ops Q rest (a.put o.dst (.int .i64 q)) w') : wpList P ops Q (o :: rest) a w := by
  have hlen : news.length = q * size := hr.1
  obtain ⟨i, hi⟩ : ∃ i, P.info? e = some i := by cases hq : P.info? e with | none => simp [hq] at hsz | some i => exact ⟨i, rfl⟩
  have hsi : i.size = size := by simpa [hi] using hsz
  have hfc : (Builtin.firstCells size q (.slice A q c)).run P w = .ok news.toArray w := by
    cases A with
    | none =>
      have h0 := hr.2.1 rfl
      subst h0
      have : news = [] := List.eq_nil_of_length_eq_zero (by simpa using hlen)
      subst this
      rfl
    | some ad =>
      have := run_loadCells_list (P := P) (w := w) ad news (hr.2.2 ad rfl)
      rw [hlen] at this
      exact this
  have hst := run_storeCells_at P g 0 t news 0 cur.toArray w hg (by simp [hcur, hlen]) h1
  have hfull : cur.drop (0 + news.length) = [] := List.drop_eq_nil_of_le (by omega)
  simp only [Nat.add_zero, List.take_zero, List.nil_append] at hst
  rw [hfull, List.append_nil] at hst
  refine wpList_plain hgd fun K hK => ?_
  have hrun : (Builtin.copy_ #[dT, sT] o.type #[.slice (some ⟨g, 0, none⟩) q dCap, .slice A q c]).run P w = .ok (.int .i64 q) (w.setRow g news.toArray) := by
    simp only [Builtin.copy_]
    simp [run_underlying hu, Go.sizeOf, typeInfo, hi, hsi, Builtin.lenOf, hfc, hst, goInt]
  unfold Oper.wp
  simp [execOp, ho, resolve, invoke, builtin, hd, hs, hrun, Result.andThen]
  exact hK _ _ (h _ (setRow_heap w g _ _ t _ hg) ⟨rfl, rfl, rfl, by simp, fun k _ hk => setRow_other w g k _ (fun e => hk (by rw [e]))⟩ (by simp))
/-- Blocks of other types are as they were. -/
def SameBut (e : TypeId) (w w' : World) : Prop := ∀ (g : Nat) (t : TypeId) (cur : Array Value), w.heap[g]? = some (.cells cur t (0, 0)) → t ≠ e → w'.heap[g]? = some (.cells cur t (0, 0))
theorem Own.sameBut {w w' : World} {base size n c : Nat} {e e' : TypeId} {A : Option Addr} {xs : List Value} (h : Own w base e size A n c xs) (hs : SameBut e' w w') (hne : e ≠ e') : Own w' base e size A n c xs := by
  refine h.imp id fun h => ⟨h.1, ?_⟩
  rcases h.2 with hn | ⟨g, cap, cur, hv, hbg, hgg, rest⟩
  · exact .inl hn
  · exact .inr ⟨g, cap, cur, hv, hbg, hs g _ _ hgg hne, rest⟩
theorem BlkT.sameBut {w w' : World} {g : Nat} {t e : TypeId} {cs : List Value} (h : BlkT w g t cs) (hs : SameBut e w w') (hne : t ≠ e) : BlkT w' g t cs := hs g _ _ h hne
theorem SameBut.of_below {w w' : World} {e : TypeId} (hb : Below w.heap.size w w') : SameBut e w w' := fun g t cur hg _ => (hb.block g (Array.getElem?_eq_some_iff.1 hg).1).trans hg
theorem SameBut.of_blk {w w' : World} {g : Nat} {e : TypeId} {cs : List Value} (h : BlkT w g e cs) (hg : w.grownBy w' (some g)) : SameBut e w w' := fun k t cur hk hne =>
  (hg.block k (Array.getElem?_eq_some_iff.1 hk).1 (fun e' => by
    injection e' with e'
    subst e'
    have h2 : w.heap[k]? = _ := h
    rw [h2] at hk
    injection hk with hk
    injection hk with _ hk
    exact hne hk.symm)).trans hk
theorem Own.take {w : World} {base size n c : Nat} {e : TypeId} {A : Option Addr} {xs : List Value} (h : Own w base e size A n c xs) {p : Nat} (hp : p ≤ n) : Own w base e size A p c (xs.take (p * size)) := by
  have hle : p * size ≤ n * size := Nat.mul_le_mul_right _ hp
  rcases h with ⟨rfl, rfl, rfl⟩ | h
  · exact .inl ⟨by omega, rfl, by simp⟩
  · refine .inr ⟨by rw [List.length_take, h.1]; omega, ?_⟩
    rcases h.2 with ⟨hv, h0⟩ | ⟨g, cap, cur, hv, hbg, hgg, hnc, hcm, hcs, htake⟩
    · injection hv with h1 h2 h3
      exact .inl ⟨by rw [h1, h3, show p = 0 by omega], by omega⟩
    · injection hv with h1 h2 h3
      refine .inr ⟨g, cap, cur, by rw [h1, h3], hbg, hgg, by omega, hcm, hcs, ?_⟩
      rw [← htake, List.take_take, Nat.min_eq_left hle]
theorem step_append_own_T {P : Program} {w : World} {ops : Array Oper} {o : Oper} {a : Act} {K : Act → World → Prop} {Q : Exit → Act → World → Prop} {E : Prop} (dst : Option Tmp) (hd : o.dst = dst) (hgd : o.guard = none) (s x : Operand) (t : TypeId)
    (ho : o.op = .call { callee := .builtin .append, args := #[s, x], argTypes := #[t, t] })
    (base : Nat) (e : TypeId) (i : TypeInfo) (z : Value) (size bytes : Nat) (ht : P.underlying t = some (.slice e)) (hi : P.info? e = some i) (hz : i.zero = some z)
    (hsize : i.size = size) (hby : i.bytes = bytes) (hzs : z.cells.size = size) (hsz : 0 < size)
    (B : Option Addr) (n d : Nat) (xs : List Value) (hs : a.eval s = .slice B n d) (hown : Own w base e size B n d xs)
    (A : Option Addr) (m c : Nat) (news : List Value) (hx : a.eval x = .slice A m c) (hr : SlA w size A m news) (h1 : ∀ u ∈ news, u.oneCell' = true)
    (hbytes : (n + m) * bytes ≤ 140737488355328) (hb0 : 0 < bytes) (hbase : base ≤ w.heap.size)
    (h : ∀ A' c' w', Own w' base e size A' (n + m) c' (xs ++ news) → Below base w w' → SameBut e w w' → K (a.put dst (.slice A' (n + m) c')) w') :
    if Region.wanted o (yielded ops a.tmps) = true then Oper.wp P o a w K Q else E := by
  rcases hown with ⟨rfl, rfl, rfl⟩ | hrow
  · exact step_append_own_sl dst hd hgd s x t ho w.heap.size e i z size bytes ht hi hz hsize hby hzs hsz B 0 0 [] hs (.inl ⟨rfl, rfl, rfl⟩) A m c news hx hr h1 hbytes hb0 (Nat.le_refl _) fun A' c' w' ho hb _ => h A' c' w' (ho.lower hbase) (hb.mono hbase) (SameBut.of_below hb)
  · refine step_append_own_sl dst hd hgd s x t ho base e i z size bytes ht hi hz hsize hby hzs hsz B n d xs hs (.inr hrow) A m c news hx hr h1 hbytes hb0 hbase fun A' c' w' ho hb hg => h A' c' w' ho hb fun k t' cur hk hne => (hg.block k (Array.getElem?_eq_some_iff.1 hk).1 (fun e' => ?_)).trans hk
    rcases hrow.2 with ⟨hv, _⟩ | ⟨g, cap, cur', hv, _, hgg, _⟩
    · rw [hv] at e'
      simp [Value.ownBlock] at e'
    · rw [hv] at e'
      simp only [Value.ownBlock, Option.some.injEq] at e'
      subst e'
      rw [hgg] at hk
      injection hk with hk
      injection hk with _ hk
      exact hne hk.symm
end Go.Gz
namespace Go.Proofs.Ytjihiohmemmabaa
open Go.RowKit Go.Gz
theorem infoU8 : (Try.prog.info? 5).map (fun i => (i.zero, i.size, i.bytes)) = some (some (.int .u8 0), 1, 1) := by kernel_rfl

set_option maxHeartbeats 400000 in
theorem clone_bytes (A : Option Addr) (n c : Nat) (l : List Int) (w : World) (h : SlA w 1 A n (nums .u8 l)) (hb : n ≤ 140737488355328) :
    Calls Try.prog 39 #[.slice A n c] w fun e w' => Below w.heap.size w w' ∧ ∃ A' c', e = .returned (.slice A' n c') ∧ Own w' w.heap.size 5 1 A' n c' (nums .u8 l) := by
  obtain ⟨i0, hi, hz0, hz1, hz2⟩ := info_parts infoU8
  have q : ∀ (w : World) (a : Option Addr) (n c n' c' : Nat), (binOp .eql 22 (.slice a n c) (.slice none n' c')).run Try.prog w = .ok (.bool a.isNone) w := fun w a n c n' c' => Lib.run_eql_slice_nil w _ _ a n c n' c' Try.underlying22
  cases A with
  | none =>
    obtain ⟨hn, hl⟩ := h.nil_xs
    have hl : l = [] := nums_eq_nil hl
    clear h
    subst hn hl
    go_enter Try.func39, Try.ntmps39
    go_wp2
    go_ret
    exact ⟨Below.refl _ _, _, _, rfl, .inl ⟨rfl, rfl, rfl⟩⟩
  | some ad =>
    have H := Lib.hid h
    clear h
    go_enter Try.func39, Try.ntmps39
    go_wp2_with (at_builtin; refine wpList_append_empty rfl (.tmp 5) (.tmp 6) _ rfl 5 i0 (.int .u8 0) 1 1 Try.underlying22 hi hz0 hz1 hz2 rfl (some ⟨w.heap.size, 0, none⟩) rfl (some ad) n c (nums .u8 l) rfl (H.out.alloc _) (by omega) (by omega) ?_; intro A' c' w' hown hg)
    go_ret
    simp only [World.size_alloc] at hown hg
    exact ⟨((Below.refl _ _).alloc (Nat.le_refl _) _).trans (hg.mono (by omega)), A', c', by simp, hown.lower (by omega)⟩

end Go.Proofs.Ytjihiohmemmabaa

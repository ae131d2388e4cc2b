/- Stores into blocks of the call's own, in lists and in regions that draw their order. -/
import Derived.Test.YtjihiohmemmabaaPhase
namespace Go.Gz
open Go.RowKit
/-- A value stored over a part of a variable of the call's own. -/
theorem wpList_store_part {P : Program} {w : World} {ops : Array Oper} {rest : List Oper} {o : Oper} {a : Act} {Q : Exit → Act → World → Prop} (hgd : o.guard = none) (ty : TypeId) (x y : Operand) (ho : o.op = .store ty x y)
    (g j : Nat) (v : Value) (cs : List Value) (hx : a.eval x = .pointer (some ⟨g, j, none⟩)) (hy : a.eval y = v) (hv : v.cells = cs.toArray) (olds : List Value) (hb : Blk w g olds) (hl : j + cs.length ≤ olds.length)
    (hi : (P.info? ty).map (·.size) = some cs.length) (h1' : cs.all (fun v => v.oneCell') = true) (news : List Value) (hn : olds.take j ++ cs ++ olds.drop (j + cs.length) = news)
    (h : ∀ w', Blk w' g news → w.grownBy w' (some g) → w'.heap.size = w.heap.size → wpList P ops Q rest (a.put o.dst undef) w') : wpList P ops Q (o :: rest) a w := by
  obtain ⟨t, hg⟩ := hb
  have h1 : ∀ v ∈ cs, v.oneCell' = true := fun v hv => List.all_eq_true.1 h1' v hv
  have hst := run_storeCells_at P g j t cs 0 olds.toArray w hg (by simpa using hl) h1
  simp only [Nat.add_zero] at hst
  rw [hn] at hst
  refine wpList_plain hgd fun K hK => ?_
  have hrun : (storeVar ty ⟨g, j, none⟩ v).run P w = .ok () (w.setRow g news.toArray) := by
    cases hq : P.info? ty with
    | none => simp [hq] at hi
    | some i =>
      have hs : cs.length = i.size := by simp [hq] at hi; omega
      simp [storeVar, Go.sizeOf, typeInfo, hq, hv, hs, hst]
  unfold Oper.wp execOp
  simp only [ho, hx, hy, Instr.storeAt, Instr.sureAddr, Sem.run_bind, Sem.run_pure, Result.andThen_ok, hrun]
  exact hK _ _ (h _ ⟨t, setRow_heap w g _ _ t _ hg⟩ ⟨rfl, rfl, rfl, by simp, fun k _ hk => setRow_other w g k _ (fun e => hk (by rw [e]))⟩ (by simp))

/-- The same, as a step of a region. -/
theorem step_store_part {P : Program} {w : World} {ops : Array Oper} {o : Oper} {a : Act} {K : Act → World → Prop} {Q : Exit → Act → World → Prop} {E : Prop} (hgd : o.guard = none) (hd : o.dst = none) (ty : TypeId) (x y : Operand) (ho : o.op = .store ty x y)
    (g j : Nat) (v : Value) (cs : List Value) (hx : a.eval x = .pointer (some ⟨g, j, none⟩)) (hy : a.eval y = v) (hv : v.cells = cs.toArray) (olds : List Value) (hb : Blk w g olds) (hl : j + cs.length ≤ olds.length)
    (hi : (P.info? ty).map (·.size) = some cs.length) (h1' : cs.all (fun v => v.oneCell') = true) (news : List Value) (hn : olds.take j ++ cs ++ olds.drop (j + cs.length) = news)
    (h : ∀ w', Blk w' g news → w.grownBy w' (some g) → w'.heap.size = w.heap.size → K (a.put none undef) w') :
    if Region.wanted o (yielded ops a.tmps) = true then Oper.wp P o a w K Q else E := by
  have hw : Region.wanted o (yielded ops a.tmps) = true := by simp [Region.wanted, hgd]
  rw [if_pos hw]
  obtain ⟨t, hg⟩ := hb
  have h1 : ∀ v ∈ cs, v.oneCell' = true := fun v hv => List.all_eq_true.1 h1' v hv
  have hst := run_storeCells_at P g j t cs 0 olds.toArray w hg (by simpa using hl) h1
  simp only [Nat.add_zero] at hst
  rw [hn] at hst
  have hrun : (storeVar ty ⟨g, j, none⟩ v).run P w = .ok () (w.setRow g news.toArray) := by
    cases hq : P.info? ty with
    | none => simp [hq] at hi
    | some i =>
      have hs : cs.length = i.size := by simp [hq] at hi; omega
      simp [storeVar, Go.sizeOf, typeInfo, hq, hv, hs, hst]
  unfold Oper.wp execOp
  simp only [ho, hx, hy, Instr.storeAt, Instr.sureAddr, Sem.run_bind, Sem.run_pure, Result.andThen_ok, hrun]
  show K (a.put o.dst undef) _
  rw [hd]
  exact h _ ⟨t, setRow_heap w g _ _ t _ hg⟩ ⟨rfl, rfl, rfl, by simp, fun k _ hk => setRow_other w g k _ (fun e => hk (by rw [e]))⟩ (by simp)

/-- What a region keeps that may write one block of the call's own. -/
abbrev Sto (w1 : World) (g n : Nat) (w : World) : Prop :=
  (∀ p : Addr, p.block ≠ g → (w1.cell? p).isSome = true → w.cell? p = w1.cell? p) ∧ w1.grownBy w (some g) ∧ ∃ cs, Blk w g cs ∧ cs.length = n
theorem Sto.of {w1 w : World} {g n : Nat} {cs : List Value} (hg : w1.grownBy w (some g)) (hb : Blk w g cs) (hn : cs.length = n) : Sto w1 g n w :=
  ⟨fun p hp hs => by
    obtain ⟨u, hu⟩ := Option.isSome_iff_exists.1 hs
    exact World.cell?_of_block (hg.block p.block (World.block_lt_of_cell? _ p hu) (fun e => hp (by injection e))), hg, cs, hb, hn⟩
theorem grown_self (w : World) (r : Option Nat) : w.grownBy w.drew r := ⟨rfl, rfl, rfl, Nat.le_refl _, fun _ _ _ => rfl⟩
theorem Sto.start {w1 : World} {g n : Nat} {cs : List Value} (hb : Blk w1 g cs) (hn : cs.length = n) : Sto w1 g n w1.drew := Sto.of (w := w1.drew) (grown_self w1 _) hb hn
theorem Sto.store {w1 w w' : World} {g n : Nat} {cs : List Value} (h : Sto w1 g n w) (hg : w.grownBy w' (some g)) (hb : Blk w' g cs) (hn : cs.length = n) : Sto w1 g n w' :=
  Sto.of ⟨hg.os.trans h.2.1.os, hg.tape.trans h.2.1.tape, hg.output.trans h.2.1.output, Nat.le_trans h.2.1.size hg.size, fun k hk hne => (hg.block k (Nat.lt_of_lt_of_le hk h.2.1.size) hne).trans (h.2.1.block k hk hne)⟩ hb hn
end Go.Gz

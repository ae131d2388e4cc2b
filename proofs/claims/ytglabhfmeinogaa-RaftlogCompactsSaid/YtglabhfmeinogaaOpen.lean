/- The arguments opened: lists of numbers, configurations, snapshots that are read before the call. -/
import Derived.Test.YtglabhfmeinogaaConf
import Derived.Test.YtglabhfmeinogaaSame
import Derived.SizedLaws
import Derived.ShutString
import Derived.ChangeOld
namespace Go.Gz
open Go.RowKit Go.ChangeShapes Go.WideShapes

section
variable {H : Type} {enc : TypeId × Value → H} {P : Program} {w : World} {base : Nat} {held : Bool}
/-- A slice of numbers that was read, spare room and all. -/
theorem open_nums {t e : TypeId} {k : IntKind} {fuel : Nat} {cs : List Value} {x : DataW H × List MemPlace} (ht : P.underlying t = some (.slice e)) (he : P.underlying e = some (.int k)) (hc : P.cellsOf e = 1)
    (h : DataW.trod enc P w base (fun _ => true) held fuel t cs = some x) (hz : ∀ n ∈ x.1.weights P t, n ≤ reachBytes) :
    ∃ (A : Option Addr) (n c : Nat) (l : List Int), cs = [.slice A n c] ∧ n ≤ c ∧ c * P.bytesOf e ≤ reachBytes ∧ SlA w 1 A n (nums k l) ∧ (∀ v ∈ l, (Lit.int k v).wf = true) ∧ l.length = n := by
  rcases open_ints ht he hc h with ⟨rfl, _⟩ | ⟨a, len, cap, zs, rfl, _, hl, hm, hlen, hx, hcell, hwf⟩
  · exact ⟨none, 0, 0, [], rfl, Nat.le_refl _, by simp, ⟨by simp [nums], fun _ => rfl, fun ad e => (by cases e)⟩, by simp, rfl⟩
  · simp only [if_true] at hlen
    have hw : cap * P.bytesOf e ≤ reachBytes := by
      have := hz ((zs.take len).length * P.bytesOf e + (zs.drop len).length * P.bytesOf e) (by
        rw [hx]
        simp [DataW.weights, ht, lits, Nat.add_mul])
      rw [← Nat.add_mul, ← List.length_append, List.take_append_drop, hlen] at this
      exact this
    refine ⟨some a, len, cap, zs.take len, rfl, hl, hw, ⟨by simp [nums]; omega, fun e => (by cases e), fun ad e j u hu => ?_⟩, fun v hv => hwf v (List.mem_of_mem_take hv), by simp; omega⟩
    injection e with e
    subst e
    have hj : j < (nums k (zs.take len)).length := (List.getElem?_eq_some_iff.1 hu).1
    simp [nums] at hj
    rw [hcell j (by omega), ← hu]
    have hj2 : j < zs.length := by omega
    have hj3 : j < len := by omega
    simp [nums, hj2, hj3]

/-- The weights of a struct's fields are among its own. -/
theorem weights_field {t : TypeId} {fs : Array Field} (ht : P.underlying t = some (.struct fs)) {xs : List (DataW H × List MemPlace)} {i : Nat} {f : Field} {y : DataW H × List MemPlace} (hf : fs[i]? = some f) (hy : xs[i]? = some y)
    {B : Nat} (hz : ∀ n ∈ (DataW.agg (xs.map (·.1))).weights P t, n ≤ B) : ∀ n ∈ y.1.weights P f.type, n ≤ B := by
  intro n hn
  refine hz n ?_
  simp only [DataW.weights, ht]
  exact DataW.weights_mem_each (j := i) (t := f.type) (d := y.1) (by simp [hf]) (by simp [hy]) n hn
end
end Go.Gz

namespace Go.Proofs.Ytglabhfmeinogaa
open Go.RowKit Go.Gz Go.ChangeShapes Go.WideShapes
theorem cellsInt : Try.prog.cellsOf 3 = 1 := by kernel_rfl
theorem cellsU8 : Try.prog.cellsOf 5 = 1 := by kernel_rfl
theorem cellsU64 : Try.prog.cellsOf 22 = 1 := by kernel_rfl
theorem cellsInts : Try.prog.cellsOf 23 = 1 := by kernel_rfl
theorem cellsBytes : Try.prog.cellsOf 26 = 1 := by kernel_rfl
theorem cellsConf : Try.prog.cellsOf 25 = 2 := by kernel_rfl
theorem cellsSnap : Try.prog.cellsOf 28 = 5 := by kernel_rfl
theorem bytesInt : Try.prog.bytesOf 3 = 8 := by kernel_rfl
theorem bytesU8 : Try.prog.bytesOf 5 = 1 := by kernel_rfl

section
variable {H : Type} {enc : TypeId × Value → H} {w : World} {base : Nat} {held : Bool}
theorem open_conf {fuel : Nat} {cs : List Value} {x : DataW H × List MemPlace} (h : DataW.trod enc Try.prog w base (fun _ => true) held fuel 25 cs = some x) (hz : ∀ n ∈ x.1.weights Try.prog 25, n ≤ reachBytes) :
    ∃ (A : Option Addr) (n c : Nat) (l : List Int) (B : Option Addr) (m d : Nat) (k : List Int), cs = [.slice A n c, .slice B m d] ∧ IsConf w A B n m l k ∧ n ≤ c ∧ c * 8 ≤ reachBytes ∧ m ≤ d ∧ d * 8 ≤ reachBytes := by
  obtain ⟨xs, n0, _, rfl, hcl, hxl, hf⟩ := DataW.trod_struct Try.underlying25 h
  rw [cellsConf] at hcl
  match cs, hcl with
  | [v0, v1], _ =>
    match xs, hxl with
    | [y0, y1], _ =>
      have f0 := hf 0 _ rfl
      have f1 := hf 1 _ rfl
      simp [cellsInts] at f0 f1
      obtain ⟨A, n, c, l, e0, hn, hc, hs, _, _⟩ := open_nums Try.underlying23 Try.underlying3 cellsInt f0 (weights_field Try.underlying25 (i := 0) rfl rfl hz)
      obtain ⟨B, m, d, k, e1, hm, hd, hs', _, _⟩ := open_nums Try.underlying23 Try.underlying3 cellsInt f1 (weights_field Try.underlying25 (i := 1) rfl rfl hz)
      simp only [List.cons.injEq, and_true] at e0 e1
      subst e0 e1
      rw [bytesInt] at hc hd
      exact ⟨A, n, c, l, B, m, d, k, rfl, ⟨hs, hs'⟩, hn, hc, hm, hd⟩

theorem open_snap {fuel : Nat} {cs : List Value} {x : DataW H × List MemPlace} (h : DataW.trod enc Try.prog w base (fun _ => true) held fuel 28 cs = some x) (hz : ∀ n ∈ x.1.weights Try.prog 28, n ≤ reachBytes) :
    ∃ (i t : Int) (A : Option Addr) (n c : Nat) (l : List Int) (B : Option Addr) (m d : Nat) (k : List Int) (D : Option Addr) (p f : Nat) (z : List Int), cs = [.int .u64 i, .int .u64 t, .slice A n c, .slice B m d, .slice D p f] ∧
      IsSnap w A B D n m p l k z ∧ n ≤ c ∧ c * 8 ≤ reachBytes ∧ m ≤ d ∧ d * 8 ≤ reachBytes ∧ p ≤ f ∧ f ≤ reachBytes ∧ (Lit.int .u64 i).wf = true ∧ (Lit.int .u64 t).wf = true := by
  obtain ⟨xs, n0, _, rfl, hcl, hxl, hf⟩ := DataW.trod_struct Try.underlying28 h
  rw [cellsSnap] at hcl
  match cs, hcl with
  | [v0, v1, v2, v3, v4], _ =>
    match xs, hxl with
    | [y0, y1, y2, y3], _ =>
      have f0 := hf 0 _ rfl
      have f1 := hf 1 _ rfl
      have f2 := hf 2 _ rfl
      have f3 := hf 3 _ rfl
      simp [cellsU64, cellsConf, cellsBytes] at f0 f1 f2 f3
      obtain ⟨i, e0, _, wi⟩ := DataW.trod_int Try.underlying22 f0
      obtain ⟨t, e1, _, wt⟩ := DataW.trod_int Try.underlying22 f1
      obtain ⟨A, n, c, l, B, m, d, k, e2, hc, hn, hcc, hm, hdd⟩ := open_conf f2 (weights_field Try.underlying28 (i := 2) rfl rfl hz)
      obtain ⟨D, p, f, z, e3, hp, hff, hs, _, _⟩ := open_nums Try.underlying26 Try.underlying5 cellsU8 f3 (weights_field Try.underlying28 (i := 3) rfl rfl hz)
      simp only [List.cons.injEq, and_true] at e0 e1 e2 e3
      obtain ⟨rfl, rfl⟩ := e2
      subst e0 e1 e3
      rw [bytesU8, Nat.mul_one] at hff
      exact ⟨i, t, A, n, c, l, B, m, d, k, D, p, f, z, rfl, ⟨hc, hs⟩, hn, hcc, hm, hdd, hp, hff, wi, wt⟩
end
end Go.Proofs.Ytglabhfmeinogaa

/- The arguments of layer 3 opened: numbers and bytes that are read before the call. -/
import Derived.Test.YtjihiohmemmabaaMany
import Derived.Test.YtjihiohmemmabaaNMap
namespace Go.Gz
open Go.RowKit Go.ChangeShapes Go.WideShapes

section
variable {H : Type} {enc : TypeId × Value → H} {P : Program} {w : World} {base : Nat} {held : Bool}
/-- A slice of numbers that was read, spare room and all. -/
theorem open_nums {t e : TypeId} {k : IntKind} {fuel : Nat} {cs : List Value} {x : DataW H × List MemPlace} (ht : P.underlying t = some (.slice e)) (he : P.underlying e = some (.int k)) (hc : P.cellsOf e = 1)
    (h : DataW.trod enc P w base (fun _ => true) held fuel t cs = some x) (hz : ∀ n ∈ x.1.weights P t, n ≤ reachBytes) :
    ∃ (A : Option Addr) (n c : Nat) (l : List Int), cs = [.slice A n c] ∧ n ≤ c ∧ c * P.bytesOf e ≤ reachBytes ∧ SlA w 1 A n (nums k l) ∧ (∀ v ∈ l, (Lit.int k v).wf = true) ∧ l.length = n := by
  rcases open_ints ht he hc h with ⟨rfl, _⟩ | ⟨a, len, cap, zs, rfl, _, hl, hm, hlen, hx, hcell, hwf⟩
  · exact ⟨none, 0, 0, [], rfl, Nat.le_refl _, by simp, ⟨by simp [nums], fun _ => rfl, fun ad e => (by cases e)⟩, by simp, rfl⟩
  · simp only [if_true] at hlen
    have hw : cap * P.bytesOf e ≤ reachBytes := by
      have := hz ((zs.take len).length * P.bytesOf e + (zs.drop len).length * P.bytesOf e) (by
        rw [hx]
        simp [DataW.weights, ht, lits, Nat.add_mul])
      rw [← Nat.add_mul, ← List.length_append, List.take_append_drop, hlen] at this
      exact this
    refine ⟨some a, len, cap, zs.take len, rfl, hl, hw, ⟨by simp [nums]; omega, fun e => (by cases e), fun ad e j u hu => ?_⟩, fun v hv => hwf v (List.mem_of_mem_take hv), by simp; omega⟩
    injection e with e
    subst e
    have hj : j < (nums k (zs.take len)).length := (List.getElem?_eq_some_iff.1 hu).1
    simp [nums] at hj
    rw [hcell j (by omega), ← hu]
    have hj2 : j < zs.length := by omega
    have hj3 : j < len := by omega
    simp [nums, hj2, hj3]

/-- The weights of a struct's fields are among its own. -/
theorem weights_field {t : TypeId} {fs : Array Field} (ht : P.underlying t = some (.struct fs)) {xs : List (DataW H × List MemPlace)} {i : Nat} {f : Field} {y : DataW H × List MemPlace} (hf : fs[i]? = some f) (hy : xs[i]? = some y)
    {B : Nat} (hz : ∀ n ∈ (DataW.agg (xs.map (·.1))).weights P t, n ≤ B) : ∀ n ∈ y.1.weights P f.type, n ≤ B := by
  intro n hn
  refine hz n ?_
  simp only [DataW.weights, ht]
  exact DataW.weights_mem_each (j := i) (t := f.type) (d := y.1) (by simp [hf]) (by simp [hy]) n hn
end
end Go.Gz

namespace Go.Proofs.Ytjihiohmemmabaa
open Go.RowKit Go.Gz Go.ChangeShapes Go.WideShapes
theorem ownKn : ownKnob Try.prog.godebug = none := by kernel_rfl
theorem cellsInt : Try.prog.cellsOf 3 = 1 := by kernel_rfl
theorem cellsU8 : Try.prog.cellsOf 5 = 1 := by kernel_rfl
theorem bytesInt : Try.prog.bytesOf 3 = 8 := by kernel_rfl
theorem bytesU8 : Try.prog.bytesOf 5 = 1 := by kernel_rfl
end Go.Proofs.Ytjihiohmemmabaa

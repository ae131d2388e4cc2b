/- A slice that came in, of elements of any type that is read cell by cell: opened as a list. -/
import Derived.Test.YtjihiohmemmabaaBase
import Derived.SizedLaws
import Derived.ShutString
import Derived.ChangeOld
namespace Go.Gz
open Go.RowKit Go.ChangeShapes Go.WideShapes

theorem flat_get {α : Type} (val : α → List Value) (k : Nat) : ∀ (l : List α), (∀ y ∈ l, (val y).length = k) → ∀ (i : Nat) (u : Value), (l.flatMap val)[i]? = some u → ∃ (j r : Nat) (hj : j < l.length), i = j * k + r ∧ r < k ∧ (val (l[j]))[r]? = some u
  | [], _, i, u, h => by simp at h
  | y :: l, hk, i, u, h => by
    have hy := hk y (by simp)
    rw [List.flatMap_cons] at h
    by_cases hi : i < k
    · rw [List.getElem?_append_left (by omega)] at h
      exact ⟨0, i, by simp, by omega, hi, by simpa using h⟩
    · rw [List.getElem?_append_right (by omega), hy] at h
      obtain ⟨j, r, hj, e, hr, hu⟩ := flat_get val k l (fun y hy => hk y (by simp [hy])) (i - k) u h
      refine ⟨j + 1, r, by simpa using hj, ?_, hr, by simpa using hu⟩
      rw [Nat.succ_mul]; omega
theorem flat_at {α : Type} (val : α → List Value) (k : Nat) : ∀ (l : List α), (∀ y ∈ l, (val y).length = k) → ∀ (j r : Nat) (hj : j < l.length), r < k → (l.flatMap val)[j * k + r]? = (val (l[j]))[r]?
  | y :: l, hk, 0, r, hj, hr => by
    have hy := hk y (by simp)
    rw [List.flatMap_cons, List.getElem?_append_left (by omega)]
    simp
  | y :: l, hk, j + 1, r, hj, hr => by
    have hy := hk y (by simp)
    rw [List.flatMap_cons, List.getElem?_append_right (by rw [Nat.succ_mul]; omega), hy, show (j + 1) * k + r - k = j * k + r by rw [Nat.succ_mul]; omega]
    have := flat_at val k l (fun y hy => hk y (by simp [hy])) j r (by simpa using hj) hr
    simpa using this
theorem flat_len {α : Type} (val : α → List Value) (k : Nat) : ∀ (l : List α), (∀ y ∈ l, (val y).length = k) → (l.flatMap val).length = l.length * k
  | [], _ => by simp
  | y :: l, hk => by
    rw [List.flatMap_cons, List.length_append, hk y (by simp), flat_len val k l (fun y hy => hk y (by simp [hy])), List.length_cons, Nat.succ_mul]; omega
theorem weights_all {H : Type} {P : Program} {e : TypeId} : ∀ (l : List (DataW H)) (d : DataW H), d ∈ l → ∀ n ∈ d.weights P e, n ∈ DataW.weightsAll P e l
  | x :: l, d, hd, n, hn => by
    unfold DataW.weightsAll
    rcases List.mem_cons.1 hd with rfl | hd
    · exact List.mem_append_left _ hn
    · exact List.mem_append_right _ (weights_all l d hd n hn)

section
variable {H : Type} {enc : TypeId × Value → H} {P : Program} {w : World} {base : Nat} {held : Bool}
theorem open_list {α : Type} {t e : TypeId} {fuel : Nat} {cs : List Value} {x : DataW H × List MemPlace} (k : Nat) (val : α → List Value) (good : α → Prop) (ht : P.underlying t = some (.slice e)) (hc : P.cellsOf e = k)
    (leaf : ∀ (fuel : Nat) (cs : List Value) (x : DataW H × List MemPlace), DataW.trod enc P w base (fun _ => true) held fuel e cs = some x → (∀ n ∈ x.1.weights P e, n ≤ reachBytes) → ∃ y, cs = val y ∧ good y)
    (h : DataW.trod enc P w base (fun _ => true) held fuel t cs = some x) (hz : ∀ n ∈ x.1.weights P t, n ≤ reachBytes) :
    ∃ (A : Option Addr) (n c : Nat) (l : List α), cs = [.slice A n c] ∧ n ≤ c ∧ c * P.bytesOf e ≤ reachBytes ∧ l.length = n ∧ SlA w k A n (l.flatMap val) ∧ (∀ y ∈ l, (val y).length = k) ∧ ∀ y ∈ l, good y := by
  rcases DataW.trod_slice ht h with ⟨rfl, _⟩ | ⟨a, len, cap, elems, rest, n0, rfl, rfl, hx, _, hl, hm, hlen, hel, hsp, _⟩
  · exact ⟨none, 0, 0, [], rfl, Nat.le_refl _, by simp, rfl, ⟨by simp, fun _ => rfl, fun ad e => (by cases e)⟩, by simp, by simp⟩
  · have hrest := (hsp rfl).1
    have hw : cap * P.bytesOf e ≤ reachBytes := by
      have := hz ((elems.length + rest.length) * P.bytesOf e) (by rw [hx]; simp [DataW.weights, ht])
      rw [hlen, hrest, show len + (cap - len) = cap by omega] at this
      exact this
    have hall : ∀ i : Fin len, ∃ y : α, (∀ r, r < k → w.cell? (a.add (i.val * k + r)) = (val y)[r]?) ∧ (val y).length = k ∧ good y := by
      intro i
      have hi := i.isLt
      have hxi : elems[i.val]? = some (elems[i.val]'(by omega)) := List.getElem?_eq_getElem (by omega)
      have h1 := hel i.val hi
      rw [hxi, hc, Option.bind_eq_some_iff] at h1
      obtain ⟨cs', hcells, hd⟩ := h1
      obtain ⟨_, hl', hcell⟩ := World.cells?_some hcells
      obtain ⟨y, rfl, hg⟩ := leaf _ _ _ hd (fun m hm' => hz m (by
        rw [hx]
        simp only [DataW.weights, ht]
        refine List.mem_cons_of_mem _ (List.mem_append_left _ (weights_all _ _ ?_ m hm'))
        exact List.mem_map_of_mem (List.getElem_mem (by omega))))
      exact ⟨y, fun r hr => by rw [← Addr.add_add]; exact hcell r hr, hl', hg⟩
    let f : Fin len → α := fun i => Classical.choose (hall i)
    have hf : ∀ i : Fin len, (∀ r, r < k → w.cell? (a.add (i.val * k + r)) = (val (f i))[r]?) ∧ (val (f i)).length = k ∧ good (f i) := fun i => Classical.choose_spec (hall i)
    have hvl : ∀ y ∈ List.ofFn f, (val y).length = k := fun y hy => by
      obtain ⟨i, rfl⟩ := List.mem_ofFn.1 hy
      exact (hf i).2.1
    refine ⟨some a, len, cap, List.ofFn f, rfl, hl, hw, by simp, ⟨?_, fun e => (by cases e), fun ad e' j u hu => ?_⟩, hvl, fun y hy => ?_⟩
    · rw [flat_len val k _ hvl]; simp
    · injection e' with e'
      subst e'
      obtain ⟨j', r, hj, rfl, hr, hu⟩ := flat_get val k _ hvl j u hu
      simp at hj
      rw [(hf ⟨j', hj⟩).1 r hr, ← hu]
      simp
    · obtain ⟨i, rfl⟩ := List.mem_ofFn.1 hy
      exact (hf i).2.2
theorem open_listR {α : Type} {t e : TypeId} {fuel : Nat} {cs : List Value} {x : DataW H × List MemPlace} (k : Nat) (val : α → List Value) (good : α → Prop) (R : DataW H → Prop) (ht : P.underlying t = some (.slice e)) (hc : P.cellsOf e = k)
    (leaf : ∀ (fuel : Nat) (cs : List Value) (x : DataW H × List MemPlace), DataW.trod enc P w base (fun _ => true) held fuel e cs = some x → R x.1 → ∃ y, cs = val y ∧ good y)
    (h : DataW.trod enc P w base (fun _ => true) held fuel t cs = some x) (hz : ∀ n ∈ x.1.weights P t, n ≤ reachBytes) (hR : ∀ elems spare, x.1 = .slice elems spare → ∀ d ∈ elems, R d) :
    ∃ (A : Option Addr) (n c : Nat) (l : List α), cs = [.slice A n c] ∧ n ≤ c ∧ c * P.bytesOf e ≤ reachBytes ∧ l.length = n ∧ SlA w k A n (l.flatMap val) ∧ (∀ y ∈ l, (val y).length = k) ∧ ∀ y ∈ l, good y := by
  rcases DataW.trod_slice ht h with ⟨rfl, _⟩ | ⟨a, len, cap, elems, rest, n0, rfl, rfl, hx, _, hl, hm, hlen, hel, hsp, _⟩
  · exact ⟨none, 0, 0, [], rfl, Nat.le_refl _, by simp, rfl, ⟨by simp, fun _ => rfl, fun ad e => (by cases e)⟩, by simp, by simp⟩
  · have hrest := (hsp rfl).1
    have hw : cap * P.bytesOf e ≤ reachBytes := by
      have := hz ((elems.length + rest.length) * P.bytesOf e) (by rw [hx]; simp [DataW.weights, ht])
      rw [hlen, hrest, show len + (cap - len) = cap by omega] at this
      exact this
    have hall : ∀ i : Fin len, ∃ y : α, (∀ r, r < k → w.cell? (a.add (i.val * k + r)) = (val y)[r]?) ∧ (val y).length = k ∧ good y := by
      intro i
      have hi := i.isLt
      have hxi : elems[i.val]? = some (elems[i.val]'(by omega)) := List.getElem?_eq_getElem (by omega)
      have h1 := hel i.val hi
      rw [hxi, hc, Option.bind_eq_some_iff] at h1
      obtain ⟨cs', hcells, hd⟩ := h1
      obtain ⟨_, hl', hcell⟩ := World.cells?_some hcells
      obtain ⟨y, rfl, hg⟩ := leaf _ _ _ hd (hR _ _ (by rw [hx]) _ (List.mem_map_of_mem (List.getElem_mem (by omega))))
      exact ⟨y, fun r hr => by rw [← Addr.add_add]; exact hcell r hr, hl', hg⟩
    let f : Fin len → α := fun i => Classical.choose (hall i)
    have hf : ∀ i : Fin len, (∀ r, r < k → w.cell? (a.add (i.val * k + r)) = (val (f i))[r]?) ∧ (val (f i)).length = k ∧ good (f i) := fun i => Classical.choose_spec (hall i)
    have hvl : ∀ y ∈ List.ofFn f, (val y).length = k := fun y hy => by
      obtain ⟨i, rfl⟩ := List.mem_ofFn.1 hy
      exact (hf i).2.1
    refine ⟨some a, len, cap, List.ofFn f, rfl, hl, hw, by simp, ⟨?_, fun e => (by cases e), fun ad e' j u hu => ?_⟩, hvl, fun y hy => ?_⟩
    · rw [flat_len val k _ hvl]; simp
    · injection e' with e'
      subst e'
      obtain ⟨j', r, hj, rfl, hr, hu⟩ := flat_get val k _ hvl j u hu
      simp at hj
      rw [(hf ⟨j', hj⟩).1 r hr, ← hu]
      simp
    · obtain ⟨i, rfl⟩ := List.mem_ofFn.1 hy
      exact (hf i).2.2
end
end Go.Gz

/- The arguments of layer 13 opened: ranges, lists of strings. -/
import Derived.Test.YtbpmpnifelbaaaaKFn
import Derived.Test.YtbpmpnifelbaaaaKWhole
import Derived.Test.YtbpmpnifelbaaaaMany
import Derived.SliceStrings
import Derived.SizedLaws
import Derived.ShutString
import Derived.ChangeOld
namespace Go.Gz
open Go.RowKit Go.ChangeShapes Go.WideShapes

/-- Strings, as cells. -/
def kstrs (l : List ByteArray) : List Value := l.map Value.string
theorem kstrs_get {l : List ByteArray} {j : Nat} (h : j < l.length) : (kstrs l)[j]? = some (.string (l.getD j ⟨#[]⟩)) := by simp [kstrs, h]
theorem SlA.str {w : World} {n : Nat} {ad : Addr} {l : List ByteArray} (h : SlA w 1 (some ad) n (kstrs l)) {j : Nat} (hj : j < l.length) : w.cell? (ad.add j) = some (.string (l.getD j ⟨#[]⟩)) :=
  h.2.2 ad rfl j _ (kstrs_get hj)
theorem SlA.slen {w : World} {n : Nat} {A : Option Addr} {l : List ByteArray} (h : SlA w 1 A n (kstrs l)) : l.length = n := by have := h.1; simpa [kstrs] using this

section
variable {H : Type} {enc : TypeId × Value → H} {P : Program} {w : World} {base : Nat} {held : Bool}
/-- A slice of strings that was read, spare room and all. -/
theorem open_kstrs {t e : TypeId} {fuel : Nat} {cs : List Value} {x : DataW H × List MemPlace} (ht : P.underlying t = some (.slice e)) (he : P.underlying e = some .string) (hc : P.cellsOf e = 1)
    (h : DataW.trod enc P w base (fun _ => true) held fuel t cs = some x) (hz : ∀ n ∈ x.1.weights P t, n ≤ reachBytes) :
    ∃ (A : Option Addr) (n c : Nat) (l : List ByteArray), cs = [.slice A n c] ∧ n ≤ c ∧ c * P.bytesOf e ≤ reachBytes ∧ SlA w 1 A n (kstrs l) ∧ l.length = n ∧ ∀ s ∈ l, s.size ≤ maxLen := by
  rcases open_strings ht he hc h with ⟨rfl, _⟩ | ⟨a, len, cap, ss, rfl, _, hl, hm, hlen, hx, hcell, hsz⟩
  · exact ⟨none, 0, 0, [], rfl, Nat.le_refl _, by simp, ⟨by simp [kstrs], fun _ => rfl, fun ad e => (by cases e)⟩, rfl, by simp⟩
  · simp only [if_true] at hlen
    have hw : cap * P.bytesOf e ≤ reachBytes := by
      have := hz ((ss.take len).length * P.bytesOf e + (ss.drop len).length * P.bytesOf e) (by
        rw [hx]
        simp [DataW.weights, ht, strs, Nat.add_mul])
      rw [← Nat.add_mul, ← List.length_append, List.take_append_drop, hlen] at this
      exact this
    refine ⟨some a, len, cap, ss.take len, rfl, hl, hw, ⟨by simp [kstrs]; omega, fun e => (by cases e), fun ad e j u hu => ?_⟩, by simp; omega, fun s hs => hsz s (List.mem_of_mem_take hs)⟩
    injection e with e
    subst e
    have hj : j < (kstrs (ss.take len)).length := (List.getElem?_eq_some_iff.1 hu).1
    simp [kstrs] at hj
    rw [hcell j (by omega), ← hu]
    have hj2 : j < ss.length := by omega
    have hj3 : j < len := by omega
    simp [kstrs, hj2, hj3]
end
end Go.Gz

namespace Go.Proofs.Ytbpmpnifelbaaaa
open Go.RowKit Go.Gz Go.ChangeShapes Go.WideShapes
theorem bytesStr : Try.prog.bytesOf 9 = 16 := by kernel_rfl
theorem cellsStr : Try.prog.cellsOf 9 = 1 := by kernel_rfl
theorem ownKn : ownKnob Try.prog.godebug = none := by kernel_rfl
theorem laidOk : laidOutB Try.prog = true := by kernel_rfl
theorem cellsRange : Try.prog.cellsOf 23 = 2 := by kernel_rfl

section
variable {H : Type} {enc : TypeId × Value → H} {w : World} {base : Nat} {held : Bool} {sp : Nat → Bool}
theorem open_range {fuel : Nat} {cs : List Value} {x : DataW H × List MemPlace} (h : DataW.trod enc Try.prog w base sp held fuel 23 cs = some x) :
    ∃ lo hi : ByteArray, cs = [.string lo, .string hi] ∧ lo.size ≤ maxLen ∧ hi.size ≤ maxLen := by
  obtain ⟨xs, n0, _, rfl, hcl, hxl, hf⟩ := DataW.trod_struct Try.underlying23 h
  rw [cellsRange] at hcl
  match cs, hcl with
  | [v0, v1], _ =>
    match xs, hxl with
    | [y0, y1], _ =>
      have f0 := hf 0 _ rfl
      have f1 := hf 1 _ rfl
      simp [cellsStr] at f0 f1
      obtain ⟨lo, e0, _, h0⟩ := DataW.trod_string Try.underlying9 f0
      obtain ⟨hi, e1, _, h1⟩ := DataW.trod_string Try.underlying9 f1
      simp only [List.cons.injEq, and_true] at e0 e1
      subst e0 e1
      exact ⟨lo, hi, rfl, h0, h1⟩
theorem bytesRange : Try.prog.bytesOf 23 = 32 := by kernel_rfl
theorem open_ranges {fuel : Nat} {cs : List Value} {x : DataW H × List MemPlace} (h : DataW.trod enc Try.prog w base (fun _ => true) held fuel 38 cs = some x) (hz : ∀ n ∈ x.1.weights Try.prog 38, n ≤ reachBytes) :
    ∃ (A : Option Addr) (n c : Nat) (l : List (ByteArray × ByteArray)), cs = [.slice A n c] ∧ n ≤ c ∧ c * 32 ≤ reachBytes ∧ l.length = n ∧ SlA w 2 A n (rcells l) := by
  obtain ⟨A, n, c, l, h1, h2, h3, h4, h5, _⟩ := open_list 2 (fun r : ByteArray × ByteArray => [.string r.1, .string r.2]) (fun _ => True) Try.underlying38 cellsRange
    (fun fuel cs x h _ => by obtain ⟨lo, hi, e, _⟩ := open_range h; exact ⟨(lo, hi), e, trivial⟩) h hz
  rw [bytesRange] at h3
  exact ⟨A, n, c, l, h1, h2, h3, h4, h5⟩
end
end Go.Proofs.Ytbpmpnifelbaaaa

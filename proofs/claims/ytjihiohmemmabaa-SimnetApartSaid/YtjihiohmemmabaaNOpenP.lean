/- Calls that are read before the call, opened: with the sharper bound on their bytes. -/
import Derived.Test.YtjihiohmemmabaaNOpenO
namespace Go.Proofs.Ytjihiohmemmabaa
open Go.RowKit Go.Gz Go.ChangeShapes Go.WideShapes
section
variable {H : Type} {enc : TypeId × Value → H} {w : World} {base : Nat} {held : Bool}
theorem open_opP {fuel : Nat} {cs : List Value} {x : DataW H × List MemPlace} (h : DataW.trod enc Try.prog w base (fun _ => true) held fuel 42 cs = some x) (hz : ∀ n ∈ x.1.weights Try.prog 42, n ≤ reachBytes) : ∃ y : OpV, IsO w cs y ∧ GoodO y ∧ y.2.2.2.2.2.1.length ≤ 140737488351232 := by
  obtain ⟨xs, n0, _, rfl, hcl, hxl, hf⟩ := DataW.trod_struct Try.underlying42 h
  rw [cellsOp] at hcl
  match cs, hcl with
  | [v0, v1, v2, v3, v4, v5, v6], _ =>
    match xs, hxl with
    | [y0, y1, y2, y3, y4, y5, y6], _ =>
      have f0 := hf 0 _ rfl
      have f1 := hf 1 _ rfl
      have f2 := hf 2 _ rfl
      have f3 := hf 3 _ rfl
      have f4 := hf 4 _ rfl
      have f5 := hf 5 _ rfl
      have f6 := hf 6 _ rfl
      simp [cellsInt, cellsBytes, cellsInts] at f0 f1 f2 f3 f4 f5 f6
      obtain ⟨i0, e0, _, w0⟩ := DataW.trod_int Try.underlying3 f0
      obtain ⟨i1, e1, _, w1⟩ := DataW.trod_int Try.underlying3 f1
      obtain ⟨i2, e2, _, w2⟩ := DataW.trod_int Try.underlying3 f2
      obtain ⟨i3, e3, _, w3⟩ := DataW.trod_int Try.underlying3 f3
      obtain ⟨i4, e4, _, w4⟩ := DataW.trod_int Try.underlying3 f4
      obtain ⟨D, p, f, z, e5, hp, hff, hs, hw, hl⟩ := open_nums Try.underlying22 Try.underlying5 cellsU8 f5 (weights_field Try.underlying42 (i := 5) rfl rfl hz)
      obtain ⟨A, n, c, l, e6, hn, hc, hs6, hw6, hl6⟩ := open_nums Try.underlying34 Try.underlying3 cellsInt f6 (weights_field Try.underlying42 (i := 6) rfl rfl hz)
      simp only [List.cons.injEq, and_true] at e0 e1 e2 e3 e4 e5 e6
      subst e0 e1 e2 e3 e4 e5 e6
      rw [bytesU8, Nat.mul_one] at hff
      rw [bytesInt] at hc
      subst hl hl6
      simp only [reachBytes] at hff hc
      exact ⟨(i0, i1, i2, i3, i4, z, l), ⟨D, f, A, c, rfl, hs, hs6, hp⟩, ⟨bounds_int w0, by dsimp only; omega, fun v hv => bounds_u8 (hw v hv), by dsimp only; omega⟩, by dsimp only; omega⟩
theorem open_opsP {fuel : Nat} {cs : List Value} {x : DataW H × List MemPlace} (h : DataW.trod enc Try.prog w base (fun _ => true) held fuel 39 cs = some x) (hz : ∀ n ∈ x.1.weights Try.prog 39, n ≤ reachBytes) :
    ∃ (A : Option Addr) (n c : Nat) (os : List OpV), cs = [.slice A n c] ∧ n ≤ c ∧ c * 88 ≤ reachBytes ∧ IsOs w A n os ∧ ∀ o ∈ os, GoodO o ∧ o.2.2.2.2.2.1.length ≤ 140737488351232 := by
  obtain ⟨A, n, c, l, hcs, hnc, hc, hl, hs, _, hg⟩ := open_list 7 (fun z : List Value × OpV => z.1) (fun z => IsO w z.1 z.2 ∧ GoodO z.2 ∧ z.2.2.2.2.2.2.1.length ≤ 140737488351232) Try.underlying39 cellsOp
    (fun fuel cs x h hw => by obtain ⟨y, h1, h2, h3⟩ := open_opP h hw; exact ⟨(cs, y), rfl, h1, h2, h3⟩) h hz
  rw [bytesOp] at hc
  exact ⟨A, n, c, l.map (·.2), hcs, hnc, hc, ⟨l, rfl, hl, hs, fun z hz => (hg z hz).1⟩, fun x hx => by obtain ⟨z, hz, rfl⟩ := List.mem_map.1 hx; exact (hg z hz).2⟩
end
end Go.Proofs.Ytjihiohmemmabaa

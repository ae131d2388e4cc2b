/- The arguments of layer 6 opened: entries, logs that are read before the call. -/
import Derived.Test.YtglabhfmeinogaaLSame
import Derived.Test.YtglabhfmeinogaaOpen
namespace Go.Proofs.Ytglabhfmeinogaa
open Go.RowKit Go.Gz Go.ChangeShapes Go.WideShapes
theorem ownKn : ownKnob Try.prog.godebug = none := by kernel_rfl
theorem laidOk : laidOutB Try.prog = true := by kernel_rfl
theorem cellsEnt : Try.prog.cellsOf 47 = 6 := by kernel_rfl
theorem cellsKind : Try.prog.cellsOf 45 = 1 := by kernel_rfl
theorem cellsEnts : Try.prog.cellsOf 29 = 1 := by kernel_rfl
theorem cellsLog : Try.prog.cellsOf 31 = 6 := by kernel_rfl
theorem bytesEnt : Try.prog.bytesOf 47 = 96 := by kernel_rfl

section
variable {H : Type} {enc : TypeId × Value → H} {w : World} {base : Nat} {held : Bool}
theorem open_entry {fuel : Nat} {cs : List Value} {x : DataW H × List MemPlace} (h : DataW.trod enc Try.prog w base (fun _ => true) held fuel 47 cs = some x) (hz : ∀ n ∈ x.1.weights Try.prog 47, n ≤ reachBytes) : ∃ y : Ent, IsE w cs y ∧ Fits y := by
  obtain ⟨xs, n0, _, rfl, hcl, hxl, hf⟩ := DataW.trod_struct Try.underlying47 h
  rw [cellsEnt] at hcl
  match cs, hcl with
  | [v0, v1, v2, v3, v4, v5], _ =>
    match xs, hxl with
    | [y0, y1, y2, y3, y4], _ =>
      have f0 := hf 0 _ rfl
      have f1 := hf 1 _ rfl
      have f2 := hf 2 _ rfl
      have f3 := hf 3 _ rfl
      have f4 := hf 4 _ rfl
      simp [cellsU64, cellsConf, cellsBytes, cellsKind] at f0 f1 f2 f3 f4
      obtain ⟨i, e0, _⟩ := DataW.trod_int Try.underlying22 f0
      obtain ⟨t, e1, _⟩ := DataW.trod_int Try.underlying22 f1
      obtain ⟨k, e2, _⟩ := DataW.trod_int Try.underlying45 f2
      obtain ⟨D, p, f, z, e3, hp, hff, hs, _, hl⟩ := open_nums Try.underlying26 Try.underlying5 cellsU8 f3 (weights_field Try.underlying47 (i := 3) rfl rfl hz)
      obtain ⟨A, n, c, l, B, m, d, kk, e4, hc, hn, hcc, hm, hdd⟩ := open_conf f4 (weights_field Try.underlying47 (i := 4) rfl rfl hz)
      simp only [List.cons.injEq, and_true] at e0 e1 e2 e3 e4
      obtain ⟨rfl, rfl⟩ := e4
      subst e0 e1 e2 e3
      rw [bytesU8, Nat.mul_one] at hff
      have hln := hc.1.len
      have hkm := hc.2.len
      subst hl hln hkm
      simp only [reachBytes] at hff hcc hdd
      exact ⟨(i, t, k, z, l, kk), ⟨D, f, A, c, B, d, rfl, hs, hc⟩, ⟨by dsimp only; omega, by dsimp only; omega, by dsimp only; omega⟩⟩

theorem open_entries {fuel : Nat} {cs : List Value} {x : DataW H × List MemPlace} (h : DataW.trod enc Try.prog w base (fun _ => true) held fuel 29 cs = some x) (hz : ∀ n ∈ x.1.weights Try.prog 29, n ≤ reachBytes) :
    ∃ (A : Option Addr) (n c : Nat) (xs : List Ent), cs = [.slice A n c] ∧ n ≤ c ∧ c * 96 ≤ reachBytes ∧ IsEs w A n xs ∧ ∀ x ∈ xs, Fits x := by
  obtain ⟨A, n, c, l, hcs, hnc, hc, hl, hs, _, hg⟩ := open_list 6 (fun z : List Value × Ent => z.1) (fun z => IsE w z.1 z.2 ∧ Fits z.2) Try.underlying29 cellsEnt
    (fun fuel cs x h hw => by obtain ⟨y, h1, h2⟩ := open_entry h hw; exact ⟨(cs, y), rfl, h1, h2⟩) h hz
  rw [bytesEnt] at hc
  exact ⟨A, n, c, l.map (·.2), hcs, hnc, hc, ⟨l, rfl, hl, hs, fun z hz => (hg z hz).1⟩, fun x hx => by obtain ⟨z, hz, rfl⟩ := List.mem_map.1 hx; exact (hg z hz).2⟩

theorem open_log {fuel : Nat} {cs : List Value} {x : DataW H × List MemPlace} (h : DataW.trod enc Try.prog w base (fun _ => true) held fuel 31 cs = some x) (hz : ∀ n ∈ x.1.weights Try.prog 31, n ≤ reachBytes) :
    ∃ (bi bt : Int) (A : Option Addr) (na ca : Nat) (B : Option Addr) (nb cb : Nat) (D : Option Addr) (nd cd : Nat) (O : Option Addr) (n c : Nat) (l k z : List Int) (xs : List Ent), cs = [.int .u64 bi, .int .u64 bt, .slice A na ca, .slice B nb cb, .slice D nd cd, .slice O n c] ∧
      IsLog w A B D O na nb nd n l k z xs ∧ (∀ x ∈ xs, Fits x) ∧ n ≤ c ∧ c * 96 ≤ reachBytes ∧ na * 8 ≤ reachBytes ∧ nb * 8 ≤ reachBytes ∧ nd ≤ reachBytes ∧ (Lit.int .u64 bi).wf = true := by
  obtain ⟨xs, n0, _, rfl, hcl, hxl, hf⟩ := DataW.trod_struct Try.underlying31 h
  rw [cellsLog] at hcl
  match cs, hcl with
  | [v0, v1, v2, v3, v4, v5], _ =>
    match xs, hxl with
    | [y0, y1], _ =>
      have f0 := hf 0 _ rfl
      have f1 := hf 1 _ rfl
      simp [cellsSnap, cellsEnts] at f0 f1
      obtain ⟨bi, bt, A, na, ca, l, B, nb, cb, k, D, nd, cd, z, e0, hs, hna, hca, hnb, hcb, hnd, hcd, wi, _⟩ := open_snap f0 (weights_field Try.underlying31 (i := 0) rfl rfl hz)
      obtain ⟨O, n, c, ys, e1, hnc, hc, he, hfit⟩ := open_entries f1 (weights_field Try.underlying31 (i := 1) rfl rfl hz)
      simp only [List.cons.injEq, and_true] at e0 e1
      obtain ⟨rfl, rfl, rfl, rfl, rfl⟩ := e0
      subst e1
      exact ⟨bi, bt, A, na, ca, B, nb, cb, D, nd, cd, O, n, c, l, k, z, ys, rfl, ⟨hs, he⟩, hfit, hnc, hc, by omega, by omega, by omega, wi⟩
end
end Go.Proofs.Ytglabhfmeinogaa

/- The arguments of layer 6 opened where their bulk is bounded. -/
import Derived.Test.YtglabhfmeinogaaLOpen
import Derived.JoinedCond
import Derived.Deep.CondSized
namespace Go.Proofs.Ytglabhfmeinogaa
open Go.RowKit Go.Gz Go.ChangeShapes Go.WideShapes
section
variable {H : Type}
theorem bulk_one (d : DataW H) : 1 ≤ Rows.uptoBulk d := by
  cases d with
  | lit l => cases l <;> simp [Rows.uptoBulk]
  | _ => simp [Rows.uptoBulk]
theorem bulk_part {d : DataW H} : ∀ {l : List (DataW H)}, d ∈ l → Rows.uptoBulk d ≤ Rows.uptoBulkAll l
  | x :: r, h => by
    simp only [Rows.uptoBulkAll]
    rcases List.mem_cons.1 h with e | e
    · subst e; omega
    · have := bulk_part e; omega
theorem bulk_len : ∀ (l : List (DataW H)), l.length ≤ Rows.uptoBulkAll l
  | [] => by simp [Rows.uptoBulkAll]
  | x :: r => by have := bulk_one x; have := bulk_len r; simp only [Rows.uptoBulkAll, List.length_cons]; omega
end
section
variable {H : Type} {enc : TypeId × Value → H} {w : World} {base : Nat} {held : Bool} {sp : Nat → Bool}
/-- A slice's length is not above its bulk. -/
theorem slice_small {t e : TypeId} {fuel n c : Nat} {A : Option Addr} {cs : List Value} {x : DataW H × List MemPlace} (ht : Try.prog.underlying t = some (.slice e)) (h : DataW.trod enc Try.prog w base sp held fuel t cs = some x) (hcs : cs = [.slice A n c]) : n ≤ Rows.uptoBulk x.1 := by
  rcases DataW.trod_slice ht h with ⟨rfl, _⟩ | ⟨a, len, cap, elems, rest, n0, _, rfl, rfl, _, _, _, hlen, _⟩
  · simp at hcs; omega
  · simp only [List.cons.injEq, Value.slice.injEq, and_true] at hcs
    have := bulk_len (elems.map (·.1))
    simp only [List.length_map] at this
    simp only [Rows.uptoBulk]
    omega
/-- A struct's part is not above it. -/
theorem part_small {xs : List (DataW H × List MemPlace)} {i : Nat} {y : DataW H × List MemPlace} (hy : xs[i]? = some y) : Rows.uptoBulk y.1 ≤ Rows.uptoBulk (DataW.agg (xs.map (·.1))) := by
  have := bulk_part (d := y.1) (l := xs.map (·.1)) (List.mem_map_of_mem (List.mem_of_getElem? hy))
  simp only [Rows.uptoBulk]
  omega
theorem cellsGiven : Try.prog.cellsOf 44 = 10 := by kernel_rfl

theorem log_small {fuel : Nat} {bi bt : Int} {A : Option Addr} {na ca : Nat} {B : Option Addr} {nb cb : Nat} {D : Option Addr} {nd cd : Nat} {O : Option Addr} {n c : Nat} {cs : List Value} {x : DataW H × List MemPlace} (h : DataW.trod enc Try.prog w base sp held fuel 31 cs = some x) (hcs : cs = [.int .u64 bi, .int .u64 bt, .slice A na ca, .slice B nb cb, .slice D nd cd, .slice O n c]) : n ≤ Rows.uptoBulk x.1 := by
  obtain ⟨xs, n0, _, rfl, hcl, hxl, hf⟩ := DataW.trod_struct Try.underlying31 h
  subst hcs
  match xs, hxl with
  | [y0, y1], _ =>
    have f1 := hf 1 _ rfl
    simp [cellsSnap, cellsEnts] at f1
    have hq := slice_small Try.underlying29 f1 rfl
    have hq2 := part_small (xs := [y0, y1]) (i := 1) (y := y1) rfl
    exact Nat.le_trans hq hq2

theorem open_given {fuel : Nat} {cs : List Value} {x : DataW H × List MemPlace} (h : DataW.trod enc Try.prog w base (fun _ => true) held fuel 44 cs = some x) (hz : ∀ n ∈ x.1.weights Try.prog 44, n ≤ reachBytes) (hb : Rows.uptoBulk x.1 ≤ 1048576) :
    ∃ (bi bt : Int) (A : Option Addr) (na ca : Nat) (B : Option Addr) (nb cb : Nat) (D : Option Addr) (nd cd : Nat) (O : Option Addr) (n c : Nat) (l k z : List Int) (xs : List Ent) (cm ix tm : Int) (M : Option Addr) (m mc : Nat) (more : List Ent), cs = [.int .u64 bi, .int .u64 bt, .slice A na ca, .slice B nb cb, .slice D nd cd, .slice O n c, .int .u64 cm, .int .u64 ix, .int .u64 tm, .slice M m mc] ∧
      IsLog w A B D O na nb nd n l k z xs ∧ (∀ x ∈ xs, Fits x) ∧ IsEs w M m more ∧ (∀ x ∈ more, Fits x) ∧ m ≤ mc ∧ na * 8 ≤ reachBytes ∧ nb * 8 ≤ reachBytes ∧ nd ≤ reachBytes ∧ n ≤ 1048576 ∧ m ≤ 1048576 ∧ (Lit.int .u64 bi).wf = true ∧ (Lit.int .u64 ix).wf = true := by
  obtain ⟨xs, n0, _, rfl, hcl, hxl, hf⟩ := DataW.trod_struct Try.underlying44 h
  rw [cellsGiven] at hcl
  match cs, hcl with
  | [v0, v1, v2, v3, v4, v5, v6, v7, v8, v9], _ =>
    match xs, hxl with
    | [y0, y1, y2, y3, y4], _ =>
      have f0 := hf 0 _ rfl
      have f1 := hf 1 _ rfl
      have f2 := hf 2 _ rfl
      have f3 := hf 3 _ rfl
      have f4 := hf 4 _ rfl
      simp [cellsLog, cellsU64, cellsEnts] at f0 f1 f2 f3 f4
      obtain ⟨bi, bt, A, na, ca, B, nb, cb, D, nd, cd, O, n, c, l, k, z, ys, e0, hl, hfit, hnc, hc, hna, hnb, hndd, wi⟩ := open_log f0 (weights_field Try.underlying44 (i := 0) rfl rfl hz)
      obtain ⟨cm, e1, _⟩ := DataW.trod_int Try.underlying22 f1
      obtain ⟨ix, e2, _, wx⟩ := DataW.trod_int Try.underlying22 f2
      obtain ⟨tm, e3, _⟩ := DataW.trod_int Try.underlying22 f3
      obtain ⟨M, m, mc, more, e4, hmc, _, hM, hfm⟩ := open_entries f4 (weights_field Try.underlying44 (i := 4) rfl rfl hz)
      have hb : Rows.uptoBulk (DataW.agg (List.map (fun x => x.1) [y0, y1, y2, y3, y4])) ≤ 1048576 := hb
      have q0 := log_small f0 e0
      have q4 := slice_small Try.underlying29 f4 e4
      have r0 := part_small (xs := [y0, y1, y2, y3, y4]) (i := 0) (y := y0) rfl
      have r4 := part_small (xs := [y0, y1, y2, y3, y4]) (i := 4) (y := y4) rfl
      simp only [List.cons.injEq, and_true] at e0 e1 e2 e3 e4
      obtain ⟨rfl, rfl, rfl, rfl, rfl, rfl⟩ := e0
      subst e1 e2 e3 e4
      exact ⟨bi, bt, A, na, ca, B, nb, cb, D, nd, cd, O, n, c, l, k, z, ys, cm, ix, tm, M, m, mc, more, rfl, hl, hfit, hM, hfm, hmc, hna, hnb, hndd, by omega, by omega, wi, wx⟩
end
end Go.Proofs.Ytglabhfmeinogaa

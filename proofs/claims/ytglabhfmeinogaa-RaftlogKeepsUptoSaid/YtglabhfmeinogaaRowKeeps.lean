/- RaftlogKeeps: for every log, all entries and numbers, together of bulk at most 1048576, the law answers true, and all that was handed in reads as it did. The bulk is the only condition. -/
import Derived.Test.YtglabhfmeinogaaLOpenUpto
import Derived.Test.YtglabhfmeinogaaLawKeeps
namespace Go.Proofs.Ytglabhfmeinogaa
open Go.RowKit Go.Gz Go.ChangeShapes Go.WideShapes Go.ChangeAt

section
variable {H : Type} {enc : TypeId × Value → H} {w : World} {base : Nat} {held : Bool} {sp : Nat → Bool}
theorem open_given2 {fuel : Nat} {cs : List Value} {x : DataW H × List MemPlace} (h : DataW.trod enc Try.prog w base (fun _ => true) held fuel 44 cs = some x) (hz : ∀ n ∈ x.1.weights Try.prog 44, n ≤ reachBytes) (hb : Rows.uptoBulk x.1 ≤ 1048576) :
    ∃ (bi bt : Int) (A : Option Addr) (na ca : Nat) (B : Option Addr) (nb cb : Nat) (D : Option Addr) (nd cd : Nat) (O : Option Addr) (n c : Nat) (l k z : List Int) (xs : List Ent) (cm ix tm : Int) (M : Option Addr) (m mc : Nat) (more : List Ent), cs = [.int .u64 bi, .int .u64 bt, .slice A na ca, .slice B nb cb, .slice D nd cd, .slice O n c, .int .u64 cm, .int .u64 ix, .int .u64 tm, .slice M m mc] ∧
      IsLog w A B D O na nb nd n l k z xs ∧ (∀ x ∈ xs, Fits x) ∧ IsEs w M m more ∧ (∀ x ∈ more, Fits x) ∧ m ≤ mc ∧ na * 8 ≤ reachBytes ∧ nb * 8 ≤ reachBytes ∧ nd ≤ reachBytes ∧ n ≤ 1048576 ∧ m ≤ 1048576 ∧ (Lit.int .u64 bi).wf = true ∧ (Lit.int .u64 ix).wf = true ∧ n ≤ c := by
  obtain ⟨xs, n0, _, rfl, hcl, hxl, hf⟩ := DataW.trod_struct Try.underlying44 h
  rw [cellsGiven] at hcl
  match cs, hcl with
  | [v0, v1, v2, v3, v4, v5, v6, v7, v8, v9], _ =>
    match xs, hxl with
    | [y0, y1, y2, y3, y4], _ =>
      have f0 := hf 0 _ rfl
      have f1 := hf 1 _ rfl
      have f2 := hf 2 _ rfl
      have f3 := hf 3 _ rfl
      have f4 := hf 4 _ rfl
      simp [cellsLog, cellsU64, cellsEnts] at f0 f1 f2 f3 f4
      obtain ⟨bi, bt, A, na, ca, B, nb, cb, D, nd, cd, O, n, c, l, k, z, ys, e0, hl, hfit, hnc, hc, hna, hnb, hndd, wi⟩ := open_log f0 (weights_field Try.underlying44 (i := 0) rfl rfl hz)
      obtain ⟨cm, e1, _⟩ := DataW.trod_int Try.underlying22 f1
      obtain ⟨ix, e2, _, wx⟩ := DataW.trod_int Try.underlying22 f2
      obtain ⟨tm, e3, _⟩ := DataW.trod_int Try.underlying22 f3
      obtain ⟨M, m, mc, more, e4, hmc, _, hM, hfm⟩ := open_entries f4 (weights_field Try.underlying44 (i := 4) rfl rfl hz)
      have hb : Rows.uptoBulk (DataW.agg (List.map (fun x => x.1) [y0, y1, y2, y3, y4])) ≤ 1048576 := hb
      have q0 := log_small f0 e0
      have q4 := slice_small Try.underlying29 f4 e4
      have r0 := part_small (xs := [y0, y1, y2, y3, y4]) (i := 0) (y := y0) rfl
      have r4 := part_small (xs := [y0, y1, y2, y3, y4]) (i := 4) (y := y4) rfl
      simp only [List.cons.injEq, and_true] at e0 e1 e2 e3 e4
      obtain ⟨rfl, rfl, rfl, rfl, rfl, rfl⟩ := e0
      subst e1 e2 e3 e4
      exact ⟨bi, bt, A, na, ca, B, nb, cb, D, nd, cd, O, n, c, l, k, z, ys, cm, ix, tm, M, m, mc, more, rfl, hl, hfit, hM, hfm, hmc, hna, hnb, hndd, by omega, by omega, wi, wx, hnc⟩
end

theorem keeps_contract (H : Type) (enc : TypeId × Value → H) (W : World) (base : Nat) (args : Array Value) (ds gs : List (DataW H)) (before : List MemPlace)
    (hval0 : ∀ (j : Nat) t v, Try.f4.params[j]? = some t → args[j]? = some v → Value.okWide Try.prog W .any base t v)
    (hW : DataW.Whole enc Try.prog Try.f4.params.toList Rows.raftlogKeepsSpec.vars false W args.toList ds gs before) (hk : Rows.uptoSmall H (ds ++ gs) = true)
    (hsz0 : (DataW.weightsEach Try.prog (Try.f4.params.toList ++ Rows.raftlogKeepsSpec.plain.varTypes Try.prog) (ds ++ gs)).all (· ≤ reachBytes) = true) :
    Calls Try.prog 4 args W fun e W' => ∃ v, e = .returned v ∧ Rows.raftlogKeepsSpec.post enc Try.prog Try.f4 false true false false W args v W' := by
  have hval := hval0
  have hsz := hsz0
  have hW' := hW
  obtain ⟨p, q, hA0, hV, rfl, hfz, hnd⟩ := hW
  have hA : DataW.TrodAll enc Try.prog W 0 (fun _ => true) true Try.f4.params.toList args.toList ds p := hA0
  rw [Try.params4] at hA hval hsz
  obtain ⟨v0, vs0, d0, ds0, p0, q0, hargs, rfl, rfl, h0, r0⟩ := trodAll_cons hA
  obtain ⟨v1, vs1, d1, ds1, p1, q1, rfl, rfl, rfl, h1, r1⟩ := trodAll_cons r0
  obtain ⟨rfl, rfl, rfl⟩ := trodAll_nil r1
  obtain rfl : args = #[v0, v1] := by cases args; simp_all
  obtain ⟨rfl, rfl⟩ := trodVars_none hV
  have hbulk : Rows.uptoBulkAll ([d0, d1] ++ []) ≤ 1048576 := of_decide_eq_true hk
  simp only [List.append_nil, Rows.uptoBulkAll] at hbulk
  have k0 := h0
  have lt0 : ∀ x ∈ p0, x.block < W.heap.size := by obtain ⟨m, hm⟩ := k0; exact DataW.trod_lt m _ _ _ hm
  obtain ⟨cs, rfl, _⟩ := okWide_struct Try.underlying44 (hval 0 44 v0 rfl rfl)
  obtain ⟨fuel, hf⟩ := h0
  have hz0 : ∀ n ∈ d0.weights Try.prog 44, n ≤ reachBytes := fun n hn => by
    have := List.all_eq_true.1 hsz n (DataW.weights_mem_each (j := 0) (t := 44) (d := d0) rfl rfl n hn)
    simpa using this
  obtain ⟨bi, bt, A, na, ca, B, nb, cb, D, nd, cd, O, n, c, l, k, z, xs, cm, ix, tm, M, m, mc, more, hcs, hl, hfit, hM, hfm, hmc, hna, hnb, hndd, hn, hm, wb, wi, hnc⟩ := open_given2 hf hz0 (show Rows.uptoBulk d0 ≤ 1048576 by omega)
  obtain ⟨cl⟩ := cs
  simp only [Value.cells] at hcs
  subst hcs
  have bb := bounds_u64 wb
  have bx := bounds_u64 wi
  obtain ⟨a1, rfl, rfl, rfl, w1⟩ := open_int Try.underlying22 (hval 1 22 v1 rfl rfl) h1
  have b1 := bounds_u64 w1
  clear hA0 hval0 hsz0
  simp only [reachBytes] at hna hnb hndd
  refine (lawKeeps_any bi bt A na ca B nb cb D nd cd O n c l k z xs cm ix tm M m mc more a1 W hl hfit hnc (by omega) (by omega) (by omega) bb.1 (by omega) hM hfm hmc hn hm bx.1 (by omega) b1.1 (by omega)).mono fun e W' ⟨he, bel⟩ => ?_
  subst he
  exact ⟨_, rfl, _, _, _, [], _, [], hW', trodAll_mk1 (shut_bool Try.underlying4 _), (trodAll_cons_mk (Below.trod laidOk (by kernel_rfl) (of_decide_eq_true (by kernel_rfl)) k0 bel lt0) (trodAll_cons_mk (shut_int Try.underlying22 w1) trodAll_mk0)), rfl, bel.frame _, fun h => by cases h⟩

set_option maxRecDepth 100000 in
theorem keeps_lifted (os : Os) (started : os.Started) (H : Type) (enc : TypeId × Value → H) (F : Stop.Interp) :
    ReturnsInHanded {} Try.checked os 4 .any ((Rows.OpenSpec.upto Rows.raftlogKeepsSpec).pre6 enc Try.prog Try.f4 Rows.raftlogKeepsUptoRow.domain false) (((Rows.OpenSpec.upto Rows.raftlogKeepsSpec).at F).post enc Try.prog Try.f4 false true false false) := by
  refine returnsInHanded_of_cond_sized (C := Try.checked) (s := Rows.OpenSpec.upto Rows.raftlogKeepsSpec) (k := Rows.uptoSmall) rfl ownKn started (by kernel_rfl) Try.func4
    (OpenSpec.witness (enc := enc) (C := Try.checked) (s := Rows.OpenSpec.upto Rows.raftlogKeepsSpec) (k := Rows.uptoSmall) rfl false ⟨#[], #[.agg #[.int .u64 0, .int .u64 0, .slice none 0 0, .slice none 0 0, .slice none 0 0, .slice none 0 0, .int .u64 0, .int .u64 0, .int .u64 0, .slice none 0 0], .int .u64 0], []⟩ 8 (by kernel_rfl) (by kernel_rfl) (by kernel_rfl)
      (x := ([.agg [.agg [.agg [.lit (.int .u64 0), .lit (.int .u64 0), .agg [.nil, .nil], .nil], .nil], .lit (.int .u64 0), .lit (.int .u64 0), .lit (.int .u64 0), .nil], .lit (.int .u64 0)], [], [])) (by kernel_rfl) rfl (by kernel_rfl)) ?_
  intro W base args ds gs before hval hW _ hk hsz _
  exact keeps_contract H enc W base args ds gs before hval hW hk hsz

/-- THE STATEMENT. -/
theorem keeps_holds : Rows.RaftlogKeepsUptoSaid :=
  OpenClaim.holds_of_cond 4 Try.f4 rfl rfl rfl rfl rfl rfl rfl ⟨rfl, rfl, rfl, rfl, rfl⟩ rfl rfl rfl rfl rfl (by kernel_rfl) Try.func4 (by kernel_rfl)
    (of_decide_eq_true (by kernel_rfl)) (by unfold Func.isWrapper; first | (rw [if_pos (by decide +kernel)]; kernel_rfl) | (rw [if_neg (by decide +kernel)]; exact ⟨rfl, rfl⟩))
    (fun os started H enc _ F => keeps_lifted os started H enc F)
end Go.Proofs.Ytglabhfmeinogaa

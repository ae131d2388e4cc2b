/- RaftlogCopies: for any two logs and all numbers, together of bulk at most 1048576, the law answers true, and all that was handed in reads as it did. The bulk is the only condition. -/
import Derived.Test.YtglabhfmeinogaaLOpenUpto
import Derived.Test.YtglabhfmeinogaaLawCopies
namespace Go.Proofs.Ytglabhfmeinogaa
open Go.RowKit Go.Gz Go.ChangeShapes Go.WideShapes Go.ChangeAt

theorem copies_contract (H : Type) (enc : TypeId × Value → H) (W : World) (base : Nat) (args : Array Value) (ds gs : List (DataW H)) (before : List MemPlace)
    (hval0 : ∀ (j : Nat) t v, Try.f8.params[j]? = some t → args[j]? = some v → Value.okWide Try.prog W .any base t v)
    (hW : DataW.Whole enc Try.prog Try.f8.params.toList Rows.raftlogCopiesSpec.vars false W args.toList ds gs before) (hk : Rows.uptoSmall H (ds ++ gs) = true)
    (hsz0 : (DataW.weightsEach Try.prog (Try.f8.params.toList ++ Rows.raftlogCopiesSpec.plain.varTypes Try.prog) (ds ++ gs)).all (· ≤ reachBytes) = true) :
    Calls Try.prog 8 args W fun e W' => ∃ v, e = .returned v ∧ Rows.raftlogCopiesSpec.post enc Try.prog Try.f8 false true false false W args v W' := by
  have hval := hval0
  have hsz := hsz0
  have hW' := hW
  obtain ⟨p, q, hA0, hV, rfl, hfz, hnd⟩ := hW
  have hA : DataW.TrodAll enc Try.prog W 0 (fun _ => true) true Try.f8.params.toList args.toList ds p := hA0
  rw [Try.params8] at hA hval hsz
  obtain ⟨v0, vs0, d0, ds0, p0, q0, hargs, rfl, rfl, h0, r0⟩ := trodAll_cons hA
  obtain ⟨v1, vs1, d1, ds1, p1, q1, rfl, rfl, rfl, h1, r1⟩ := trodAll_cons r0
  obtain ⟨v2, vs2, d2, ds2, p2, q2, rfl, rfl, rfl, h2, r2⟩ := trodAll_cons r1
  obtain ⟨v3, vs3, d3, ds3, p3, q3, rfl, rfl, rfl, h3, r3⟩ := trodAll_cons r2
  obtain ⟨rfl, rfl, rfl⟩ := trodAll_nil r3
  obtain rfl : args = #[v0, v1, v2, v3] := by cases args; simp_all
  obtain ⟨rfl, rfl⟩ := trodVars_none hV
  have hbulk : Rows.uptoBulkAll ([d0, d1, d2, d3] ++ []) ≤ 1048576 := of_decide_eq_true hk
  simp only [List.append_nil, Rows.uptoBulkAll] at hbulk
  have k0 := h0
  have k1 := h1
  have lt0 : ∀ x ∈ p0, x.block < W.heap.size := by obtain ⟨m, hm⟩ := k0; exact DataW.trod_lt m _ _ _ hm
  have lt1 : ∀ x ∈ p1, x.block < W.heap.size := by obtain ⟨m, hm⟩ := k1; exact DataW.trod_lt m _ _ _ hm
  obtain ⟨cs, rfl, _⟩ := okWide_struct Try.underlying31 (hval 0 31 v0 rfl rfl)
  obtain ⟨cs', rfl, _⟩ := okWide_struct Try.underlying31 (hval 1 31 v1 rfl rfl)
  obtain ⟨fuel, hf⟩ := h0
  obtain ⟨fuel', hf'⟩ := h1
  have hz0 : ∀ n ∈ d0.weights Try.prog 31, n ≤ reachBytes := fun n hn => by
    have := List.all_eq_true.1 hsz n (DataW.weights_mem_each (j := 0) (t := 31) (d := d0) rfl rfl n hn)
    simpa using this
  have hz1 : ∀ n ∈ d1.weights Try.prog 31, n ≤ reachBytes := fun n hn => by
    have := List.all_eq_true.1 hsz n (DataW.weights_mem_each (j := 1) (t := 31) (d := d1) rfl rfl n hn)
    simpa using this
  obtain ⟨bi, bt, A, na, ca, B, nb, cb, D, nd, cd, O, n, c, l, k, z, xs, hcs, hl, hfit, hnc, hc, hna, hnb, hndd, wi⟩ := open_log hf hz0
  obtain ⟨bi', bt', A', na', ca', B', nb', cb', D', nd', cd', O', n', c', l', k', z', xs', hcs', hl', hfit', hnc', hc', hna', hnb', hndd', wi'⟩ := open_log hf' hz1
  have q0 : n ≤ Rows.uptoBulk d0 := log_small hf hcs
  have q1 : n' ≤ Rows.uptoBulk d1 := log_small hf' hcs'
  obtain ⟨cl⟩ := cs
  obtain ⟨cl'⟩ := cs'
  simp only [Value.cells] at hcs hcs'
  subst hcs hcs'
  have bb := bounds_u64 wi
  have bb' := bounds_u64 wi'
  obtain ⟨a2, rfl, rfl, rfl, w2⟩ := open_int Try.underlying22 (hval 2 22 v2 rfl rfl) h2
  obtain ⟨a3, rfl, rfl, rfl, w3⟩ := open_int Try.underlying3 (hval 3 3 v3 rfl rfl) h3
  have b2 := bounds_u64 w2
  have b3 := bounds_i64 w3
  clear hA0 hval0 hsz0
  simp only [reachBytes] at hc hna hnb hndd hc' hna' hnb' hndd'
  refine (lawCopies_any bi bt A na ca B nb cb D nd cd O n c l k z xs bi' bt' A' na' ca' B' nb' cb' D' nd' cd' O' n' c' l' k' z' xs' a2 a3 W hl hfit hnc (by omega) bb.1 (by omega) hl' hfit' hnc' (by omega) bb'.1 (by omega) (by omega) (by omega) (by omega) b2.1 (by omega) b3.1 (by omega)).mono fun e W' ⟨he, bel⟩ => ?_
  subst he
  exact ⟨_, rfl, _, _, _, [], _, [], hW', trodAll_mk1 (shut_bool Try.underlying4 _), (trodAll_cons_mk (Below.trod laidOk (by kernel_rfl) (of_decide_eq_true (by kernel_rfl)) k0 bel lt0) (trodAll_cons_mk (Below.trod laidOk (by kernel_rfl) (of_decide_eq_true (by kernel_rfl)) k1 bel lt1) (trodAll_cons_mk (shut_int Try.underlying22 w2) (trodAll_cons_mk (shut_int Try.underlying3 w3) trodAll_mk0)))), rfl, bel.frame _, fun h => by cases h⟩

set_option maxRecDepth 100000 in
theorem copies_lifted (os : Os) (started : os.Started) (H : Type) (enc : TypeId × Value → H) (F : Stop.Interp) :
    ReturnsInHanded {} Try.checked os 8 .any ((Rows.OpenSpec.upto Rows.raftlogCopiesSpec).pre6 enc Try.prog Try.f8 Rows.raftlogCopiesUptoRow.domain false) (((Rows.OpenSpec.upto Rows.raftlogCopiesSpec).at F).post enc Try.prog Try.f8 false true false false) := by
  refine returnsInHanded_of_cond_sized (C := Try.checked) (s := Rows.OpenSpec.upto Rows.raftlogCopiesSpec) (k := Rows.uptoSmall) rfl ownKn started (by kernel_rfl) Try.func8
    (OpenSpec.witness (enc := enc) (C := Try.checked) (s := Rows.OpenSpec.upto Rows.raftlogCopiesSpec) (k := Rows.uptoSmall) rfl false ⟨#[], #[.agg #[.int .u64 0, .int .u64 0, .slice none 0 0, .slice none 0 0, .slice none 0 0, .slice none 0 0], .agg #[.int .u64 0, .int .u64 0, .slice none 0 0, .slice none 0 0, .slice none 0 0, .slice none 0 0], .int .u64 0, .int .i64 0], []⟩ 8 (by kernel_rfl) (by kernel_rfl) (by kernel_rfl)
      (x := ([.agg [.agg [.lit (.int .u64 0), .lit (.int .u64 0), .agg [.nil, .nil], .nil], .nil], .agg [.agg [.lit (.int .u64 0), .lit (.int .u64 0), .agg [.nil, .nil], .nil], .nil], .lit (.int .u64 0), .lit (.int .i64 0)], [], [])) (by kernel_rfl) rfl (by kernel_rfl)) ?_
  intro W base args ds gs before hval hW _ hk hsz _
  exact copies_contract H enc W base args ds gs before hval hW hk hsz

/-- THE STATEMENT. -/
theorem copies_holds : Rows.RaftlogCopiesUptoSaid :=
  OpenClaim.holds_of_cond 8 Try.f8 rfl rfl rfl rfl rfl rfl rfl ⟨rfl, rfl, rfl, rfl, rfl⟩ rfl rfl rfl rfl rfl (by kernel_rfl) Try.func8 (by kernel_rfl)
    (of_decide_eq_true (by kernel_rfl)) (by unfold Func.isWrapper; first | (rw [if_pos (by decide +kernel)]; kernel_rfl) | (rw [if_neg (by decide +kernel)]; exact ⟨rfl, rfl⟩))
    (fun os started H enc _ F => copies_lifted os started H enc F)
end Go.Proofs.Ytglabhfmeinogaa

/- RaftsnapPieces: for every snapshot, every place and every number the law answers true, and all that was handed in reads as it did. No condition. -/
import Derived.Test.YtmjohallhdcdnaaOpen
import Derived.Test.YtmjohallhdcdnaaLawPieces
namespace Go.Proofs.Ytmjohallhdcdnaa
open Go.RowKit Go.Gz Go.ChangeShapes Go.WideShapes Go.ChangeAt

theorem ownKn : ownKnob Try.prog.godebug = none := by kernel_rfl
theorem laidOk : laidOutB Try.prog = true := by kernel_rfl

theorem lawPieces_any (i t nn : Int) (A B D : Option Addr) (n c m d p f k : Nat) (l k' z : List Int) (w : World) (h : IsSnap w A B D n m p l k' z) (hn : n * 8 ≤ 140737488355328) (hm : m * 8 ≤ 140737488355328)
    (hpf : p ≤ f) (hf : p ≤ 140737488355328) (hk2 : k < 18446744073709551616) (hN : -9223372036854775808 ≤ nn) (hN2 : nn ≤ 9223372036854775807) :
    Calls Try.prog 3 #[.agg #[.int .u64 i, .int .u64 t, .slice A n c, .slice B m d, .slice D p f], .int .u64 k, .int .i64 nn] w fun e w' => e = .returned (.bool true) ∧ Below w.heap.size w w' := by
  by_cases hk : k ≤ p
  · exact lawPieces_ok i t nn A B D n c m d p f k l k' z w h hn hm hpf hf hk hN hN2
  · exact lawPieces_err i t nn A B D n c m d p f k l k' z w h hn hm hf (by omega) hk2 hN hN2

set_option maxRecDepth 100000 in
theorem pieces_lifted (os : Os) (started : os.Started) (H : Type) (enc : TypeId × Value → H) :
    ReturnsInHanded {} Try.checked os 3 .any (Rows.raftsnapPiecesSpec.pre6 enc Try.prog Try.f3 Rows.raftsnapPiecesRow.domain false) (Rows.raftsnapPiecesSpec.post enc Try.prog Try.f3 false true false false) := by
  refine returnsInHanded_of_change_sized (C := Try.checked) ownKn started (by kernel_rfl) Try.func3
    (ChangeSpec.witness6 (enc := enc) (C := Try.checked) false ⟨#[], #[.agg #[.int .u64 0, .int .u64 0, .slice none 0 0, .slice none 0 0, .slice none 0 0], .int .u64 0, .int .i64 0], []⟩ 8 (by kernel_rfl) (by kernel_rfl) (by kernel_rfl) (by kernel_rfl)) ?_
  intro W base args ds gs before hval0 hW hcnd hsz0 _
  have hval : ∀ (j : Nat) t v, Try.f3.params[j]? = some t → args[j]? = some v → Value.okWide Try.prog W .any base t v := hval0
  have hsz : (DataW.weightsEach Try.prog (Try.f3.params.toList ++ Rows.raftsnapPiecesSpec.plain.varTypes Try.prog) (ds ++ gs)).all (· ≤ reachBytes) = true := hsz0
  have hW' := hW
  obtain ⟨p, q, hA0, hV, rfl, hfz, hnd⟩ := hW
  have hA : DataW.TrodAll enc Try.prog W 0 (fun _ => true) true Try.f3.params.toList args.toList ds p := hA0
  rw [Try.params3] at hA hval hsz
  obtain ⟨v0, vs0, d0, ds0, p0, q0, hargs, rfl, rfl, h0, r0⟩ := trodAll_cons hA
  obtain ⟨v1, vs1, d1, ds1, p1, q1, rfl, rfl, rfl, h1, r1⟩ := trodAll_cons r0
  obtain ⟨v2, vs2, d2, ds2, p2, q2, rfl, rfl, rfl, h2, r2⟩ := trodAll_cons r1
  obtain ⟨rfl, rfl, rfl⟩ := trodAll_nil r2
  obtain rfl : args = #[v0, v1, v2] := by cases args; simp_all
  obtain ⟨rfl, rfl⟩ := trodVars_none hV
  have k0 := h0
  have lt0 : ∀ x ∈ p0, x.block < W.heap.size := by obtain ⟨m, hm⟩ := k0; exact DataW.trod_lt m _ _ _ hm
  obtain ⟨cs, rfl, _⟩ := okWide_struct Try.underlying28 (hval 0 28 v0 rfl rfl)
  obtain ⟨fuel, hf⟩ := h0
  have hz0 : ∀ n ∈ d0.weights Try.prog 28, n ≤ reachBytes := fun n hn => by
    have := List.all_eq_true.1 hsz n (DataW.weights_mem_each (j := 0) (t := 28) (d := d0) rfl rfl n hn)
    simpa using this
  obtain ⟨i, t, A, n, c, l, B, m, d, k, D, p, f, z, hcs, hs, hn, hc, hm, hd, hp, hff, wi, wt⟩ := open_snap hf hz0
  obtain ⟨cl⟩ := cs
  simp only [Value.cells] at hcs
  subst hcs
  obtain ⟨a1, rfl, rfl, rfl, w1⟩ := open_int Try.underlying22 (hval 1 22 v1 rfl rfl) h1
  obtain ⟨a2, rfl, rfl, rfl, w2⟩ := open_int Try.underlying3 (hval 2 3 v2 rfl rfl) h2
  have b1 := bounds_u64 w1
  have b2 := bounds_i64 w2
  clear hA0 hval0 hsz0
  obtain ⟨kk, rfl⟩ := Int.eq_ofNat_of_zero_le b1.1
  simp only [reachBytes] at hc hd hff
  refine (lawPieces_any i t a2 A B D n c m d p f kk l k z W hs (by omega) (by omega) hp (by omega) (by omega) b2.1 b2.2).mono fun e W' ⟨he, bel⟩ => ?_
  subst he
  exact ⟨_, rfl, _, _, _, [], _, [], hW', trodAll_mk1 (shut_bool Try.underlying4 _), (trodAll_cons_mk (Below.trod laidOk (by kernel_rfl) (of_decide_eq_true (by kernel_rfl)) k0 bel lt0) (trodAll_cons_mk (shut_int Try.underlying22 w1) (trodAll_cons_mk (shut_int Try.underlying3 w2) trodAll_mk0))), rfl, bel.frame _, fun h => by cases h⟩

/-- THE STATEMENT. -/
theorem pieces_holds : Rows.RaftsnapPiecesSaid :=
  OpenClaim.holds_of_wide 3 Try.f3 rfl rfl rfl rfl rfl rfl rfl ⟨rfl, rfl, rfl, rfl, rfl⟩ rfl rfl rfl rfl rfl (by kernel_rfl) Try.func3 (by kernel_rfl)
    (of_decide_eq_true (by kernel_rfl)) (by unfold Func.isWrapper; first | (rw [if_pos (by decide +kernel)]; kernel_rfl) | (rw [if_neg (by decide +kernel)]; exact ⟨rfl, rfl⟩))
    (fun os started H enc _ => pieces_lifted os started H enc)
end Go.Proofs.Ytmjohallhdcdnaa

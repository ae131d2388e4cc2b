/- RaftsnapTakes: for every part, all messages and every configuration, together of bulk at most 1048576, the law answers true, and all that was handed in reads as it did. The bulk is the only condition. -/
import Derived.Test.YtmjohallhdcdnaaOpen
import Derived.Test.YtmjohallhdcdnaaLawTakes
import Derived.JoinedCond
import Derived.Deep.CondSized
namespace Go.Proofs.Ytmjohallhdcdnaa
open Go.RowKit Go.Gz Go.ChangeShapes Go.WideShapes Go.ChangeAt

theorem ownKn : ownKnob Try.prog.godebug = none := by kernel_rfl
theorem laidOk : laidOutB Try.prog = true := by kernel_rfl

section
variable {H : Type}
theorem bulk_one (d : DataW H) : 1 ≤ Rows.uptoBulk d := by
  cases d with
  | lit l => cases l <;> simp [Rows.uptoBulk]
  | _ => simp [Rows.uptoBulk]
theorem bulk_part {d : DataW H} : ∀ {l : List (DataW H)}, d ∈ l → Rows.uptoBulk d ≤ Rows.uptoBulkAll l
  | x :: r, h => by
    simp only [Rows.uptoBulkAll]
    rcases List.mem_cons.1 h with e | e
    · subst e; omega
    · have := bulk_part e; omega
theorem bulk_len : ∀ (l : List (DataW H)), l.length ≤ Rows.uptoBulkAll l
  | [] => by simp [Rows.uptoBulkAll]
  | x :: r => by have := bulk_one x; have := bulk_len r; simp only [Rows.uptoBulkAll, List.length_cons]; omega
end
section
variable {H : Type} {enc : TypeId × Value → H} {w : World} {base : Nat} {held : Bool} {sp : Nat → Bool}
/-- A slice's length is not above its bulk. -/
theorem slice_small {t e : TypeId} {fuel n c : Nat} {A : Option Addr} {cs : List Value} {x : DataW H × List MemPlace} (ht : Try.prog.underlying t = some (.slice e)) (h : DataW.trod enc Try.prog w base sp held fuel t cs = some x) (hcs : cs = [.slice A n c]) : n ≤ Rows.uptoBulk x.1 := by
  rcases DataW.trod_slice ht h with ⟨rfl, _⟩ | ⟨a, len, cap, elems, rest, n0, _, rfl, rfl, _, _, _, hlen, _⟩
  · simp at hcs; omega
  · simp only [List.cons.injEq, Value.slice.injEq, and_true] at hcs
    have := bulk_len (elems.map (·.1))
    simp only [List.length_map] at this
    simp only [Rows.uptoBulk]
    omega
/-- A struct's part is not above it. -/
theorem part_small {xs : List (DataW H × List MemPlace)} {i : Nat} {y : DataW H × List MemPlace} (hy : xs[i]? = some y) : Rows.uptoBulk y.1 ≤ Rows.uptoBulk (DataW.agg (xs.map (·.1))) := by
  have := bulk_part (d := y.1) (l := xs.map (·.1)) (List.mem_map_of_mem (List.mem_of_getElem? hy))
  simp only [Rows.uptoBulk]
  omega
theorem cellsBool : Try.prog.cellsOf 4 = 1 := by kernel_rfl
theorem cellsMsg : Try.prog.cellsOf 34 = 14 := by kernel_rfl
theorem cellsCome : Try.prog.cellsOf 43 = 3 := by kernel_rfl
theorem cellsEnts : Try.prog.cellsOf 32 = 1 := by kernel_rfl

theorem open_msg {fuel : Nat} {cs : List Value} {x : DataW H × List MemPlace} (h : DataW.trod enc Try.prog w base (fun _ => true) held fuel 34 cs = some x) (hz : ∀ n ∈ x.1.weights Try.prog 34, n ≤ reachBytes) (hb : Rows.uptoBulk x.1 ≤ 1048576) : MsgOk w cs := by
  obtain ⟨xs, n0, _, rfl, hcl, hxl, hf⟩ := DataW.trod_struct Try.underlying34 h
  rw [cellsMsg] at hcl
  match cs, hcl with
  | [v0, v1, v2, v3, v4, v5, v6, v7, v8, v9, v10, v11, v12, v13], _ =>
    match xs, hxl with
    | [y0, y1, y2, y3, y4, y5, y6, y7, y8, y9, y10, y11, y12], _ =>
      have f4 := hf 4 _ rfl
      have f5 := hf 5 _ rfl
      have f9 := hf 9 _ rfl
      have f11 := hf 11 _ rfl
      have f12 := hf 12 _ rfl
      simp [cellsU64, cellsBytes, cellsBool] at f4 f5 f9 f11 f12
      obtain ⟨i, e4, _⟩ := DataW.trod_int Try.underlying22 f4
      obtain ⟨t, e5, _⟩ := DataW.trod_int Try.underlying22 f5
      obtain ⟨k, e9, _⟩ := DataW.trod_int Try.underlying22 f9
      obtain ⟨M, q, e, y, e11, _, _, hs, _, _⟩ := open_nums Try.underlying26 Try.underlying5 cellsU8 f11 (weights_field Try.underlying34 (i := 11) rfl rfl hz)
      have hq := slice_small Try.underlying26 f11 e11
      have hq2 := part_small (xs := [y0, y1, y2, y3, y4, y5, y6, y7, y8, y9, y10, y11, y12]) (i := 11) (y := y11) rfl
      obtain ⟨done, e12, _⟩ := DataW.trod_bool Try.underlying4 f12
      simp only [List.cons.injEq, and_true] at e4 e5 e9 e11 e12
      subst e4 e5 e9 e11 e12
      exact ⟨v0, v1, v2, v3, v6, v7, v8, v10, v11, i, t, k, M, q, e, done, y, rfl, hs, Nat.le_trans hq (Nat.le_trans hq2 hb)⟩

theorem open_msgs {fuel : Nat} {cs : List Value} {x : DataW H × List MemPlace} (h : DataW.trod enc Try.prog w base (fun _ => true) held fuel 44 cs = some x) (hz : ∀ n ∈ x.1.weights Try.prog 44, n ≤ reachBytes) (hb : Rows.uptoBulk x.1 ≤ 1048576) :
    ∃ (A : Option Addr) (n c : Nat) (l : List (List Value)), cs = [.slice A n c] ∧ l.length = n ∧ n ≤ 1048576 ∧ SlA w 14 A n (l.flatMap fun y => y) ∧ (∀ y ∈ l, y.length = 14) ∧ ∀ y ∈ l, MsgOk w y := by
  obtain ⟨A, n, c, l, hcs, _, _, hl, hs, hv, hg⟩ := open_listR 14 (fun y : List Value => y) (MsgOk w) (fun d => (∀ n ∈ d.weights Try.prog 34, n ≤ reachBytes) ∧ Rows.uptoBulk d ≤ 1048576) Try.underlying44 cellsMsg
    (fun fuel cs x h hR => ⟨cs, rfl, open_msg h hR.1 hR.2⟩) h hz (fun elems spare hx d hd => ⟨fun m hm => hz m (by
      rw [hx]
      simp only [DataW.weights, Try.underlying44]
      exact List.mem_cons_of_mem _ (List.mem_append_left _ (weights_all _ _ hd m hm))), by
      rw [hx] at hb
      simp only [Rows.uptoBulk] at hb
      have := bulk_part hd
      omega⟩)
  exact ⟨A, n, c, l, hcs, hl, Nat.le_trans (slice_small Try.underlying44 h hcs) hb, hs, hv, hg⟩

theorem open_come {fuel : Nat} {cs : List Value} {x : DataW H × List MemPlace} (h : DataW.trod enc Try.prog w base (fun _ => true) held fuel 43 cs = some x) (hz : ∀ n ∈ x.1.weights Try.prog 43, n ≤ reachBytes) (hb : Rows.uptoBulk x.1 ≤ 1048576) :
    ∃ (pi pt : Int) (D : Option Addr) (f : Nat) (z : List Int), cs = [.int .u64 pi, .int .u64 pt, .slice D z.length f] ∧ SlA w 1 D z.length (nums .u8 z) ∧ z.length ≤ f ∧ z.length ≤ 1048576 := by
  obtain ⟨xs, n0, _, rfl, hcl, hxl, hf⟩ := DataW.trod_struct Try.underlying43 h
  rw [cellsCome] at hcl
  match cs, hcl with
  | [v0, v1, v2], _ =>
    match xs, hxl with
    | [y0, y1, y2], _ =>
      have f0 := hf 0 _ rfl
      have f1 := hf 1 _ rfl
      have f2 := hf 2 _ rfl
      simp [cellsU64, cellsBytes] at f0 f1 f2
      obtain ⟨i, e0, _⟩ := DataW.trod_int Try.underlying22 f0
      obtain ⟨t, e1, _⟩ := DataW.trod_int Try.underlying22 f1
      obtain ⟨D, p, f, z, e2, hpf, _, hs, _, hl⟩ := open_nums Try.underlying26 Try.underlying5 cellsU8 f2 (weights_field Try.underlying43 (i := 2) rfl rfl hz)
      have hq := slice_small Try.underlying26 f2 e2
      have hq2 := part_small (xs := [y0, y1, y2]) (i := 2) (y := y2) rfl
      simp only [List.cons.injEq, and_true] at e0 e1 e2
      subst e0 e1 e2 hl
      exact ⟨i, t, D, f, z, rfl, hs, hpf, Nat.le_trans hq (Nat.le_trans hq2 hb)⟩
end

theorem takes_contract (H : Type) (enc : TypeId × Value → H) (W : World) (base : Nat) (args : Array Value) (ds gs : List (DataW H)) (before : List MemPlace)
    (hval0 : ∀ (j : Nat) t v, Try.f4.params[j]? = some t → args[j]? = some v → Value.okWide Try.prog W .any base t v)
    (hW : DataW.Whole enc Try.prog Try.f4.params.toList Rows.raftsnapTakesSpec.vars false W args.toList ds gs before) (hk : Rows.uptoSmall H (ds ++ gs) = true)
    (hsz0 : (DataW.weightsEach Try.prog (Try.f4.params.toList ++ Rows.raftsnapTakesSpec.plain.varTypes Try.prog) (ds ++ gs)).all (· ≤ reachBytes) = true) :
    Calls Try.prog 4 args W fun e W' => ∃ v, e = .returned v ∧ Rows.raftsnapTakesSpec.post enc Try.prog Try.f4 false true false false W args v W' := by
  have hval := hval0
  have hsz := hsz0
  have hW' := hW
  obtain ⟨p, q, hA0, hV, rfl, hfz, hnd⟩ := hW
  have hA : DataW.TrodAll enc Try.prog W 0 (fun _ => true) true Try.f4.params.toList args.toList ds p := hA0
  rw [Try.params4] at hA hval hsz
  obtain ⟨v0, vs0, d0, ds0, p0, q0, hargs, rfl, rfl, h0, r0⟩ := trodAll_cons hA
  obtain ⟨v1, vs1, d1, ds1, p1, q1, rfl, rfl, rfl, h1, r1⟩ := trodAll_cons r0
  obtain ⟨v2, vs2, d2, ds2, p2, q2, rfl, rfl, rfl, h2, r2⟩ := trodAll_cons r1
  obtain ⟨rfl, rfl, rfl⟩ := trodAll_nil r2
  obtain rfl : args = #[v0, v1, v2] := by cases args; simp_all
  obtain ⟨rfl, rfl⟩ := trodVars_none hV
  have hbulk : Rows.uptoBulkAll ([d0, d1, d2] ++ []) ≤ 1048576 := of_decide_eq_true hk
  simp only [List.append_nil, Rows.uptoBulkAll] at hbulk
  have k0 := h0
  have lt0 : ∀ x ∈ p0, x.block < W.heap.size := by obtain ⟨m, hm⟩ := k0; exact DataW.trod_lt m _ _ _ hm
  obtain ⟨cs, rfl, _⟩ := okWide_struct Try.underlying43 (hval 0 43 v0 rfl rfl)
  obtain ⟨fuel, hf⟩ := h0
  have hz0 : ∀ n ∈ d0.weights Try.prog 43, n ≤ reachBytes := fun n hn => by
    have := List.all_eq_true.1 hsz n (DataW.weights_mem_each (j := 0) (t := 43) (d := d0) rfl rfl n hn)
    simpa using this
  obtain ⟨pi, pt, D, f, z, hcs, hs, hzf, hzs⟩ := open_come hf hz0 (show Rows.uptoBulk d0 ≤ 1048576 by omega)
  obtain ⟨cl⟩ := cs
  simp only [Value.cells] at hcs
  subst hcs
  have k1 := h1
  have lt1 : ∀ x ∈ p1, x.block < W.heap.size := by obtain ⟨m, hm⟩ := k1; exact DataW.trod_lt m _ _ _ hm
  obtain ⟨L, n, c, rfl⟩ := okWide_slice Try.underlying44 (hval 1 44 v1 rfl rfl)
  obtain ⟨fuel1, hf1⟩ := h1
  have hz1 : ∀ n ∈ d1.weights Try.prog 44, n ≤ reachBytes := fun n hn => by
    have := List.all_eq_true.1 hsz n (DataW.weights_mem_each (j := 1) (t := 44) (d := d1) rfl rfl n hn)
    simpa using this
  obtain ⟨L', n', c', ms, hcs, hml, hn, hms, hm14, hmok⟩ := open_msgs hf1 hz1 (show Rows.uptoBulk d1 ≤ 1048576 by omega)
  simp only [Value.cells, List.cons.injEq, Value.slice.injEq, and_true] at hcs
  obtain ⟨rfl, rfl, rfl⟩ := hcs
  have k2 := h2
  have lt2 : ∀ x ∈ p2, x.block < W.heap.size := by obtain ⟨m, hm⟩ := k2; exact DataW.trod_lt m _ _ _ hm
  obtain ⟨cs, rfl, _⟩ := okWide_struct Try.underlying25 (hval 2 25 v2 rfl rfl)
  obtain ⟨fuel2, hf2⟩ := h2
  have hz2 : ∀ n ∈ d2.weights Try.prog 25, n ≤ reachBytes := fun n hn => by
    have := List.all_eq_true.1 hsz n (DataW.weights_mem_each (j := 2) (t := 25) (d := d2) rfl rfl n hn)
    simpa using this
  obtain ⟨A, na, ca, l, B, mb, db, kk, hcs, hc, hna, hca, hmb, hdb⟩ := open_conf hf2 hz2
  obtain ⟨cl⟩ := cs
  simp only [Value.cells] at hcs
  subst hcs
  clear hA0 hval0 hsz0
  simp only [reachBytes] at hca hdb
  refine (lawTakes_any pi pt A B D L na ca mb db f n c l kk z ms W hs hzf hzs hms hm14 hmok hml hn hc (by omega) (by omega)).mono fun e W' ⟨he, bel⟩ => ?_
  subst he
  exact ⟨_, rfl, _, _, _, [], _, [], hW', trodAll_mk1 (shut_bool Try.underlying4 _), (trodAll_cons_mk (Below.trod laidOk (by kernel_rfl) (of_decide_eq_true (by kernel_rfl)) k0 bel lt0) (trodAll_cons_mk (Below.trod laidOk (by kernel_rfl) (of_decide_eq_true (by kernel_rfl)) k1 bel lt1) (trodAll_cons_mk (Below.trod laidOk (by kernel_rfl) (of_decide_eq_true (by kernel_rfl)) k2 bel lt2) trodAll_mk0))), rfl, bel.frame _, fun h => by cases h⟩

set_option maxRecDepth 100000 in
theorem takes_lifted (os : Os) (started : os.Started) (H : Type) (enc : TypeId × Value → H) (F : Stop.Interp) :
    ReturnsInHanded {} Try.checked os 4 .any ((Rows.OpenSpec.upto Rows.raftsnapTakesSpec).pre6 enc Try.prog Try.f4 Rows.raftsnapTakesUptoRow.domain false) (((Rows.OpenSpec.upto Rows.raftsnapTakesSpec).at F).post enc Try.prog Try.f4 false true false false) := by
  refine returnsInHanded_of_cond_sized (C := Try.checked) (s := Rows.OpenSpec.upto Rows.raftsnapTakesSpec) (k := Rows.uptoSmall) rfl ownKn started (by kernel_rfl) Try.func4
    (OpenSpec.witness (enc := enc) (C := Try.checked) (s := Rows.OpenSpec.upto Rows.raftsnapTakesSpec) (k := Rows.uptoSmall) rfl false ⟨#[], #[.agg #[.int .u64 0, .int .u64 0, .slice none 0 0], .slice none 0 0, .agg #[.slice none 0 0, .slice none 0 0]], []⟩ 8 (by kernel_rfl) (by kernel_rfl) (by kernel_rfl)
      (x := ([.agg [.lit (.int .u64 0), .lit (.int .u64 0), .nil], .nil, .agg [.nil, .nil]], [], [])) (by kernel_rfl) rfl (by kernel_rfl)) ?_
  intro W base args ds gs before hval hW _ hk hsz _
  exact takes_contract H enc W base args ds gs before hval hW hk hsz

/-- THE STATEMENT. -/
theorem takes_holds : Rows.RaftsnapTakesUptoSaid :=
  OpenClaim.holds_of_cond 4 Try.f4 rfl rfl rfl rfl rfl rfl rfl ⟨rfl, rfl, rfl, rfl, rfl⟩ rfl rfl rfl rfl rfl (by kernel_rfl) Try.func4 (by kernel_rfl)
    (of_decide_eq_true (by kernel_rfl)) (by unfold Func.isWrapper; first | (rw [if_pos (by decide +kernel)]; kernel_rfl) | (rw [if_neg (by decide +kernel)]; exact ⟨rfl, rfl⟩))
    (fun os started H enc _ F => takes_lifted os started H enc F)
end Go.Proofs.Ytmjohallhdcdnaa

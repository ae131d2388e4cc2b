/- The library's Delete, of one packet. -/
import Derived.Test.YtjihiohmemmabaaNAt
namespace Go.Gz
open Go.RowKit
theorem run_append_room_row {P : Program} (w : World) (t ty e : TypeId) (i : TypeInfo) (size : Nat) (ht : P.underlying t = some (.slice e)) (hi : P.info? e = some i) (hs : i.size = size) (g n cap : Nat) (cur : List Value) (tt : TypeId) (hg : w.heap[g]? = some (.cells cur.toArray tt (0, 0)))
    (a : Addr) (m c : Nat) (news : List Value) (hl : news.length = m * size) (hnews : ∀ j u, news[j]? = some u → w.cell? (a.add j) = some u) (h1 : ∀ u ∈ news, u.oneCell' = true) (hroom : n + m ≤ cap) (hcur : n * size + news.length ≤ cur.length) :
    (Builtin.append_ #[t, t] ty #[.slice (some ⟨g, 0, none⟩) n cap, .slice (some a) m c]).run P w = .ok (.slice (some ⟨g, 0, none⟩) (n + m) cap) (w.setRow g (cur.take (n * size) ++ news ++ cur.drop (n * size + news.length)).toArray) := by
  subst hs
  have hfc := run_firstCells_some (P := P) w i.size m a m c news hl hnews
  have hst := run_storeCells_at P g (n * i.size) tt news 0 cur.toArray w hg (by simpa using hcur) h1
  simp only [Nat.add_zero] at hst
  simp [Builtin.append_, run_underlying ht, sizeOf, typeInfo, hi, Builtin.lenOf, hroom, hfc, Addr.add_lit, hst]
theorem run_clear_row {P : Program} (w : World) (t e ty : TypeId) (z : Value) (ht : P.underlying t = some (.slice e)) (hz : (zeroValue e).run P w = .ok z w) (g off c : Nat) (cur : List Value) (tt : TypeId) (hg : w.heap[g]? = some (.cells cur.toArray tt (0, 0))) (hone : ∀ v ∈ z.cells.toList, v.oneCell' = true) (hcur : off + z.cells.size ≤ cur.length) :
    (Builtin.clear_ #[t] ty #[.slice (some ⟨g, off, none⟩) 1 c]).run P w = .ok (.tuple #[]) (w.setRow g (cur.take off ++ z.cells.toList ++ cur.drop (off + z.cells.size)).toArray) := by
  have hzc : (Builtin.zeroCells z.cells 1).toList = z.cells.toList := by
    simp [Builtin.zeroCells]
    apply List.ext_getElem
    · simp
    · intro i h1 h2
      simp at h1
      simp [Nat.mod_eq_of_lt h1]
      rw [getElem!_pos z.cells i h1]
  have hst := run_storeCells_at P g off tt z.cells.toList 0 cur.toArray w hg (by simpa using hcur) hone
  simp only [Nat.add_zero] at hst
  simp [Builtin.clear_, run_underlying ht, hz, hzc, hst]
theorem run_slice_full {P : Program} (t e : TypeId) (i : TypeInfo) (size : Nat) (ht : P.underlying t = some (.slice e)) (hi : P.info? e = some i) (hs : i.size = size) (kd kd' kd'' : IntKind) (A : Option Addr) (n c k m x : Nat) (hk : k ≤ m) (hm : m ≤ x) (hx : x ≤ c) (W : World) :
    (Instr.slice t (.slice A n c) (some (.int kd k)) (some (.int kd' m)) (some (.int kd'' x))).run P W = .ok (.slice (cutA A x k size) (m - k) (x - k)) W := by
  subst hs
  simp [Instr.slice, Instr.sliceBounds, Instr.sliceBound, asIntOf, run_underlying ht, sizeOf, typeInfo, hi, hk, hm, hx, cutA]
theorem step_append_run {P : Program} {w : World} {ops : Array Oper} {o : Oper} {a : Act} {K : Act → World → Prop} {Q : Exit → Act → World → Prop} {E : Prop} (dst : Option Tmp) (hd : o.dst = dst) (hgd : o.guard = none) (s x : Operand) (t : TypeId)
    (ho : o.op = .call { callee := .builtin .append, args := #[s, x], argTypes := #[t, t] }) (v1 v2 v : Value) (w' : World) (hs : a.eval s = v1) (hx : a.eval x = v2) (hrun : ∀ ty, (Builtin.append_ #[t, t] ty #[v1, v2]).run P w = .ok v w') (h : K (a.put dst v) w') :
    if Region.wanted o (yielded ops a.tmps) = true then Oper.wp P o a w K Q else E := by
  subst hd
  have hw : Region.wanted o (yielded ops a.tmps) = true := by simp [Region.wanted, hgd]
  rw [if_pos hw]
  unfold Oper.wp execOp
  simp only [ho, resolve, invoke, builtin, Sem.run_bind, Sem.run_pure, Result.andThen_ok, List.map_toArray, List.map_cons, List.map_nil, hs, hx, hrun]
  exact h
end Go.Gz
namespace Go.Proofs.Ytjihiohmemmabaa
open Go.RowKit Go.Gz
attribute [local go_sem] World.cell?_alloc_some frozen?_alloc_some

theorem grown_setRow (w : World) (g : Nat) (cs : Array Value) : w.grownBy (w.setRow g cs) (some g) := ⟨rfl, rfl, rfl, by simp, fun k _ hk => setRow_other w g k _ (fun e => hk (by rw [e]))⟩

set_option maxHeartbeats 1600000 in
theorem delete_any (w : World) (g c m r : Nat) (cells : List Value) (h : w.ownsRow 0 29 4 (.slice (some ⟨g, 0, none⟩) (m + 1 + r) c) (m + 1 + r) cells) (hone : ∀ v ∈ cells, v.oneCell' = true) (hn : m + 1 + r ≤ 140737488355328) :
    Calls Try.prog 27 #[.slice (some ⟨g, 0, none⟩) (m + 1 + r) c, .int .i64 m, .int .i64 ((m : Int) + 1)] w fun e w' => e = .returned (.slice (some ⟨g, 0, none⟩) (m + r) c) ∧ w.grownBy w' (some g) ∧ w'.heap.size = w.heap.size ∧
      w'.ownsRow 0 29 4 (.slice (some ⟨g, 0, none⟩) (m + r) c) (m + r) (cells.take (m * 4) ++ cells.drop ((m + 1) * 4)) := by
  obtain ⟨i0, hi, hz0, hz1, hz2⟩ := info_parts infoPkt
  have hsl := ownsRow_sl h
  obtain ⟨hcl, h2⟩ := h
  rcases h2 with ⟨hv, _⟩ | ⟨g', cap, cur, hv, _, hgg, hnc, hcm, hcs, htake⟩
  · cases hv
  injection hv with hv hv2 hv3
  injection hv with hv
  injection hv with hv
  subst hv hv3
  obtain ⟨cl, hcl0⟩ : ∃ cl : List Value, cur = cl.toArray := ⟨cur.toList, by simp⟩
  subst hcl0
  have hlen : cl.length = c * 4 := by simpa using hcs
  have htk : cl.take ((m + 1 + r) * 4) = cells := by simpa using htake
  have HGG := Lib.hid (show w.drew.heap[g]? = some (.cells cl.toArray 29 (0, 0)) from hgg)
  have HTK := Lib.hid htk
  have HCL := Lib.hid hcl
  have hcut := hsl.cut (c := c) (k := m + 1) (by omega) hnc
  obtain ⟨ad, had⟩ : ∃ ad, cutA (some ⟨g, 0, none⟩) c (m + 1) 4 = some ad := by unfold cutA; split <;> exact ⟨_, rfl⟩
  rw [had, show m + 1 + r - (m + 1) = r by omega] at hcut
  have hap : ∀ ty, (Builtin.append_ #[40, 40] ty #[.slice (some ⟨g, 0, none⟩) m c, .slice (some ad) r (c - (m + 1))]).run Try.prog w.drew = .ok (.slice (some ⟨g, 0, none⟩) (m + r) c) (w.drew.setRow g (cl.take (m * 4) ++ cells.drop ((m + 1) * 4) ++ cl.drop (m * 4 + (cells.drop ((m + 1) * 4)).length)).toArray) := fun ty =>
    run_append_room_row w.drew 40 ty 29 i0 4 Try.underlying40 hi hz1 g m c cl 29 hgg ad r (c - (m + 1)) (cells.drop ((m + 1) * 4)) hcut.1 (hcut.2.2 ad rfl) (fun v hv => hone v (List.mem_of_mem_drop hv)) (by omega) (by rw [hcut.1, hlen]; omega)
  have hnl : (cells.drop ((m + 1) * 4)).length = r * 4 := hcut.1
  obtain ⟨n1, hn1⟩ : ∃ n1, n1 = cl.take (m * 4) ++ cells.drop ((m + 1) * 4) ++ cl.drop (m * 4 + (cells.drop ((m + 1) * 4)).length) := ⟨_, rfl⟩
  rw [← hn1] at hap
  have hl1 : n1.length = c * 4 := by rw [hn1]; simp only [List.length_append, List.length_take, List.length_drop, hnl, hlen]; rw [← hnl, List.length_drop]; omega
  obtain ⟨w1, hw1⟩ : ∃ w1, w1 = w.drew.setRow g n1.toArray := ⟨_, rfl⟩
  have hg1 : w1.heap[g]? = some (.cells n1.toArray 29 (0, 0)) := by rw [hw1]; exact setRow_heap _ _ _ _ _ _ hgg
  have hgr1 : w.grownBy w1 (some g) := by rw [hw1]; exact ⟨rfl, rfl, rfl, by simp, fun k _ hk => setRow_other w.drew g k _ (fun e => hk (by rw [e]))⟩
  have hz1' : w1.heap.size = w.heap.size := by rw [hw1]; simp
  rw [← hw1] at hap
  have hcr := fun ty x => run_clear_row (P := Try.prog) w1 40 29 ty (.agg #[.int .i64 0, .int .i64 0, .int .i64 0, .slice none 0 0]) Try.underlying40 (Try.zeroValue29 w1) g ((m + r) * 4) x n1 29 hg1 (by intro v hv; simp [Value.cells] at hv; rcases hv with rfl | rfl | rfl | rfl <;> rfl) (by rw [hl1]; simp [Value.cells]; omega)
  obtain ⟨n2, hn2⟩ : ∃ n2, n2 = n1.take ((m + r) * 4) ++ (Value.agg #[.int .i64 0, .int .i64 0, .int .i64 0, .slice none 0 0]).cells.toList ++ n1.drop ((m + r) * 4 + (Value.agg #[.int .i64 0, .int .i64 0, .int .i64 0, .slice none 0 0]).cells.size) := ⟨_, rfl⟩
  rw [← hn2] at hcr
  obtain ⟨w2, hw2⟩ : ∃ w2, w2 = w1.setRow g n2.toArray := ⟨_, rfl⟩
  rw [← hw2] at hcr
  have hg2 : w2.heap[g]? = some (.cells n2.toArray 29 (0, 0)) := by rw [hw2]; exact setRow_heap _ _ _ _ _ _ hg1
  have hgr2 : w1.grownBy w2 (some g) := by rw [hw2]; exact grown_setRow w1 g _
  have hz2' : w2.heap.size = w1.heap.size := by rw [hw2]; simp
  have hl2 : n2.length = c * 4 := by rw [hn2]; simp [Value.cells, hl1]; omega
  have hfin : w2.ownsRow 0 29 4 (.slice (some ⟨g, 0, none⟩) (m + r) c) (m + r) (cells.take (m * 4) ++ cells.drop ((m + 1) * 4)) := by
    have hlt : (cells.take (m * 4) ++ cells.drop ((m + 1) * 4)).length = (m + r) * 4 := by rw [List.length_append, hnl, List.length_take, hcl]; omega
    refine ⟨hlt, .inr ⟨g, c, n2.toArray, rfl, Nat.zero_le _, hg2, by omega, hcm, by simp [hl2], ?_⟩⟩
    have h5 : n1.take ((m + r) * 4) = cells.take (m * 4) ++ cells.drop ((m + 1) * 4) := by
      have h6 : cl.take (m * 4) = cells.take (m * 4) := by rw [← htk, List.take_take, Nat.min_eq_left (by omega)]
      rw [hn1, h6, ← hlt, List.take_left]
    rw [List.toList_toArray, hn2, List.append_assoc, List.take_append_of_le_length (by rw [h5, hlt]; exact Nat.le_refl _), h5, List.take_of_length_le (by rw [hlt]; exact Nat.le_refl _)]
  have HFIN := Lib.hid hfin
  have hs0 := run_slice_full (P := Try.prog) 40 29 i0 4 Try.underlying40 hi hz1 .i64 .i64 .i64 (some ⟨g, 0, none⟩) (m + 1 + r) c m (m + 1) (m + 1 + r) (by omega) (by omega) hnc
  have hs1 := run_slice_high (P := Try.prog) 40 29 i0 Try.underlying40 hi .i64 (some ⟨g, 0, none⟩) (m + 1 + r) c m (by omega)
  have hs2 := run_slice_low (P := Try.prog) 40 29 i0 4 Try.underlying40 hi hz1 .i64 (some ⟨g, 0, none⟩) (m + 1 + r) c (m + 1) (by omega)
  have hs3 := run_slice_low_high (P := Try.prog) 40 29 i0 4 Try.underlying40 hi hz1 .i64 .i64 (some ⟨g, 0, none⟩) (m + r) c (m + r) (m + 1 + r) (by omega) (by omega)
  rw [had, show m + 1 + r - (m + 1) = r by omega] at hs2
  have hc3 : cutA (some ⟨g, 0, none⟩) c (m + r) 4 = some ⟨g, (m + r) * 4, none⟩ := by unfold cutA; rw [if_neg (by omega)]; simp [Addr.add_lit]
  rw [hc3, show m + 1 + r - (m + r) = 1 by omega] at hs3
  simp only [Int.natCast_add, Int.cast_ofNat_Int] at hs0 hs2 hs3
  have e1 : ((m : Int) == (m : Int) + 1) = false := beq_eq_false_iff_ne.2 (by omega)
  clear hgg htake hcs hcl hsl hone hcm htk hcut had hn1 hw1 hn2 hw2 hg1 hg2 hl1 hl2 hfin hlen hnl hc3
  go_enter Try.func27, Try.ntmps27
  go_wp2_with fail
  refine wp_region_held_drew (S := fun _ => True) (by kernel_rfl) trivial (fun hS => ?_)
  simp only [List.size_toArray, List.length_cons, List.length_nil]
  refine take_at (i := 0) (oi := _) (dst := some 20) (v := ?_) rfl rfl (by kernel_rfl) (by kernel_rfl) (by kernel_rfl) (fun _ _ _ h => h) (Or.inl ⟨by rfl, by intro w hSw; (try dsimp only at hSw); go_simp; (try with_reducible rfl)⟩) (by assumption) ?_; (try simp only [Act.put, List.setIfInBounds_toArray, List.set_cons_zero, List.set_cons_succ])
  refine take_at (i := 1) (oi := _) (dst := some 21) (v := ?_) rfl rfl (by kernel_rfl) (by kernel_rfl) (by kernel_rfl) (fun _ _ _ h => h) (Or.inl ⟨by rfl, by intro w hSw; (try dsimp only at hSw); go_simp; (try with_reducible rfl)⟩) (by assumption) ?_; (try simp only [Act.put, List.setIfInBounds_toArray, List.set_cons_zero, List.set_cons_succ])
  refine take_at (i := 2) (oi := _) (dst := some 22) (v := ?_) rfl rfl (by kernel_rfl) (by kernel_rfl) (by kernel_rfl) (fun _ _ _ h => h) (Or.inl ⟨by rfl, by intro w hSw; (try dsimp only at hSw); go_simp; (try with_reducible rfl)⟩) (by assumption) ?_; (try simp only [Act.put, List.setIfInBounds_toArray, List.set_cons_zero, List.set_cons_succ])
  refine take_at (i := 3) (oi := _) (dst := some 23) (v := ?_) rfl rfl (by kernel_rfl) (by kernel_rfl) (by kernel_rfl) (fun _ _ _ h => h) (Or.inl ⟨by rfl, by intro w hSw; (try dsimp only at hSw); go_simp; (try with_reducible rfl)⟩) (by assumption) ?_; (try simp only [Act.put, List.setIfInBounds_toArray, List.set_cons_zero, List.set_cons_succ])
  refine take_at (i := 4) (oi := _) (dst := some 24) (v := ?_) rfl rfl (by kernel_rfl) (by kernel_rfl) (by kernel_rfl) (fun _ _ _ h => h) (Or.inl ⟨by rfl, by intro w hSw; (try dsimp only at hSw); go_simp; (try with_reducible rfl)⟩) (by assumption) ?_; (try simp only [Act.put, List.setIfInBounds_toArray, List.set_cons_zero, List.set_cons_succ])
  refine take_at (i := 5) (oi := _) (dst := some 25) (v := ?_) rfl rfl (by kernel_rfl) (by kernel_rfl) (by kernel_rfl) (fun _ _ _ h => h) (Or.inl ⟨by rfl, by intro w hSw; (try dsimp only at hSw); go_simp; (try with_reducible rfl)⟩) (by assumption) ?_; (try simp only [Act.put, List.setIfInBounds_toArray, List.set_cons_zero, List.set_cons_succ])
  refine wpAnyH_ready (rs := [6]) (by kernel_rfl) (by simp) ?_; refine AllReadyH.cons (o := _) rfl (fun K hK => ?_) AllReadyH.nil
  refine step_append_run (some 26) rfl rfl (.tmp 22) (.tmp 25) 40 rfl _ _ _ _ rfl rfl hap ?_
  refine hK.out _ _ trivial (fun _ => ?_)
  clear hK hap
  simp only [Act.put, List.setIfInBounds_toArray, List.set_cons_zero, List.set_cons_succ]
  refine take_at (i := 7) (oi := _) (dst := some 0) (v := ?_) rfl rfl (by kernel_rfl) (by kernel_rfl) (by kernel_rfl) (fun _ _ _ h => h) (Or.inl ⟨by rfl, by intro w hSw; (try dsimp only at hSw); go_simp; (try with_reducible rfl)⟩) (by assumption) ?_; (try simp only [Act.put, List.setIfInBounds_toArray, List.set_cons_zero, List.set_cons_succ])
  refine wpAnyH_done (by kernel_rfl) ?_ _
  go_wp2
  go_ret
  exact ⟨rfl, hgr1.trans hgr2, by omega, HFIN.out⟩
end Go.Proofs.Ytjihiohmemmabaa

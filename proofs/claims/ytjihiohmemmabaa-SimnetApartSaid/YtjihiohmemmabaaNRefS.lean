/- The document's net: Send. -/
import Derived.Test.YtjihiohmemmabaaNRefL
namespace Go.Proofs.Ytjihiohmemmabaa
open Go.RowKit Go.Gz
attribute [local go_sem] World.cell?_alloc_some frozen?_alloc_some

theorem same_cells {w w' : World} {row : Option Nat} {e : TypeId} (hg : w.grownBy w' row) (hr : ∀ b, row = some b → ∃ cur, w.heap[b]? = some (.cells cur e (0, 0))) : SameBut e w w' := fun b u cur hb hne => (hg.block b (Array.getElem?_eq_some_iff.1 hb).1 (fun eq => by
  obtain ⟨cur', hc⟩ := hr b eq.symm
  rw [hb] at hc
  injection hc with hc
  injection hc with _ hc
  exact hne hc)).trans hb
theorem blkT_same {w w' : World} {g : Nat} {t e : TypeId} {cs : List Value} (h : BlkT w g t cs) (hs : SameBut e w w') (hne : t ≠ e) : BlkT w' g t cs := hs g t _ h hne
theorem getD_set {l : List Value} {p q : Nat} {v : Value} (hp : p < l.length) : (l.set p v).getD q nilV = if p = q then v else l.getD q nilV := by
  simp only [List.getD_eq_getElem?_getD, List.getElem?_set]
  by_cases e : p = q
  · subst e; simp [hp]
  · simp [e]
theorem slot_ne {n p q : Nat} (h : ¬ p = q) : ¬ ((((p / n : Nat) : Int) + 1 = ((q / n : Nat) : Int) + 1) ∧ (((p % n : Nat) : Int) + 1 = ((q % n : Nat) : Int) + 1)) := fun e => by
  have h1 := Nat.div_add_mod p n
  have h2 := Nat.div_add_mod q n
  have e1 : p / n = q / n := by omega
  have e2 : p % n = q % n := by omega
  rw [e1, e2] at h1
  exact h (h1.symm.trans h2)
/-- A slot's slice set anew. -/
theorem ref_set {w5 w6 w7 : World} {G G' : Nat → Prop} {r B sd n p : Nat} {sl : List Value} {f : Int → Int → List Pkt} {S : Int → Bool} {v' : Value} {zs' : List (List Value × Pkt)} (h : RefAt w5 G r B sd sl n f S) (hp : p < n * n) (hGG : ∀ b, G b → G' b) (hG5 : ∀ b, G b → b < w5.heap.size) (hg6 : w5.grownBy w6 (sl.getD p nilV).ownBlock)
    (ho6 : w6.ownsRow 0 29 4 v' zs'.length (zs'.flatMap (·.1))) (hv' : ∀ q, v'.ownBlock = some q → G' q ∧ ((sl.getD p nilV).ownBlock = some q ∨ w5.heap.size ≤ q)) (hz6 : ∀ z ∈ zs', RdP w6 G' z.1 z.2) (hg7 : w6.grownBy w7 (some B)) (hB7 : BlkT w7 B 40 (sl.set p v')) :
    RefAt w7 G' r B sd (sl.set p v') n (updF f ((p / n : Nat) + 1) ((p % n : Nat) + 1) (zs'.map (·.2))) S := by
  obtain ⟨h1, h2, h3, h4, h5, h6, h7⟩ := h
  have s6 : SameBut 29 w5 w6 := same_cells hg6 (fun b e => by
    obtain ⟨_, _, q2, _⟩ := h6 p hp
    exact row_block q2 e)
  have hB6 := blkT_same h2 s6 (by decide)
  have s7 : SameBut 40 w6 w7 := same_of_cells hg7 hB6
  refine ⟨blkT_same (blkT_same h1 s6 (by decide)) s7 (by decide), hB7, blkT_same (blkT_same h3 s6 (by decide)) s7 (by decide), ⟨hGG _ h4.1, hGG _ h4.2.1, hGG _ h4.2.2⟩, by rw [List.length_set]; exact h5, fun q hq => ?_, fun q q' hq hq' hne => ?_⟩
  · rw [getD_set (by rw [h5]; exact hp)]
    unfold updF
    by_cases e : p = q
    · subst e
      rw [if_pos rfl, if_pos ⟨rfl, rfl⟩]
      exact ⟨zs', rfl, row_same ho6 s7 (by decide), fun g e => (hv' g e).1, fun z hz => (hz6 z hz).same s7 (by decide)⟩
    · rw [if_neg e, if_neg (slot_ne (fun e' => e e'.symm))]
      obtain ⟨zs, q1, q2, q3, q4⟩ := h6 q hq
      refine ⟨zs, q1, row_same (row_blocks q2 (fun g eg => hg6.block g (hG5 _ (q3 g eg)) (fun e' => ?_))) s7 (by decide), fun g eg => hGG _ (q3 g eg), fun z hz => (((q4 z hz).same s6 (by decide)).same s7 (by decide)).mono hGG⟩
      rcases h7 q p hq hp (fun e'' => e e''.symm) with h | h
      · rw [h] at eg; cases eg
      · exact h (by rw [eg, e'])
  · rw [getD_set (by rw [h5]; exact hp), getD_set (by rw [h5]; exact hp)]
    by_cases e : p = q
    · rw [if_pos e, if_neg (fun e' => hne (e.symm.trans e'))]
      cases hv : v'.ownBlock with
      | none => exact .inl rfl
      | some g =>
        refine .inr (fun e2 => ?_)
        rcases (hv' g hv).2 with h | h
        · rcases h7 p q' hp hq' (fun e' => hne (e.symm.trans e')) with h' | h'
          · rw [h'] at h; cases h
          · exact h' (h.trans e2)
        · obtain ⟨_, _, _, q3, _⟩ := h6 q' hq'
          have := hG5 g (q3 g e2.symm)
          omega
    · rw [if_neg e]
      by_cases e' : p = q'
      · rw [if_pos e']
        cases hv : (sl.getD q nilV).ownBlock with
        | none => exact .inl rfl
        | some g =>
          refine .inr (fun e2 => ?_)
          rcases (hv' g e2.symm).2 with h | h
          · rcases h7 q p hq hp (fun e'' => e e''.symm) with h' | h'
            · rw [hv] at h'; cases h'
            · exact h' (by rw [hv, h])
          · obtain ⟨_, _, _, q3, _⟩ := h6 q hq
            have := hG5 g (q3 g hv)
            omega
      · rw [if_neg e']
        exact h7 q q' hq hq' hne

theorem step_store_partT {P : Program} {w : World} {ops : Array Oper} {o : Oper} {a : Act} {K : Act → World → Prop} {Q : Exit → Act → World → Prop} {E : Prop} (hgd : o.guard = none) (hd : o.dst = none) (ty : TypeId) (x y : Operand) (ho : o.op = .store ty x y)
    (g j : Nat) (t : TypeId) (v : Value) (cs : List Value) (hx : a.eval x = .pointer (some ⟨g, j, none⟩)) (hy : a.eval y = v) (hv : v.cells = cs.toArray) (olds : List Value) (hb : BlkT w g t olds) (hl : j + cs.length ≤ olds.length)
    (hi : (P.info? ty).map (·.size) = some cs.length) (h1' : cs.all (fun v => v.oneCell') = true) (news : List Value) (hn : olds.take j ++ cs ++ olds.drop (j + cs.length) = news)
    (h : ∀ w', BlkT w' g t news → w.grownBy w' (some g) → w'.heap.size = w.heap.size → K (a.put none undef) w') :
    if Region.wanted o (yielded ops a.tmps) = true then Oper.wp P o a w K Q else E := by
  have hw : Region.wanted o (yielded ops a.tmps) = true := by simp [Region.wanted, hgd]
  rw [if_pos hw]
  have hst := run_storeCells_at P g j t cs 0 olds.toArray w hb (by simpa using hl) (fun v hv => List.all_eq_true.1 h1' v hv)
  rw [Nat.add_zero, hn] at hst
  have hrun : (storeVar ty ⟨g, j, none⟩ v).run P w = .ok () (w.setRow g news.toArray) := by
    cases hq : P.info? ty with
    | none => simp [hq] at hi
    | some i => simp [storeVar, Go.sizeOf, typeInfo, hq, hv, show cs.length = i.size by simp [hq] at hi; omega, hst]
  unfold Oper.wp execOp
  simp only [ho, hx, hy, Instr.storeAt, Instr.sureAddr, Sem.run_bind, Sem.run_pure, Result.andThen_ok, hrun]
  show K (a.put o.dst undef) _
  rw [hd]
  exact h _ (setRow_heap w g _ _ t _ hb) ⟨rfl, rfl, rfl, by simp, fun k _ hk => setRow_other w g k _ (fun e => hk (by rw [e]))⟩ (by simp)
theorem list_set_take {l : List Value} {p : Nat} {v : Value} (hp : p < l.length) : l.take p ++ [v] ++ l.drop (p + [v].length) = l.set p v := by
  rw [List.set_eq_take_append_cons_drop, if_pos hp]
  simp
def RSendIs (w w' : World) (G : Nat → Prop) (r n : Nat) (f : Int → Int → List Pkt) (S : Int → Bool) (x : Pkt) (e : Ending) : Prop := Beside G w w' ∧ ∃ f', SendF n f S x e f' ∧ RefIs w' (grow G w w') r n f' S
set_option maxHeartbeats 8000000 in
theorem rsend_any (w : World) (G : Nat → Prop) (r n : Nat) (f : Int → Int → List Pkt) (S : Int → Bool) (cs : List Value) (x : Pkt) (h : RefIs w G r n f S) (hG : ∀ b, G b → b < w.heap.size) (hn : n ≤ 7) (hx : IsP w cs x) (hxl : x.2.2.2.length ≤ 140737488355328) :
    Calls Try.prog 29 #[.pointer (some ⟨r, 0, none⟩), .agg cs.toArray] w fun e w' => RSendIs w w' G r n f S x e := by
  obtain ⟨i0, hi, hz0, hz1', hz2'⟩ := info_parts infoPkt
  have H := Lib.hid h
  clear h
  obtain ⟨D0, d0, rfl, hD⟩ := hx
  have HX := Lib.hid (show IsP w [.int .i64 x.1, .int .i64 x.2.1, .int .i64 x.2.2.1, .slice D0 x.2.2.2.length d0] x from ⟨D0, d0, rfl, hD⟩)
  clear hD
  go_enter Try.func29, Try.ntmps29
  go_wp2_with fail
  refine name_calls (fun w1 hw1 => ?_)
  have k3 : Blk w1 w.heap.size [.int .i64 x.1, .int .i64 x.2.1, .int .i64 x.2.2.1, .slice D0 x.2.2.2.length d0] := by rw [hw1]; exact Blk.new _ _ _ _ rfl
  have hb1 : Below w.heap.size w w1 := by rw [hw1]; exact (by (repeat first | refine Below.setCell ?_ (by first | omega | (dsimp only; omega) | (simp only [heap_drew, World.size_alloc, Gz.size_setCell]; omega)) _ | refine Below.alloc ?_ (by first | omega | (dsimp only; omega) | (simp only [heap_drew, World.size_alloc, Gz.size_setCell]; omega)) _ | refine Below.drew ?_); exact Below.refl _ _)
  clear hw1
  refine (link_any w1 G r n f S x.1 x.2.1 (H.out.below hb1) hn).mono ?_
  rintro e w2 ⟨hb2, hlink⟩
  have k3 := k3.ext hb2
  have hb2 := hb1.trans (hb2.mono hb1.size)
  rcases hlink with ⟨hok, p, rfl, hp, ha, hb⟩ | ⟨hno, rfl⟩
  rotate_left 1
  · have HNO := Lib.hid hno
    clear hno
    go_wp2
    go_ret
    exact ⟨Beside.of_below hb2, f, .inl ⟨HNO.out, rfl, rfl⟩, (H.out.below hb2).mono (fun b hb => .inl hb)⟩
  have HOK := Lib.hid hok
  obtain ⟨B, sd, sl, hr⟩ := H.out
  have hr2 := hr.below hb2
  obtain ⟨kr, kB, ksd, hGs, hlen, hrows, hap⟩ := hr2
  obtain ⟨nn, hnn⟩ : ∃ nn, nn = n * n := ⟨_, rfl⟩
  have hnn49 : n * n ≤ 49 := Nat.mul_le_mul hn hn
  have HP := Lib.hid hp
  rw [← hnn] at kr hp hlen hnn49
  have q3 : (p : Int) < (nn : Int) := by omega
  have HNN := Lib.hid hnn
  clear hnn
  obtain ⟨i, hi1⟩ : ∃ i : Nat, x.1 - 1 = i := ⟨(x.1 - 1).toNat, by have := hok.1.1; omega⟩
  obtain ⟨j, hj1⟩ : ∃ j : Nat, x.2.1 - 1 = j := ⟨(x.2.1 - 1).toNat, by have := hok.2.1.1; omega⟩
  have hin : i < n := by have := hok.1.2; omega
  have hjn : j < n := by have := hok.2.1.2; omega
  have cs1 := (ksd.blk.cell i).trans (sides_at S hin)
  have cs2 := (ksd.blk.cell j).trans (sides_at S hjn)
  rw [show ((i : Int) + 1) = x.1 by omega] at cs1
  rw [show ((j : Int) + 1) = x.2.1 by omega] at cs2
  obtain ⟨b1, hb1'⟩ : ∃ b1, b1 = S x.1 := ⟨_, rfl⟩
  obtain ⟨b2, hb2'⟩ : ∃ b2, b2 = S x.2.1 := ⟨_, rfl⟩
  rw [← hb1'] at cs1
  rw [← hb2'] at cs2
  have HB1 := Lib.hid hb1'
  have HB2 := Lib.hid hb2'
  have cr := kr.blk.cell
  have c3 := k3.cell
  have hrow := hrows p HP.out
  rw [← ha, ← hb] at hrow
  obtain ⟨A, c, hsl⟩ := hrow.slice
  obtain ⟨m, hm⟩ : ∃ m, m = (f x.1 x.2.1).length := ⟨_, rfl⟩
  rw [← hm] at hsl
  have HROW := Lib.hid hrow
  have HSL := Lib.hid hsl
  have HM := Lib.hid hm
  have cB : w2.cell? ⟨B, p, none⟩ = some (.slice A m c) := by
    rw [kB.blk.cell p, ← hsl]
    have : p < sl.length := by omega
    simp [this]
  have HR := Lib.hid hr
  have q1 : (i : Int) < (n : Int) := by omega
  have q2 : (j : Int) < (n : Int) := by omega
  have HA := Lib.hid ha
  have HB := Lib.hid hb
  clear hok hrows hap hb1' hb2' hr ha hb hrow hsl hm
  go_wp2_with fail
  go_quiet (fail)
  have hb3 := below_drewN hb2 nq
  by_cases hs : b1 = b2
  rotate_left 1
  · have HS := Lib.hid (show ¬ S x.1 = S x.2.1 from by rw [← HB1.out, ← HB2.out]; exact hs)
    have e1 : (!b1 == b2) = true := by rw [beq_eq_false_iff_ne.2 hs]; rfl
    rw [e1]
    clear hs e1
    go_wp2
    go_ret
    exact ⟨Beside.of_below hb3, f, .inr (.inl ⟨HOK.out, HS.out, rfl, rfl⟩), (H.out.below hb3).mono (fun b hb => .inl hb)⟩
  have HS := Lib.hid (show S x.1 = S x.2.1 from by rw [← HB1.out, ← HB2.out]; exact hs)
  have e1 : (!b1 == b2) = false := by rw [beq_iff_eq.2 hs]; rfl
  rw [e1]
  clear hs e1
  by_cases h64 : 64 ≤ m
  · have b64 : (64 : Int) ≤ (m : Int) := by omega
    go_wp2
    go_ret
    exact ⟨Beside.of_below hb3, f, .inr (.inr (.inl ⟨HOK.out, HS.out, by rw [← HM.out]; exact h64, rfl, rfl⟩)), (H.out.below hb3).mono (fun b hb => .inl hb)⟩
  have b64 : ¬ (64 : Int) ≤ (m : Int) := by omega
  go_wp2_with fail
  refine name_world (fun w3 hw3 => ?_)
  have hw23 : Below w2.heap.size w2 w3 := by rw [hw3]; exact below_drewN (Below.refl _ _) nq
  have hb3 : Below w.heap.size w w3 := by rw [hw3]; exact hb3
  clear hw3 cs1 cs2 cr c3 cB q1 q2 b64 hb1
  have kr := kr.below hw23
  have kB := kB.below hw23
  have k3 := k3.ext hw23
  have hBr : ¬ B = r := fun e => by
    subst e
    have h1 : w3.heap[B]? = some (.cells _ 72 (0, 0)) := kr
    have h2 : w3.heap[B]? = some (.cells _ 40 (0, 0)) := kB
    rw [h1] at h2
    injection h2 with h2
    injection h2 with _ h2
    exact absurd h2 (by decide)
  have hGr := hG r hGs.1
  have hGB := hG B hGs.2.1
  have mkS : ∀ W, BlkT W r 72 [.int .i64 n, .slice (some ⟨B, 0, none⟩) nn nn, .slice (some ⟨sd, 0, none⟩) n n] → BlkT W B 40 sl → Blk W w.heap.size [.int .i64 x.1, .int .i64 x.2.1, .int .i64 x.2.2.1, .slice D0 x.2.2.2.length d0] →
      (∀ q, W.cell? ⟨r, q, none⟩ = ([.int .i64 n, .slice (some ⟨B, 0, none⟩) nn nn, .slice (some ⟨sd, 0, none⟩) n n] : List Value)[q]?) ∧ W.cell? ⟨B, p, none⟩ = some (.slice A m c) ∧ ∀ q, W.cell? ⟨w.heap.size, q, none⟩ = ([.int .i64 x.1, .int .i64 x.2.1, .int .i64 x.2.2.1, .slice D0 x.2.2.2.length d0] : List Value)[q]? := fun W a b c => ⟨a.blk.cell, by
        rw [b.blk.cell p, ← HSL.out]
        have : p < sl.length := by omega
        simp [this], c.cell⟩
  have MKS := Lib.hid mkS
  clear mkS
  refine wp_region_phase 16 (S := fun W => (∀ q, W.cell? ⟨r, q, none⟩ = ([.int .i64 n, .slice (some ⟨B, 0, none⟩) nn nn, .slice (some ⟨sd, 0, none⟩) n n] : List Value)[q]?) ∧ W.cell? ⟨B, p, none⟩ = some (.slice A m c) ∧ ∀ q, W.cell? ⟨w.heap.size, q, none⟩ = ([.int .i64 x.1, .int .i64 x.2.1, .int .i64 x.2.2.1, .slice D0 x.2.2.2.length d0] : List Value)[q]?) (by kernel_rfl) rfl (by kernel_rfl) (fun hS => ?_) (MKS.out _ (blkT_drew kr) (blkT_drew kB) k3.drew)
  simp only [List.take_succ_cons, List.take_zero, List.drop_succ_cons, List.drop_zero]
  refine take_at (i := 0) (oi := _) (dst := some 49) (v := ?_) rfl rfl (by kernel_rfl) (by kernel_rfl) (by kernel_rfl) (fun _ _ _ h => h) (Or.inl ⟨by rfl, by intro w hSw; (try dsimp only at hSw); go_simp; (try with_reducible rfl)⟩) (by assumption) ?_; (try simp only [Act.put, List.setIfInBounds_toArray, List.set_cons_zero, List.set_cons_succ])
  refine take_at (i := 1) (oi := _) (dst := some 50) (v := ?_) rfl rfl (by kernel_rfl) (by kernel_rfl) (by kernel_rfl) (fun _ _ _ h => h) (Or.inl ⟨by rfl, by intro w hSw; (try dsimp only at hSw); go_simp; (try with_reducible rfl)⟩) (by assumption) ?_; (try simp only [Act.put, List.setIfInBounds_toArray, List.set_cons_zero, List.set_cons_succ])
  refine take_at (i := 2) (oi := _) (dst := some 51) (v := ?_) rfl rfl (by kernel_rfl) (by kernel_rfl) (by kernel_rfl) (fun _ _ _ h => h) (Or.inl ⟨by rfl, by intro w hSw; (try dsimp only at hSw); go_simp; (try with_reducible rfl)⟩) (by assumption) ?_; (try simp only [Act.put, List.setIfInBounds_toArray, List.set_cons_zero, List.set_cons_succ])
  refine take_at (i := 3) (oi := _) (dst := some 52) (v := ?_) rfl rfl (by kernel_rfl) (by kernel_rfl) (by kernel_rfl) (fun _ _ _ h => h) (Or.inl ⟨by rfl, by intro w hSw; (try dsimp only at hSw); go_simp; (try with_reducible rfl)⟩) (by assumption) ?_; (try simp only [Act.put, List.setIfInBounds_toArray, List.set_cons_zero, List.set_cons_succ])
  refine take_at (i := 4) (oi := _) (dst := some 53) (v := ?_) rfl rfl (by kernel_rfl) (by kernel_rfl) (by kernel_rfl) (fun _ _ _ h => h) (Or.inl ⟨by rfl, by intro w hSw; (try dsimp only at hSw); go_simp; (try with_reducible rfl)⟩) (by assumption) ?_; (try simp only [Act.put, List.setIfInBounds_toArray, List.set_cons_zero, List.set_cons_succ])
  refine take_at (i := 5) (oi := _) (dst := some 54) (v := ?_) rfl rfl (by kernel_rfl) (by kernel_rfl) (by kernel_rfl) (fun _ _ _ h => h) (Or.inl ⟨by rfl, by intro w hSw; (try dsimp only at hSw); go_simp; (try with_reducible rfl)⟩) (by assumption) ?_; (try simp only [Act.put, List.setIfInBounds_toArray, List.set_cons_zero, List.set_cons_succ])
  refine take_at (i := 6) (oi := _) (dst := some 55) (v := ?_) rfl rfl (by kernel_rfl) (by kernel_rfl) (by kernel_rfl) (fun _ _ _ h => h) (Or.inl ⟨by rfl, by intro w hSw; (try dsimp only at hSw); go_simp; (try with_reducible rfl)⟩) (by assumption) ?_; (try simp only [Act.put, List.setIfInBounds_toArray, List.set_cons_zero, List.set_cons_succ])
  refine take_at (i := 7) (oi := _) (dst := some 56) (v := ?_) rfl rfl (by kernel_rfl) (by kernel_rfl) (by kernel_rfl) (fun _ _ _ h => h) (Or.inl ⟨by rfl, by intro w hSw; (try dsimp only at hSw); go_simp; (try with_reducible rfl)⟩) (by assumption) ?_; (try simp only [Act.put, List.setIfInBounds_toArray, List.set_cons_zero, List.set_cons_succ])
  refine take_at (i := 8) (oi := _) (dst := some 57) (v := ?_) rfl rfl (by kernel_rfl) (by kernel_rfl) (by kernel_rfl) (fun _ _ _ h => h) (Or.inl ⟨by rfl, by intro w hSw; (try dsimp only at hSw); go_simp; (try with_reducible rfl)⟩) (by assumption) ?_; (try simp only [Act.put, List.setIfInBounds_toArray, List.set_cons_zero, List.set_cons_succ])
  refine take_at (i := 9) (oi := _) (dst := some 58) (v := ?_) rfl rfl (by kernel_rfl) (by kernel_rfl) (by kernel_rfl) (fun _ _ _ h => h) (Or.inl ⟨by rfl, by intro w hSw; (try dsimp only at hSw); go_simp; (try with_reducible rfl)⟩) (by assumption) ?_; (try simp only [Act.put, List.setIfInBounds_toArray, List.set_cons_zero, List.set_cons_succ])
  refine take_at (i := 10) (oi := _) (dst := some 59) (v := ?_) rfl rfl (by kernel_rfl) (by kernel_rfl) (by kernel_rfl) (fun _ _ _ h => h) (Or.inl ⟨by rfl, by intro w hSw; (try dsimp only at hSw); go_simp; (try with_reducible rfl)⟩) (by assumption) ?_; (try simp only [Act.put, List.setIfInBounds_toArray, List.set_cons_zero, List.set_cons_succ])
  refine take_at (i := 11) (oi := _) (dst := some 60) (v := ?_) rfl rfl (by kernel_rfl) (by kernel_rfl) (by kernel_rfl) (fun _ _ _ h => h) (Or.inl ⟨by rfl, by intro w hSw; (try dsimp only at hSw); go_simp; (try with_reducible rfl)⟩) (by assumption) ?_; (try simp only [Act.put, List.setIfInBounds_toArray, List.set_cons_zero, List.set_cons_succ])
  refine take_at (i := 12) (oi := _) (dst := some 61) (v := ?_) rfl rfl (by kernel_rfl) (by kernel_rfl) (by kernel_rfl) (fun _ _ _ h => h) (Or.inl ⟨by rfl, by intro w hSw; (try dsimp only at hSw); go_simp; (try with_reducible rfl)⟩) (by assumption) ?_; (try simp only [Act.put, List.setIfInBounds_toArray, List.set_cons_zero, List.set_cons_succ])
  refine wpAnyH_ready (rs := [13]) (by kernel_rfl) (by simp) ?_; refine AllReadyH.cons (o := _) rfl (fun K hK => ?_) AllReadyH.nil; go_simp
  refine (rcopied_any _ x _ (HX.out.below hb3.drew) hxl).mono ?_
  rintro e w4 ⟨hb4, cs', rfl, hx'⟩
  have hb4 := of_drew hb4
  have hz4 := hb4.size
  have hx' : RdP w4 (fun b => w3.heap.size ≤ b ∧ b < w4.heap.size) cs' x := hx'
  obtain ⟨D3, d3, rfl, hd3⟩ := hx'
  have HX3 := Lib.hid (show RdP w4 (fun b => w3.heap.size ≤ b ∧ b < w4.heap.size) [.int .i64 x.1, .int .i64 x.2.1, .int .i64 x.2.2.1, .slice D3 x.2.2.2.length d3] x from ⟨D3, d3, rfl, hd3⟩)
  have kr := kr.below hb4
  have kB := kB.below hb4
  have k3 := k3.ext hb4
  have hbw4 := hb3.trans (hb4.mono hb3.size)
  refine hK.out _ _ (MKS.out _ kr kB k3) (fun hS3 => ?_)
  clear hK hd3 hS
  refine wpAnyH_ready (rs := [14]) (by kernel_rfl) (by simp) ?_; refine AllReadyH.cons (o := _) rfl (fun K hK => ?_) AllReadyH.nil; go_simp
  have hb45 := below_alloc_one w4 (.cells #[.int .i64 x.1, .int .i64 x.2.1, .int .i64 x.2.2.1, .slice D3 x.2.2.2.length d3] 29)
  have k23 := Blk.new w4 29 [.int .i64 x.1, .int .i64 x.2.1, .int .i64 x.2.2.1, .slice D3 x.2.2.2.length d3] _ rfl
  have hz5 : (w4.alloc (.cells #[.int .i64 x.1, .int .i64 x.2.1, .int .i64 x.2.2.1, .slice D3 x.2.2.2.length d3] 29)).heap.size = w4.heap.size + 1 := by simp
  refine hK.out _ _ (MKS.out _ (kr.below hb45) (kB.below hb45) (k3.ext hb45)) (fun hS4 => ?_)
  clear hK hS3
  generalize w4.alloc (.cells #[.int .i64 x.1, .int .i64 x.2.1, .int .i64 x.2.2.1, .slice D3 x.2.2.2.length d3] 29) = w5 at hS4 hb45 k23 hz5 ⊢
  have kr := kr.below hb45
  have kB := kB.below hb45
  have k3 := k3.ext hb45
  have hbw5 := hbw4.trans (hb45.mono hbw4.size)
  have HR5 := Lib.hid (HR.out.below hbw5)
  obtain ⟨zs, q1, q2, q3', q4⟩ := HR5.out.2.2.2.2.2.1 p HP.out
  have hzl : zs.length = m := by
    have h1 : zs.length = (f ((p / n : Nat) + 1) ((p % n : Nat) + 1)).length := by rw [← q1, List.length_map]
    rw [h1, HM.out, HA.out, HB.out]
  have Q1 := Lib.hid q1
  have Q3 := Lib.hid q3'
  have Q4 := Lib.hid q4
  rw [hzl, HSL.out] at q2
  have hrF : ∀ q, (Value.slice A m c).ownBlock = some q → G q := fun q e => Q3.out q (by rw [HSL.out]; exact e)
  have hs6 : ∀ w6, w5.grownBy w6 (Value.slice A m c).ownBlock → SameBut 29 w5 w6 := fun w6 hg => same_cells hg (fun b e => row_block q2 e)
  have HRF := Lib.hid hrF
  have HS6 := Lib.hid hs6
  clear q1 q3' q4 hrF hs6
  refine wpAnyH_ready (rs := [15]) (by kernel_rfl) (by simp) ?_; refine AllReadyH.cons (o := _) rfl (fun K hK => ?_) AllReadyH.nil
  refine step_append_at (some 64) rfl rfl (.tmp 60) (.tmp 63) 40 rfl 29 i0 _ 4 48 Try.underlying40 hi hz0 hz1' hz2' rfl (by omega) A m c (zs.flatMap (·.1)) rfl q2 ⟨w4.heap.size, 0, none⟩ 1 1 [.int .i64 x.1, .int .i64 x.2.1, .int .i64 x.2.2.1, .slice D3 x.2.2.2.length d3] rfl (blk_sl k23 rfl) HX3.out.one (by omega) (by omega) ?_
  intro A6 c6 w6 ho6 hg6 hv6
  have s6 := HS6.out w6 hg6
  have kr := blkT_same kr s6 (by decide)
  have kB := blkT_same kB s6 (by decide)
  have k3 := k3.grown hg6 (fun e => by have := hG _ (HRF.out _ e.symm); omega)
  refine hK.out _ _ (MKS.out _ kr kB k3) (fun hS6 => ?_)
  clear hK hS4
  refine wpAnyH_done (by kernel_rfl) ?_ _
  go_wp2_with (with_reducible refine stop_store ?_)
  refine hide (wpList_store_partT rfl 40 (.tmp 65) (.tmp 64) rfl B p 40 _ [.slice A6 (m + 1) c6] rfl rfl rfl sl kB (by simp; omega) (by kernel_rfl) rfl _ (list_set_take (by omega)) ?_)
  intro w7 kB7 hg7 hz7
  clear hS6
  go_wp2
  go_ret
  have hz6 := hg6.size
  have hwz := hbw5.size
  have hGG : ∀ b, G b → grow G w w7 b := fun b hb => .inl hb
  have hbes : Beside G w w7 := by
    refine (Beside.of_below hbw5).trans ((Beside.of_grown hg6 (fun q e => ?_)).trans (Beside.of_grown hg7 (fun q e => ?_)))
    · exact .inl (.inl (HRF.out q e))
    · injection e with e
      subst e
      exact .inl (.inl (.inl hGs.2.1))
  have hset := ref_set (w6 := w6) (w7 := w7) (G' := grow G w w7) (v' := .slice A6 (m + 1) c6) (zs' := zs ++ [([.int .i64 x.1, .int .i64 x.2.1, .int .i64 x.2.2.1, .slice D3 x.2.2.2.length d3], x)]) HR5.out HP.out hGG (fun b hb => Nat.lt_of_lt_of_le (hG b hb) hwz) (by rw [HSL.out]; exact hg6) (by simpa [hzl] using ho6) (fun q e => ?_) (fun z hz => ?_) hg7 kB7
  · refine ⟨hbes, _, .inr (.inr (.inr ⟨HOK.out, HS.out, by rw [← HM.out]; omega, rfl, ?_⟩)), B, sd, _, hset⟩
    rw [List.map_append, Q1.out, HA.out, HB.out]
    rfl
  · rw [HSL.out]
    rcases hv6 with h | h
    · rw [h] at e
      exact ⟨.inl (HRF.out q e), .inl e⟩
    · have h2 := ho6.lt _ h
      rw [h] at e
      injection e with e
      subst e
      exact ⟨.inr ⟨hwz, by omega⟩, .inr (Nat.le_refl _)⟩
  · have s6 := HS6.out w6 hg6
    rcases List.mem_append.1 hz with hz | hz
    · exact ((Q4.out z hz).same s6 (by decide)).mono hGG
    · simp only [List.mem_singleton] at hz
      subst hz
      refine ((HX3.out.grown (Spared.of_below hb45)).same s6 (by decide)).mono (fun b hb => .inr ⟨?_, ?_⟩)
      · have := hb3.size; omega
      · omega
end Go.Proofs.Ytjihiohmemmabaa

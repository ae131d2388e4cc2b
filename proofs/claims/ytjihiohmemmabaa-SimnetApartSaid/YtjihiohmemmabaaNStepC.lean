/- A step: Bag. -/
import Derived.Test.YtjihiohmemmabaaNStepA
namespace Go.Proofs.Ytjihiohmemmabaa
open Go.RowKit Go.Gz
attribute [local go_sem] World.cell?_alloc_some frozen?_alloc_some

section
variable {w0 w wr w' : World} {F0 : Nat → Prop} {g r n N : Nat} {f f2 : Bags} {S S2 : Sides} {ks : List (Nat × TypeId × List Value)} {a b : Int}
theorem ts_bag1 (h : TS w0 w wr F0 g r n N f S f2 S2 ks) (hs : Sane n f) (hn : n ≤ 7) :
    Calls Try.prog 18 #[.pointer (some ⟨g, 0, none⟩), .int .i64 a, .int .i64 b] wr fun e w' => BagIs wr w' n f a b e := by
  obtain ⟨h0, F, G, h1, _⟩ := h
  exact bag_any wr F g n N f S a b h1.net (by omega) hs.zero (Nat.le_trans (hs.2 a b).1 (by decide)) (hs.2 a b).2
theorem ts_bag2 (h : TS w0 w wr F0 g r n N f2 S2 f S ks) (hs : Sane n f) (hn : n ≤ 7) :
    Calls Try.prog 37 #[.pointer (some ⟨r, 0, none⟩), .int .i64 a, .int .i64 b] wr fun e w' => BagIs wr w' n f a b e := by
  obtain ⟨h0, F, G, h1, _⟩ := h
  exact rbag_any wr G r n f S a b h1.ref hn (Nat.le_trans (hs.2 a b).1 (by decide)) (hs.2 a b).2
theorem ts_len1 (h : TS w0 w wr F0 g r n N f S f2 S2 ks) (hs : Sane n f) :
    Calls Try.prog 12 #[.pointer (some ⟨g, 0, none⟩)] wr fun e w' => e = .returned (.int .i64 ((total fun i j => (f i j).length : Nat) : Int)) ∧ Below wr.heap.size wr w' := by
  obtain ⟨h0, F, G, h1, _⟩ := h
  exact len_any wr F g n N f S h1.net (fun i j _ _ => Nat.le_trans (hs.2 i j).1 (by decide))
theorem ts_len2 (h : TS w0 w wr F0 g r n N f2 S2 f S ks) (hs : Sane n f) (h1 : 1 ≤ n) (hn : n ≤ 7) :
    Calls Try.prog 38 #[.pointer (some ⟨r, 0, none⟩)] wr fun e w' => e = .returned (.int .i64 ((total fun i j => (f i j).length : Nat) : Int)) ∧ Below wr.heap.size wr w' := by
  obtain ⟨h0, F, G, h2, _⟩ := h
  exact rlen_any wr G r n f S h2.ref h1 hn hs
end

/-- Bytes, whatever they are. -/
def Bytes (cl : List Value) (m : Nat) : Prop := ∀ j, j < m → ∃ v : Int, cl[j]? = some (.int .u8 v)
theorem Bytes.set {cl : List Value} {m : Nat} (h : Bytes cl m) (j : Nat) (u : Int) : Bytes (cl.set j (.int .u8 u)) m := fun i hi => by
  obtain ⟨v, hv⟩ := h i hi
  by_cases e : j = i
  · subst e
    exact ⟨u, by rw [List.getElem?_set]; simp [(List.getElem?_eq_some_iff.1 hv).1]⟩
  · exact ⟨v, by rw [List.getElem?_set_ne e]; exact hv⟩
/-- A packet in own memory whose bytes may be turned. -/
def LooseP (w : World) (base : Nat) (cs : List Value) : Prop := ∃ (i t k : Int) (m : Nat) (D : Option Addr) (dc : Nat), cs = [.int .i64 i, .int .i64 t, .int .i64 k, .slice D m dc] ∧ m ≤ 9223372036854775807 ∧ (m = 0 ∨ ∃ q cl, D = some ⟨q, 0, none⟩ ∧ base ≤ q ∧ BlkT w q 5 cl ∧ Bytes cl m)
theorem LooseP.of {w : World} {base : Nat} {cs : List Value} {x : Pkt} (h : RdP w (fun b => base ≤ b) cs x) : LooseP w base cs := by
  obtain ⟨D, c, rfl, hd⟩ := h
  refine ⟨_, _, _, _, D, c, rfl, ?_⟩
  rcases hd with ⟨h0, _⟩ | ⟨h1, h2⟩
  · exact ⟨by omega, .inl h0⟩
  · rcases h1.2 with ⟨_, h0⟩ | ⟨g, cap, cur, hv, _, hgg, hnc, hcm, hcs, htake⟩
    · exact ⟨by omega, .inl h0⟩
    · injection hv with hv _ _
      refine ⟨by simp only [maxLen] at hcm; omega, .inr ⟨g, cur.toList, hv, h2 _ hv, ?_, fun j hj => ?_⟩⟩
      · show w.heap[g]? = _
        rw [hgg]
      · have h3 : (cur.toList.take (x.2.2.2.length * 1))[j]? = (nums .u8 x.2.2.2)[j]? := by rw [htake]
        rw [List.getElem?_take, if_pos (by omega)] at h3
        rw [h3]
        exact ⟨x.2.2.2[j], by simp [nums, hj]⟩
theorem LooseP.store {w w' : World} {base q j : Nat} {u : Int} {cl cs : List Value} (h : LooseP w base cs) (hq : BlkT w q 5 cl) (hg : w.grownBy w' (some q)) (hq' : BlkT w' q 5 (cl.set j (.int .u8 u))) : LooseP w' base cs := by
  obtain ⟨i, t, k, m, D, dc, rfl, hm, h⟩ := h
  refine ⟨i, t, k, m, D, dc, rfl, hm, h.imp id ?_⟩
  rintro ⟨p, cl2, h1, h2, h3, h4⟩
  by_cases e : p = q
  · subst e
    have e2 : cl2 = cl := by
      have a1 : w.heap[p]? = some (.cells cl2.toArray _ (0, 0)) := h3
      have a2 : w.heap[p]? = some (.cells cl.toArray _ (0, 0)) := hq
      rw [a1] at a2
      simp only [Option.some.injEq, Obj.cells.injEq, and_true] at a2
      simpa using a2
    subst e2
    exact ⟨p, _, h1, h2, hq', h4.set j u⟩
  · exact ⟨p, cl2, h1, h2, (hg.block p h3.lt (fun e' => e (by injection e'))).trans h3, h4⟩
theorem LooseP.below {w w' : World} {base : Nat} {cs : List Value} (h : LooseP w base cs) (hb : Below w.heap.size w w') : LooseP w' base cs := by
  obtain ⟨i, t, k, m, D, dc, rfl, hm, h⟩ := h
  refine ⟨i, t, k, m, D, dc, rfl, hm, h.imp id ?_⟩
  rintro ⟨p, cl2, h1, h2, h3, h4⟩
  exact ⟨p, cl2, h1, h2, h3.below hb, h4⟩

set_option maxHeartbeats 8000000 in
set_option maxRecDepth 40000 in
theorem step_bag (w0 w : World) (F0 : Nat → Prop) (g r n N : Nat) (f : Bags) (S : Sides) (cs : List Value) (o : OpV) (ht : TS w0 w w F0 g r n N f S f S []) (hs : Sane n f) (hn : n ≤ 7) (hN0 : 17592186044416 ≤ N) (hN : N < maxLen) (ho : IsO w0 cs o) (hgo : GoodO o) (hk : pickI o.1 9 = 8) :
    Calls Try.prog 21 #[.pointer (some ⟨g, 0, none⟩), .pointer (some ⟨r, 0, none⟩), .agg cs.toArray] w fun e w' => StepIs w0 w w' F0 g r n N f o e := by
  obtain ⟨D, dc, E0, ec, rfl, hD, hE, hdc⟩ := ho
  have HT := Lib.hid ht
  have HD := Lib.hid hD
  have HE := Lib.hid hE
  have HGO := Lib.hid hgo
  have hc0 := hgo.call.1
  have hc1 := hgo.call.2
  have HS := Lib.hid hs
  have HKK := Lib.hid hk
  clear ht hD hE hs hgo
  go_enter Try.func21, Try.ntmps21
  go_wp2_with fail
  refine name_calls (fun w1 hw1 => ?_)
  have hb1 : Below w.heap.size w w1 := by rw [hw1]; exact below_alloc_one _ _
  have kb : BlkT w1 w.heap.size 42 [.int .i64 o.1, .int .i64 o.2.1, .int .i64 o.2.2.1, .int .i64 o.2.2.2.1, .int .i64 o.2.2.2.2.1, .slice D o.2.2.2.2.2.1.length dc, .slice E0 o.2.2.2.2.2.2.length ec] := by rw [hw1]; exact BlkT.new _ _ _
  clear hw1
  have HT1 := Lib.hid (HT.out.new hb1 kb (Nat.le_refl _))
  refine (pick_any o.1 9 w1 (by decide) (by decide) hc0 hc1).mono ?_
  rintro e w1' ⟨rfl, hw1'⟩
  rw [hw1', hk]
  clear hw1' w1' hk hc0 hc1 hb1
  have c5 := kb.blk.cell
  go_wp2_with fail
  refine (ts_bag1 HT1.out HS.out hn).mono ?_
  rintro e w2 ⟨hb2, A, c, E, xs, rfl, hl, hA, hc⟩
  have HT2 := Lib.hid (HT1.out.below hb2)
  have HL := Lib.hid hl
  have HC := Lib.hid hc
  have c5 := (kb.below hb2).blk.cell
  clear hl hc
  go_wp2_with fail
  refine (ts_bag2 HT2.out HS.out hn).mono ?_
  rintro e w3 ⟨hb3, A', c', E', xs', rfl, hl', hA', hc'⟩
  obtain ⟨rfl, rfl⟩ : E' = E ∧ xs' = xs := by
    rcases HC.out with ⟨h1, h2, h3⟩ | ⟨h1, h2, h3⟩ <;> rcases hc' with ⟨g1, g2, g3⟩ | ⟨g1, g2, g3⟩
    · exact ⟨g2.trans h2.symm, g3.trans h3.symm⟩
    · exact absurd h1 g1
    · exact absurd g1 h1
    · exact ⟨g2.trans h2.symm, g3.trans h3.symm⟩
  have hxl : xs'.length ≤ 140737488355328 := by
    rcases hc' with ⟨_, _, h⟩ | ⟨_, _, h⟩
    · rw [h]; exact Nat.le_trans (HS.out.2 _ _).1 (by decide)
    · rw [h]; simp
  have HL2 := Lib.hid hl'
  have HL1 := Lib.hid (HL.out.below hb3)
  have hb13 := hb2.trans (hb3.mono hb2.size)
  clear hl' hc' c5 hb2 hb3 HC
  go_wp2_with fail
  refine (same_any A A' xs'.length c xs'.length c' xs' xs' w3 HL1.out.is HL2.out.is hxl).mono ?_
  rintro e w4 ⟨rfl, hb4⟩
  rw [decide_eq_true rfl]
  have hb14 := hb13.trans (hb4.mono hb13.size)
  obtain ⟨zs, z1, z2, z3, z4⟩ := HL1.out.below hb4
  obtain ⟨m, hm⟩ : ∃ m, m = xs'.length := ⟨_, rfl⟩
  rw [← hm] at z2 z3 hxl ⊢
  have HZ0 := Lib.hid (show Gz.Own w4 w1.heap.size 29 4 A m c (zs.flatMap (·.1)) ∧ ∀ z ∈ zs, LooseP w4 w1.heap.size z.1 from ⟨z3, fun z hz => LooseP.of (z4 z hz)⟩)
  have HZL := Lib.hid z2
  have HZ4 := Lib.hid (show ∀ z ∈ zs, z.1.length = 4 from fun z hz => (z4 z hz).len)
  have HB14 := Lib.hid hb14
  have eE : (E' == E') = true := by simp
  clear z1 z2 z3 z4 hm hb13 hb4 hb14 HL HL1 HL2 hA hA' kb
  go_wp2_with fail
  go_loopw [21] (fun s21 wr => ∃ i : Nat, s21 = .int .i64 i ∧ i ≤ m ∧ (Gz.Own wr w1.heap.size 29 4 A m c (zs.flatMap (·.1)) ∧ ∀ z ∈ zs, LooseP wr w1.heap.size z.1) ∧ Below w1.heap.size w1 wr) (fun s21 _ => (m - RowKit.intOf s21).toNat)
  case atStart => exact ⟨0, rfl, Nat.zero_le _, HZ0.out, HB14.out⟩
  case round =>
    clear HZ0 HB14
    obtain ⟨i, rfl, hi, hz, hb⟩ := hrel
    by_cases hlt : i < m
    · have q0 : (0 : Int) ≤ (i : Int) := by omega
      have q1 : (i : Int) < (m : Int) := by omega
      obtain ⟨ad, rfl⟩ : ∃ ad, A = some ad := by
        obtain ⟨ga, h, _⟩ := hz.1.addr (by omega)
        exact ⟨_, h⟩
      have hiz : i < zs.length := by rw [HZL.out]; exact hlt
      have hzi := hz.2 (zs[i]) (List.getElem_mem hiz)
      obtain ⟨x0, x1, x2, md, Dd, dd, hze, hmd, _⟩ := hzi
      have HZE := Lib.hid hze
      have HZ := Lib.hid hz
      have HB := Lib.hid hb
      clear hze hz hb
      go_wp2_with fail
      go_loopw [22] (fun s22 wx => ∃ j : Nat, s22 = .int .i64 j ∧ (j = 0 ∨ j ≤ md) ∧ (Gz.Own wx w1.heap.size 29 4 (some ad) m c (zs.flatMap (·.1)) ∧ ∀ z ∈ zs, LooseP wx w1.heap.size z.1) ∧ Below w1.heap.size w1 wx) (fun s22 _ => (md - RowKit.intOf s22).toNat)
      case atStart => exact ⟨0, rfl, .inl rfl, HZ.out, HB.out⟩
      case round =>
        clear HZ HB
        obtain ⟨j, rfl, hj, hz, hb⟩ := hrel
        have hj : j ≤ md := by omega
        have m3 : wr.cell? ⟨(ad.add (i * 4)).block, (ad.add (i * 4)).off + 3, none⟩ = some (.slice Dd md dd) := by
          rw [add_of _ (i * 4) 3 (by omega)]
          have h := flat_cell (fun z : List Value × Pkt => z.1) hz.1.sl HZ4.out hiz 3 (by omega)
          rw [HZE.out] at h
          exact h
        have hzi := hz.2 (zs[i]) (List.getElem_mem hiz)
        rw [HZE.out] at hzi
        obtain ⟨y0, y1, y2, md', Dd', dd', hye, _, hby⟩ := hzi
        simp only [List.cons.injEq, Value.slice.injEq, and_true] at hye
        obtain ⟨_, _, _, rfl, rfl, rfl⟩ := hye
        have HZ := Lib.hid hz
        have HB := Lib.hid hb
        by_cases hjm : j < md
        · have p0 : (0 : Int) ≤ (j : Int) := by omega
          have p1 : (j : Int) < (md : Int) := by omega
          rcases hby with h0 | ⟨q, cl, rfl, hq1, kq, hbt⟩
          · omega
          obtain ⟨v, hv⟩ := hbt j hjm
          have cq := kq.blk.cell j
          rw [hv] at cq
          have hjl := (List.getElem?_eq_some_iff.1 hv).1
          have KQ := Lib.hid kq
          clear hz hb hbt hv kq
          go_wp2_with (with_reducible refine stop_store ?_)
          refine hide (wpList_store_partT rfl 5 (.tmp 222) (.tmp 221) rfl q j 5 _ [.int .u8 (IntKind.u8.wrap (v + 1))] rfl rfl rfl cl KQ.out (by simp; omega) (by kernel_rfl) rfl _ (list_set_take hjl) ?_)
          intro w5 kq5 hg5 hz5
          have HZ5 := Lib.hid (show Gz.Own w5 w1.heap.size 29 4 (some ad) m c (zs.flatMap (·.1)) ∧ ∀ z ∈ zs, LooseP w5 w1.heap.size z.1 from ⟨HZ.out.1.sameBut (SameBut.of_blk KQ.out hg5) (by decide), fun z hz => (HZ.out.2 z hz).store KQ.out hg5 kq5⟩)
          have HB5 := Lib.hid (below_grown HB.out hg5 hq1 KQ.out.lt)
          clear kq5 hg5 hz5 cq m3
          go_wp2
          go_roundw
          case rel => exact ⟨j + 1, by go_num, .inr (by omega), HZ5.out, HB5.out⟩
          case measure => simp [RowKit.intOf]; omega
        · have p1 : ¬ (j : Int) < (md : Int) := by omega
          clear hz hb hby
          go_wp2
          go_roundw
          case rel => exact ⟨i + 1, by go_num, by omega, HZ.out, HB.out⟩
          case measure => simp [RowKit.intOf]; omega
    · obtain rfl : i = m := by omega
      have q1 : ¬ (i : Int) < (i : Int) := by omega
      have HB := Lib.hid hb
      clear hz hb
      go_wp2
      go_ret
      exact ⟨rfl, f, S, ((HT1.out.below HB.out).sub (fun z hz => by cases hz)).raise (by omega), HS.out, fun _ _ _ _ => rfl⟩
end Go.Proofs.Ytjihiohmemmabaa

/- A step answers true on both nets; do all bags read alike? -/
import Derived.Test.YtjihiohmemmabaaNStepD
import Derived.Test.YtjihiohmemmabaaNStepB
namespace Go.Proofs.Ytjihiohmemmabaa
open Go.RowKit Go.Gz
attribute [local go_sem] World.cell?_alloc_some frozen?_alloc_some

theorem pickI_nine (c : Int) : 0 ≤ pickI c 9 ∧ pickI c 9 ≤ 8 := by
  unfold pickI
  have h : 0 ≤ (if c < 0 then -(c + 1) else c) := by split <;> omega
  rw [Int.tmod_eq_emod_of_nonneg h]
  omega
theorem step_any (w0 w : World) (F0 : Nat → Prop) (g r n N : Nat) (f : Bags) (S : Sides) (cs : List Value) (o : OpV) (ht : TS w0 w w F0 g r n N f S f S []) (hs : Sane n f) (hn : n ≤ 7) (hN0 : 17592186044416 ≤ N) (hN : N < maxLen) (ho : IsO w0 cs o) (hgo : GoodO o) (hdl : o.2.2.2.2.2.1.length ≤ 140737488351232) :
    Calls Try.prog 21 #[.pointer (some ⟨g, 0, none⟩), .pointer (some ⟨r, 0, none⟩), .agg cs.toArray] w fun e w' => StepIs w0 w w' F0 g r n N f o e := by
  obtain ⟨h0, h8⟩ := pickI_nine o.1
  have h : pickI o.1 9 = 0 ∨ pickI o.1 9 = 1 ∨ pickI o.1 9 = 2 ∨ pickI o.1 9 = 3 ∨ pickI o.1 9 = 4 ∨ pickI o.1 9 = 5 ∨ pickI o.1 9 = 6 ∨ pickI o.1 9 = 7 ∨ pickI o.1 9 = 8 := by omega
  rcases h with h | h | h | h | h | h | h | h | h
  · exact step_send0 w0 w F0 g r n N f S cs o ht hs hn hN0 hN ho hgo hdl h
  · exact step_send1 w0 w F0 g r n N f S cs o ht hs hn hN0 hN ho hgo hdl h
  · exact step_deliver w0 w F0 g r n N f S cs o ht hs hn hN ho hgo h
  · exact step_drop w0 w F0 g r n N f S cs o ht hs hn hN0 hN ho hgo h
  · exact step_double w0 w F0 g r n N f S cs o ht hs hn hN0 hN ho hgo h
  · exact step_part w0 w F0 g r n N f S cs o ht hs hn hN0 hN ho hgo h
  · exact step_heal w0 w F0 g r n N f S cs o ht hs hn hN0 hN ho hgo h
  · exact step_lose w0 w F0 g r n N f S cs o ht hs hn hN0 hN ho hgo h
  · exact step_bag w0 w F0 g r n N f S cs o ht hs hn hN0 hN ho hgo h

theorem TS.nodes {w0 w wr : World} {F0 : Nat → Prop} {g r n N : Nat} {f f2 : Bags} {S S2 : Sides} {ks : List (Nat × TypeId × List Value)} (h : TS w0 w wr F0 g r n N f S f2 S2 ks) : wr.cell? ⟨r, 0, none⟩ = some (.int .i64 n) := by
  obtain ⟨_, F, G, h1, _⟩ := h
  obtain ⟨B, sd, sl, h2, _⟩ := h1.ref
  exact h2.blk.cell 0
set_option maxHeartbeats 4000000 in
theorem alike_any (w0 w : World) (F0 : Nat → Prop) (g r n N : Nat) (f : Bags) (S : Sides) (ht : TS w0 w w F0 g r n N f S f S []) (hs : Sane n f) (h1 : 1 ≤ n) (hn : n ≤ 7) :
    Calls Try.prog 22 #[.pointer (some ⟨g, 0, none⟩), .pointer (some ⟨r, 0, none⟩)] w fun e w' => e = .returned (.bool true) ∧ Below w.heap.size w w' := by
  have HT := Lib.hid ht
  have HS := Lib.hid hs
  clear ht hs
  go_enter Try.func22, Try.ntmps22
  go_wp2_with fail
  go_loopw [5] (fun s5 wr => ∃ i : Nat, s5 = .int .i64 i ∧ 1 ≤ i ∧ i ≤ n + 1 ∧ Below w.heap.size w wr) (fun s5 _ => (n + 1 - RowKit.intOf s5).toNat)
  case atStart => exact ⟨1, rfl, Nat.le_refl _, by omega, Below.refl _ _⟩
  case round =>
    obtain ⟨i, rfl, hi1, hi, hb⟩ := hrel
    have c0 := (HT.out.below hb).nodes
    have HB := Lib.hid hb
    clear hb
    by_cases hlt : i ≤ n
    · have q1 : (i : Int) ≤ (n : Int) := by omega
      go_wp2_with fail
      clear c0
      go_loopw [6] (fun s6 wx => ∃ j : Nat, s6 = .int .i64 j ∧ 1 ≤ j ∧ j ≤ n + 1 ∧ Below w.heap.size w wx) (fun s6 _ => (n + 1 - RowKit.intOf s6).toNat)
      case atStart => exact ⟨1, rfl, Nat.le_refl _, by omega, HB.out⟩
      case round =>
        clear HB
        obtain ⟨j, rfl, hj1, hj, hb⟩ := hrel
        have c0 := (HT.out.below hb).nodes
        have HB := Lib.hid hb
        clear hb
        by_cases hjt : j ≤ n
        · have q2 : (j : Int) ≤ (n : Int) := by omega
          go_wp2_with fail
          clear c0
          refine (ts_bag1 (HT.out.below HB.out) HS.out hn).mono ?_
          rintro e w2 ⟨hb2, A, c, E, xs, rfl, hl, hA, hc⟩
          have HT2 := Lib.hid ((HT.out.below HB.out).below hb2)
          have HL := Lib.hid hl
          have HC := Lib.hid hc
          clear hl hc hA
          go_wp2_with fail
          refine (ts_bag2 HT2.out HS.out hn).mono ?_
          rintro e w3 ⟨hb3, A', c', E', xs', rfl, hl', hA', hc'⟩
          obtain ⟨rfl, rfl⟩ : E' = E ∧ xs' = xs := by
            rcases HC.out with ⟨h1, h2, h3⟩ | ⟨h1, h2, h3⟩ <;> rcases hc' with ⟨g1, g2, g3⟩ | ⟨g1, g2, g3⟩
            · exact ⟨g2.trans h2.symm, g3.trans h3.symm⟩
            · exact absurd h1 g1
            · exact absurd g1 h1
            · exact ⟨g2.trans h2.symm, g3.trans h3.symm⟩
          have hxl : xs'.length ≤ 140737488355328 := by
            rcases hc' with ⟨_, _, h⟩ | ⟨_, _, h⟩
            · rw [h]; exact Nat.le_trans (HS.out.2 _ _).1 (by decide)
            · rw [h]; simp
          have HL2 := Lib.hid hl'
          have HL1 := Lib.hid (HL.out.below hb3)
          have HB3 := Lib.hid (HB.out.trans ((hb2.trans (hb3.mono hb2.size)).mono HB.out.size))
          clear hl' hc' hb2 hb3 HC hA'
          go_wp2_with fail
          refine (same_any A A' xs'.length c xs'.length c' xs' xs' w3 HL1.out.is HL2.out.is hxl).mono ?_
          rintro e w4 ⟨rfl, hb4⟩
          rw [decide_eq_true rfl]
          have HB4 := Lib.hid (HB3.out.trans (hb4.mono HB3.out.size))
          have eE : (E' != E') = false := by simp
          clear hb4
          go_wp2
          go_roundw
          case rel => exact ⟨j + 1, by go_num, by omega, by omega, HB4.out⟩
          case measure => simp [RowKit.intOf]; omega
        · have q2 : ¬ (j : Int) ≤ (n : Int) := by omega
          go_wp2
          go_roundw
          case rel => exact ⟨i + 1, by go_num, by omega, by omega, HB.out⟩
          case measure => simp [RowKit.intOf]; omega
    · have q1 : ¬ (i : Int) ≤ (n : Int) := by omega
      go_wp2_with fail
      clear c0
      refine (ts_len1 (HT.out.below HB.out) HS.out).mono ?_
      rintro e w2 ⟨rfl, hb2⟩
      have HT2 := Lib.hid ((HT.out.below HB.out).below hb2)
      have HB2 := Lib.hid (HB.out.trans (hb2.mono HB.out.size))
      obtain ⟨t, ht⟩ : ∃ t : Nat, t = total fun i j => (f i j).length := ⟨_, rfl⟩
      rw [← ht]
      have HTT := Lib.hid ht
      clear ht hb2
      go_wp2_with fail
      refine (ts_len2 HT2.out HS.out h1 hn).mono ?_
      rintro e w3 ⟨rfl, hb3⟩
      rw [← HTT.out]
      have HB3 := Lib.hid (HB2.out.trans (hb3.mono HB2.out.size))
      have eT : ((t : Int) == (t : Int)) = true := by simp
      clear hb3
      go_wp2
      go_ret
      exact ⟨rfl, HB3.out⟩
end Go.Proofs.Ytjihiohmemmabaa

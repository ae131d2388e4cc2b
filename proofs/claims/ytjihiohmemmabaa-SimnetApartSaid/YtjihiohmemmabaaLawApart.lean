/- SimnetApart: the law's walk. -/
import Derived.Test.YtjihiohmemmabaaLawPlays
namespace Go.Proofs.Ytjihiohmemmabaa
open Go.RowKit Go.Gz
attribute [local go_sem] World.cell?_alloc_some frozen?_alloc_some

theorem ownsRow_stay {w w' : World} {base size n b : Nat} {e : TypeId} {v : Value} {xs : List Value} (h : w.ownsRow b e size v n xs) (hb : ∀ g, v.ownBlock = some g → base ≤ g) (hs : ∀ g, base ≤ g → g < w.heap.size → w'.heap[g]? = w.heap[g]?) : w'.ownsRow b e size v n xs := by
  have hlt := h.lt
  refine ⟨h.1, ?_⟩
  rcases h.2 with hn | ⟨g, cap, cur, hv, hbg, hgg, rest⟩
  · exact .inl hn
  · have e1 : v.ownBlock = some g := by rw [hv]; rfl
    exact .inr ⟨g, cap, cur, hv, hbg, (hs g (hb g e1) (hlt g e1).2).trans hgg, rest⟩
theorem OwnL.stay {w w' : World} {base n c : Nat} {A : Option Addr} {xs : List Pkt} (h : OwnL w base A n c xs) (hs : ∀ g, base ≤ g → g < w.heap.size → w'.heap[g]? = w.heap[g]?) : OwnL w' base A n c xs := by
  obtain ⟨zs, h1, h2, h3, h4⟩ := h
  refine ⟨zs, h1, h2, h3.imp id (fun h => ownsRow_stay h (fun g e => (h.lt g e).1) hs), fun z hz => ?_⟩
  obtain ⟨D, dc, e, hd⟩ := h4 z hz
  refine ⟨D, dc, e, hd.imp id (fun ⟨q1, q2⟩ => ⟨ownsRow_stay q1 (fun g e => ?_) hs, q2⟩)⟩
  cases D with
  | none => cases e
  | some ad =>
    simp only [Value.ownBlock, Option.some.injEq] at e
    subst e
    exact q2 ad rfl
/-- A step, and a list of packets beside both nets. -/
theorem apart_step {w0 w : World} {F G : Nat → Prop} {g r n N base m c : Nat} {f : Bags} {S : Sides} {cs : List Value} {o : OpV} {A : Option Addr} {xs : List Pkt} (h : Two w0 w F G g r n N f S f S) (hs : Sane n f) (hn : n ≤ 7) (hN0 : 17592186044416 ≤ N) (hN : N < maxLen) (ho : IsO w0 cs o) (hgo : GoodO o) (hdl : o.2.2.2.2.2.1.length ≤ 140737488351232) (hl : OwnL w base A m c xs) (hF : ∀ b, F b → b < base) (hG : ∀ b, G b → b < base) :
    Calls Try.prog 21 #[.pointer (some ⟨g, 0, none⟩), .pointer (some ⟨r, 0, none⟩), .agg cs.toArray] w fun e w' => e = .returned (.bool true) ∧ OwnL w' base A m c xs ∧
      ∃ (F' G' : Nat → Prop) (f' : Bags) (S' : Sides), Two w0 w' F' G' g r n (N + 1) f' S' f' S' ∧ Sane n f' ∧ (¬ (5 ≤ pickI o.1 9 ∧ pickI o.1 9 ≤ 7) → ∀ p q, ¬ (o.2.1 = p ∧ o.2.2.1 = q) → f' p q = f p q) := by
  refine (step_any w0 w _ g r n N f S cs o (TS.start h) hs hn hN0 hN ho hgo hdl).mono ?_
  rintro e w' ⟨rfl, f', S', ⟨_, F', G', h2, hb, _⟩, hs', ht⟩
  exact ⟨rfl, hl.stay (fun b hb1 hb2 => hb.2.2.2.2 b hb2 (fun hh => by
    rcases hh with hh | hh
    · have := hF b hh; omega
    · have := hG b hh; omega)), F', G', f', S', h2, hs', ht⟩

set_option maxHeartbeats 8000000 in
set_option maxRecDepth 40000 in
theorem lawApart_any (O : Option Addr) (n c : Nat) (ops : List OpV) (cs : List Value) (o : OpV) (a b : Int) (w : World) (hos : IsOs w O n ops) (hg : ∀ o ∈ ops, GoodO o ∧ o.2.2.2.2.2.1.length ≤ 140737488351232) (hn : n ≤ 1599289640674) (ho : IsO w cs o) (hgo : GoodO o) (hdl : o.2.2.2.2.2.1.length ≤ 140737488351232) :
    Calls Try.prog 7 #[.slice O n c, .agg cs.toArray, .int .i64 a, .int .i64 b] w fun e w' => e = .returned (.bool true) ∧ Below w.heap.size w w' := by
  have HO := Lib.hid hos
  have HG := Lib.hid hg
  have HIO := Lib.hid ho
  have HGO := Lib.hid hgo
  have HDL := Lib.hid hdl
  have hc0 := hgo.call.1
  have hc1 := hgo.call.2
  obtain ⟨D, dc, E0, ec, rfl, hD, hE, hdc⟩ := ho
  clear hos hg hgo hdl hD hE hdc
  go_enter Try.func7, Try.ntmps7
  go_wp2_with fail
  refine name_calls (fun wa hwa => ?_)
  have hba : Below w.heap.size w wa := by rw [hwa]; exact below_alloc_one _ _
  have kb : BlkT wa w.heap.size 42 [.int .i64 o.1, .int .i64 o.2.1, .int .i64 o.2.2.1, .int .i64 o.2.2.2.1, .int .i64 o.2.2.2.2.1, .slice D o.2.2.2.2.2.1.length dc, .slice E0 o.2.2.2.2.2.2.length ec] := by rw [hwa]; exact BlkT.new _ _ _
  clear hwa
  refine (head_any wa).mono ?_
  rintro e w1 ⟨rfl, hb1⟩
  have KB := Lib.hid (show ∀ W, Below w1.heap.size w1 W → ∀ q, W.cell? ⟨w.heap.size, q, none⟩ = ([.int .i64 o.1, .int .i64 o.2.1, .int .i64 o.2.2.1, .int .i64 o.2.2.2.1, .int .i64 o.2.2.2.2.1, .slice D o.2.2.2.2.2.1.length dc, .slice E0 o.2.2.2.2.2.2.length ec] : List Value)[q]? from fun W hW => ((kb.below hb1).below hW).blk.cell)
  have hb1 := hba.trans (hb1.mono hba.size)
  clear kb hba
  go_wp2_with fail
  refine (new_any 4 w1).mono ?_
  rintro e w2 ⟨hb2, hnew⟩
  rcases hnew with ⟨hno, rfl⟩ | ⟨_, g, rfl, hnet⟩
  · exact absurd ⟨by decide, by decide⟩ hno
  have HN := Lib.hid hnet
  clear hnet
  go_wp2_with fail
  refine (rnew_any 4 w2).mono ?_
  rintro e w3 ⟨hb3, hnew⟩
  rcases hnew with ⟨hno, _⟩ | ⟨_, r, rfl, href⟩
  · exact absurd ⟨by decide, by decide⟩ hno
  have HPL := Lib.hid (PlayAt.start (n := 4) hb2 hb3 HN.out href)
  clear href hb2 hb3 HN
  go_wp2_with fail
  go_loopw [14] (fun s14 wr => ∃ i : Nat, s14 = .int .i64 i ∧ i ≤ n ∧ PlayAt w1 wr g r 4 i) (fun s14 _ => (n - RowKit.intOf s14).toNat)
  case atStart => exact ⟨0, rfl, Nat.zero_le _, HPL.out⟩
  case round =>
    clear HPL
    obtain ⟨i, rfl, hi, hpl⟩ := hrel
    have HPL := Lib.hid hpl
    have hbr := hpl.bel
    have hbw := hb1.trans (hbr.mono hb1.size)
    clear hpl
    by_cases hlt : i < n
    · have b0 : (0 : Int) ≤ (i : Int) := by omega
      have b1 : (i : Int) < (n : Int) := by omega
      obtain ⟨ad, rfl⟩ := HO.out.addr (by omega)
      obtain ⟨o2, D2, dc2, E2, ec2, hox, hO, hD, hE, m0, m1, m2, m3, m4, m5, m6⟩ := (HO.out.below hb1).at hlt
      have m0 := kc_below hbr m0
      have m1 := kc_below hbr m1
      have m2 := kc_below hbr m2
      have m3 := kc_below hbr m3
      have m4 := kc_below hbr m4
      have m5 := kc_below hbr m5
      have m6 := kc_below hbr m6
      have HG2 := Lib.hid (HG.out o2 (List.mem_of_getElem? hox))
      have HIO2 := Lib.hid hO
      clear hox hO hD hE
      go_wp2_with fail
      refine (play_step HPL.out (by decide) (by omega) HIO2.out HG2.out.1 HG2.out.2).mono ?_
      rintro e w4 ⟨rfl, hpl⟩
      have HPL4 := Lib.hid hpl
      clear hpl m0 m1 m2 m3 m4 m5 m6
      go_wp2
      go_roundw
      case rel => exact ⟨i + 1, by go_num, by omega, HPL4.out⟩
      case measure => simp [RowKit.intOf]; omega
    · obtain rfl : i = n := by omega
      have b1 : ¬ (i : Int) < (i : Int) := by omega
      obtain ⟨F, G, f, S, h1, hs⟩ := HPL.out
      have H1 := Lib.hid h1
      have HS := Lib.hid hs
      have c5 := KB.out wr hbr
      clear h1 hs
      go_wp2_with fail
      refine (pick_any o.1 9 wr (by decide) (by decide) hc0 hc1).mono ?_
      rintro e wr' ⟨rfl, hwr'⟩
      rw [hwr']
      clear hwr' wr'
      obtain ⟨kk, hkk⟩ : ∃ kk, kk = pickI o.1 9 := ⟨_, rfl⟩
      rw [← hkk]
      have HKK := Lib.hid hkk
      clear hkk hc0 hc1
      by_cases hk : 5 ≤ kk ∧ kk ≤ 7
      · have hk5 := hk.1
        have hk7 := hk.2
        clear hk
        go_wp2
        go_ret
        exact ⟨rfl, hbw⟩
      have hkc : (¬ 5 ≤ kk) ∨ (5 ≤ kk ∧ ¬ kk ≤ 7) := by omega
      have HKC := Lib.hid hk
      clear hk
      by_cases hab : o.2.1 = a ∧ o.2.2.1 = b
      · have ea : (o.2.1 == a) = true := beq_iff_eq.2 hab.1
        have eb : (o.2.2.1 == b) = true := beq_iff_eq.2 hab.2
        clear hab
        rcases hkc with hk5 | ⟨hk5, hk7⟩
        all_goals
          go_wp2
          go_ret
          exact ⟨rfl, hbw⟩
      have HAB := Lib.hid hab
      have hac : (o.2.1 == a) = false ∨ ((o.2.1 == a) = true ∧ (o.2.2.1 == b) = false) := by
        by_cases e : o.2.1 = a
        · exact .inr ⟨beq_iff_eq.2 e, beq_eq_false_iff_ne.2 (fun e' => hab ⟨e, e'⟩)⟩
        · exact .inl (beq_eq_false_iff_ne.2 e)
      clear hab
      rcases hkc with hk5 | ⟨hk5, hk7⟩ <;> rcases hac with ea | ⟨ea, eb⟩
      all_goals
        go_wp2_with fail
        refine (ts_bag1 (TS.start H1.out) HS.out (by decide)).mono ?_
        rintro e w5 ⟨hb5, A, c5', E, xs, rfl, hl, hA, hc⟩
        have HL := Lib.hid hl
        have HC := Lib.hid hc
        have H5 := Lib.hid (H1.out.below hb5)
        have c5 := KB.out w5 (hbr.trans (hb5.mono hbr.size))
        clear hl hc hA hb5
        go_wp2_with fail
        refine (apart_step H5.out HS.out (by decide) (by omega) (by simp only [maxLen]; omega) (HIO.out.below hb1) HGO.out HDL.out HL.out H1.out.flt H1.out.glt).mono ?_
        rintro e w6 ⟨rfl, hl6, F', G', f', S', h6, hs6, ht6⟩
        have HL6 := Lib.hid hl6
        have H6 := Lib.hid h6
        have HS6 := Lib.hid hs6
        have hff : f' a b = f a b := ht6 (by rw [← HKK.out]; exact HKC.out) a b HAB.out
        have HFF := Lib.hid hff
        clear hl6 h6 hs6 ht6 hff c5
        go_wp2_with fail
        refine (ts_bag1 (TS.start H6.out) HS6.out (by decide)).mono ?_
        rintro e w7 ⟨hb7, A', c', E', xs', rfl, hl', hA', hc'⟩
        obtain ⟨rfl, rfl⟩ : E' = E ∧ xs' = xs := by
          rw [HFF.out] at hc'
          rcases HC.out with ⟨h1, h2, h3⟩ | ⟨h1, h2, h3⟩ <;> rcases hc' with ⟨g1, g2, g3⟩ | ⟨g1, g2, g3⟩
          · exact ⟨g2.trans h2.symm, g3.trans h3.symm⟩
          · exact absurd h1 g1
          · exact absurd g1 h1
          · exact ⟨g2.trans h2.symm, g3.trans h3.symm⟩
        have hxl : xs'.length ≤ 140737488355328 := by
          rcases hc' with ⟨_, _, h⟩ | ⟨_, _, h⟩
          · rw [h]; exact Nat.le_trans (HS6.out.2 _ _).1 (by decide)
          · rw [h]; simp
        have HL2 := Lib.hid hl'
        have HL1 := Lib.hid (HL6.out.below hb7)
        have hb17 := H6.out.bel.trans (hb7.mono H6.out.bel.size)
        have HB7 := Lib.hid (hb1.trans (hb17.mono hb1.size))
        have eE : (E' == E') = true := by simp
        clear hl' hc' hA' hb7 hb17 HC
        go_wp2_with fail
        refine (same_any A A' xs'.length c5' xs'.length c' xs' xs' w7 HL1.out.is HL2.out.is hxl).mono ?_
        rintro e w8 ⟨rfl, hb8⟩
        rw [decide_eq_true rfl]
        have HB8 := Lib.hid (HB7.out.trans (hb8.mono HB7.out.size))
        clear hb8
        go_wp2
        go_ret
        exact ⟨rfl, HB8.out⟩
end Go.Proofs.Ytjihiohmemmabaa

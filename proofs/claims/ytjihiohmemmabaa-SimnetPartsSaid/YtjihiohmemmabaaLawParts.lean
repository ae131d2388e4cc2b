/- SimnetParts: the law's walk. -/
import Derived.Test.YtjihiohmemmabaaNPart
namespace Go.Proofs.Ytjihiohmemmabaa
open Go.RowKit Go.Gz
attribute [local go_sem] World.cell?_alloc_some frozen?_alloc_some

/-- The law's net of five nodes, and a block beside it. -/
def PA (w1 wr : World) (g q : Nat) (cs : List Value) (N : Nat) (f : Int → Int → List Pkt) (S : Int → Bool) : Prop := ∃ F : Nat → Prop, Live w1 wr F g 5 N f S ∧ Blk wr q cs ∧ ¬ F q
def oneBag (a b : Int) (l : List Pkt) : Int → Int → List Pkt := updF (fun _ _ => []) a b l
section
variable {w1 w w' : World} {g q N N' : Nat} {cs qc : List Value} {f f' : Int → Int → List Pkt} {S S' : Int → Bool} {F : Nat → Prop} {a b : Int} {l : List Pkt} {x : Pkt}
theorem PA.step (h : Live w1 w F g 5 N f S) (k : Blk w q cs) (hq : ¬ F q) (hb : Beside F w w') (hn : NetIs w' (grow F w w') g 5 N' f' S') : PA w1 w' g q cs N' f' S' :=
  ⟨grow F w w', h.step hb hn, hb.blk k hq, fun hh => hh.elim hq (fun hh => by have := k.lt; omega)⟩
theorem PA.below (h : PA w1 w g q cs N f S) (hb : Below w.heap.size w w') : PA w1 w' g q cs N f S := by
  obtain ⟨F, hl, k, hq⟩ := h
  exact ⟨F, hl.below hb, k.ext hb, hq⟩
theorem PA.blk (h : PA w1 w g q cs N f S) : Blk w q cs := by
  obtain ⟨_, _, k, _⟩ := h
  exact k
theorem PA.bel (h : PA w1 w g q cs N f S) : Below w1.heap.size w1 w := by
  obtain ⟨_, hl, _⟩ := h
  exact hl.2.2
theorem ok_small {n : Int} (h : okWay n a b) (hn : n ≤ 7) : Small a ∧ Small b := by
  obtain ⟨⟨h1, h2⟩, ⟨h3, h4⟩, _⟩ := h
  exact ⟨⟨by omega, by omega⟩, ⟨by omega, by omega⟩⟩
theorem pa_send (h : PA w1 w g q qc N (oneBag a b l) S) (hN : N < maxLen) (hx : IsP w cs x) (h1 : x.1 = a) (h2 : x.2.1 = b) (hok : okWay 5 a b) (hl : l.length < 64) (hxl : x.2.2.2.length ≤ 140737488355328) :
    Calls Try.prog 10 #[.pointer (some ⟨g, 0, none⟩), .agg cs.toArray] w fun e w' => e = .returned (.int .i64 0) ∧ PA w1 w' g q qc (N + 1) (oneBag a b (if S a = S b then l ++ [x] else l)) S := by
  obtain ⟨F, hl0, k, hq⟩ := h
  refine (send_any w F g 5 N _ _ cs x hl0.1 hl0.lt (by decide) hN hx hxl).mono ?_
  rintro e w' ⟨hbes, f', hsf, hnet⟩
  unfold SendF oneBag at hsf
  rw [h1, h2, updF_same] at hsf
  rcases hsf with ⟨hno, _⟩ | ⟨_, hs, rfl, rfl⟩ | ⟨_, _, hge, _⟩ | ⟨_, hs, hlt, rfl, rfl⟩
  · exact absurd hok hno
  · rw [if_neg hs]
    exact ⟨rfl, PA.step hl0 k hq hbes hnet⟩
  · omega
  · rw [if_pos hs]
    rw [updF_upd] at hnet
    exact ⟨rfl, PA.step hl0 k hq hbes hnet⟩
theorem pa_len (h : PA w1 w g q qc N (oneBag a b l) S) (hok : okWay 5 a b) (hl : l.length ≤ 64) :
    Calls Try.prog 12 #[.pointer (some ⟨g, 0, none⟩)] w fun e w' => e = .returned (.int .i64 l.length) ∧ PA w1 w' g q qc N (oneBag a b l) S := by
  have h0 := h
  obtain ⟨F, hl0, k, hq⟩ := h
  refine (len_any w F g 5 N _ _ hl0.1 (fun i j _ _ => by unfold oneBag updF; dsimp only; by_cases hij : i = a ∧ j = b <;> simp [hij] <;> omega)).mono ?_
  rintro e w' ⟨rfl, hb⟩
  unfold oneBag
  rw [total_upd (ok_small hok (by decide)).1 (ok_small hok (by decide)).2]
  exact ⟨rfl, h0.below hb⟩
theorem pa_part {A : Option Addr} {n c : Nat} {sd : List Int} (h : PA w1 w g q qc N f S) (hs : SlA w 1 A n (nums .i64 sd)) (hnl : n ≤ 140737488355328) :
    Calls Try.prog 14 #[.pointer (some ⟨g, 0, none⟩), .slice A n c] w fun e w' => ∃ (E : Int) (S' : Int → Bool), e = .returned (.int .i64 E) ∧ PartF 5 S sd E S' ∧ PA w1 w' g q qc (max N sd.length) f S' := by
  obtain ⟨F, hl0, k, hq⟩ := h
  refine (part_any w F g 5 N f S A n c sd hl0.1 hl0.lt (by decide) hs hnl).mono ?_
  rintro e w' ⟨hbes, E, S', rfl, hpf, hnet⟩
  exact ⟨E, S', rfl, hpf, PA.step hl0 k hq hbes hnet⟩
/-- ... with a packet that was taken out of it, and another block beside it. -/
def PT (w1 wr : World) (g q : Nat) (cs : List Value) (p : Nat) (ds : List Value) (N : Nat) (f : Int → Int → List Pkt) (S : Int → Bool) (ps : List Value) (x : Pkt) : Prop := ∃ F : Nat → Prop, Live w1 wr F g 5 N f S ∧ Blk wr q cs ∧ ¬ F q ∧ RdP wr F ps x ∧ Blk wr p ds ∧ ¬ F p
theorem pa_deliver (h : PA w1 w g q qc N (oneBag a b (x :: l)) S) (hN : N < maxLen) (hok : okWay 5 a b) (hl : l.length ≤ 64) :
    Calls Try.prog 15 #[.pointer (some ⟨g, 0, none⟩), .int .i64 a, .int .i64 b, .int .i64 0] w fun e w' => ∃ D dc, e = .returned (.tuple #[.agg #[.int .i64 x.1, .int .i64 x.2.1, .int .i64 x.2.2.1, .slice D x.2.2.2.length dc], .int .i64 0]) ∧ ∃ F : Nat → Prop, Live w1 w' F g 5 (N + 1) (oneBag a b l) S ∧ Blk w' q qc ∧ ¬ F q ∧ RdP w' F [.int .i64 x.1, .int .i64 x.2.1, .int .i64 x.2.2.1, .slice D x.2.2.2.length dc] x := by
  obtain ⟨F, hl0, k, hq⟩ := h
  refine (deliver_any w F g 5 N _ _ a b 0 hl0.1 hl0.lt (by decide) hN (by unfold oneBag; rw [updF_same, List.length_cons]; omega)).mono ?_
  rintro e w' ⟨hbes, ps, E, f', _, rfl, hdel, hnet⟩
  unfold DelF oneBag at hdel
  rw [updF_same] at hdel
  rcases hdel with ⟨hno, _⟩ | ⟨_, hout, _⟩ | ⟨_, m, y, hm, hy, hrd, rfl, rfl⟩
  · exact absurd hok hno
  · simp at hout
    omega
  · obtain rfl : m = 0 := by omega
    simp at hy
    subst hy
    rw [updF_upd, List.eraseIdx_cons_zero] at hnet
    have hrd0 := hrd
    obtain ⟨D, dc, rfl, _⟩ := hrd
    refine ⟨D, dc, rfl, grow F w w', hl0.step hbes hnet, hbes.blk k hq, fun hh => hh.elim hq (fun hh => by have := k.lt; omega), hrd0⟩
theorem PT.start {p : Nat} {ps ds : List Value} (hl : Live w1 w F g 5 N f S) (k : Blk w q cs) (hq : ¬ F q) (hr : RdP w F ps x) (hb : Below w.heap.size w w') (kp : Blk w' p ds) (hp : w.heap.size ≤ p) : PT w1 w' g q cs p ds N f S ps x :=
  ⟨F, hl.below hb, k.ext hb, hq, hr.grown (Spared.of_below hb), kp, fun hh => by have := hl.lt p hh; omega⟩
theorem pt_heal {p : Nat} {ps ds : List Value} (h : PT w1 w g q qc p ds N f S ps x) :
    Calls Try.prog 16 #[.pointer (some ⟨g, 0, none⟩)] w fun e w' => e = .returned (.tuple #[]) ∧ PT w1 w' g q qc p ds N f (fun _ => false) ps x := by
  obtain ⟨F, hl0, k, hq, hr, kp, hp⟩ := h
  refine (heal_any w F g 5 N f S hl0.1 hl0.lt).mono ?_
  rintro e w' ⟨⟨rfl, hbes, ht⟩, hnet⟩
  exact ⟨rfl, grow F w w', hl0.step hbes hnet, hbes.blk k hq, fun hh => hh.elim hq (fun hh => by have := k.lt; omega), (hr.turn ht).mono (fun _ hb => .inl hb), hbes.blk kp hp, fun hh => hh.elim hp (fun hh => by have := kp.lt; omega)⟩
theorem PT.pa {p : Nat} {ps ds : List Value} (h : PT w1 w g q qc p ds N f S ps x) : PA w1 w g q qc N f S := by
  obtain ⟨F, hl, k, hq, _⟩ := h
  exact ⟨F, hl, k, hq⟩
theorem PT.is {p : Nat} {ps ds : List Value} (h : PT w1 w g q qc p ds N f S ps x) : IsP w ps x ∧ Blk w p ds := by
  obtain ⟨F, hl, k, hq, hr, kp, _⟩ := h
  exact ⟨hr.is, kp⟩
end

set_option maxHeartbeats 8000000 in
set_option maxRecDepth 40000 in
theorem lawParts_any (A : Option Addr) (n c : Nat) (sd : List Int) (a b : Int) (D : Option Addr) (m mc : Nat) (ds : List Int) (w : World) (hs : SlA w 1 A n (nums .i64 sd)) (hn : n ≤ 140737488355328) (hd : SlA w 1 D m (nums .u8 ds)) (hm : m ≤ 140737488355328) :
    Calls Try.prog 4 #[.slice A n c, .int .i64 a, .int .i64 b, .slice D m mc] w fun e w' => e = .returned (.bool true) ∧ Below w.heap.size w w' := by
  have hdl : ds.length = m := hd.len
  subst hdl
  have hsl : sd.length = n := hs.len
  subst hsl
  have HD := Lib.hid hd
  have HSD := Lib.hid hs
  clear hd hs
  go_enter Try.func4, Try.ntmps4
  go_wp2_with fail
  refine (head_any w).mono ?_
  rintro e w1 ⟨rfl, hb1⟩
  go_wp2_with fail
  refine (new_any 5 w1).mono ?_
  rintro e w2 ⟨hb2, hnew⟩
  rcases hnew with ⟨hno, _⟩ | ⟨_, g, rfl, hnet⟩
  · exact absurd ⟨by decide, by decide⟩ hno
  have HL := Lib.hid (Live.start hb2 hnet)
  clear hnet
  have hb12 := hb1.trans (hb2.mono hb1.size)
  by_cases h1 : a < 1
  · go_wp2
    go_ret
    exact ⟨rfl, hb12⟩
  by_cases h2 : 5 < a
  · go_wp2
    go_ret
    exact ⟨rfl, hb12⟩
  by_cases h3 : b < 1
  · go_wp2
    go_ret
    exact ⟨rfl, hb12⟩
  by_cases h4 : 5 < b
  · go_wp2
    go_ret
    exact ⟨rfl, hb12⟩
  by_cases h5 : a = b
  · have e5 : (a == b) = true := beq_iff_eq.2 h5
    clear h5
    go_wp2
    go_ret
    exact ⟨rfl, hb12⟩
  have e5 : (a == b) = false := beq_eq_false_iff_ne.2 h5
  have HOK := Lib.hid (show okWay 5 a b from ⟨⟨by omega, by omega⟩, ⟨by omega, by omega⟩, h5⟩)
  clear h5
  go_wp2_with fail
  refine name_calls (fun w3 hw3 => ?_)
  have hb3 : Below w2.heap.size w2 w3 := by rw [hw3]; exact (by (repeat first | refine Below.setCell ?_ (by first | omega | (dsimp only; omega) | (simp only [heap_drew, World.size_alloc, Gz.size_setCell]; omega)) _ | refine Below.alloc ?_ (by first | omega | (dsimp only; omega) | (simp only [heap_drew, World.size_alloc, Gz.size_setCell]; omega)) _ | refine Below.drew ?_); exact Below.refl _ _)
  have k12 : Blk w3 w2.heap.size [.int .i64 a, .int .i64 b, .int .i64 0, .slice D ds.length mc] := by rw [hw3]; exact Blk.new _ _ _ _ rfl
  clear hw3
  have HA := Lib.hid (show PA w1 w3 g w2.heap.size [.int .i64 a, .int .i64 b, .int .i64 0, .slice D ds.length mc] 0 (oneBag a b []) (fun _ => false) from
    ⟨_, by rw [show oneBag a b [] = fun _ _ => [] by funext i j; simp [oneBag, updF]]; exact HL.out.below hb3, k12, fun hh => by simp at hh⟩)
  have HX := Lib.hid (show ∀ wr, Below w1.heap.size w1 wr → IsP wr [.int .i64 a, .int .i64 b, .int .i64 0, .slice D ds.length mc] (a, b, 0, ds) from fun wr hb => ⟨D, mc, rfl, HD.out.below (hb1.trans (hb.mono hb1.size))⟩)
  have hml : (140737488355328 : Nat) + 100 ≤ maxLen := by decide
  clear k12 hb3 HL
  refine (pa_send HA.out (by omega) (HX.out _ HA.out.bel) rfl rfl HOK.out (by simp) hm).mono ?_
  rintro e w4 ⟨rfl, hpa⟩
  simp only [if_true, List.nil_append] at hpa
  have HB := Lib.hid hpa
  clear hpa HA
  go_wp2_with fail
  refine (pa_part HB.out (HSD.out.below (hb1.trans (HB.out.bel.mono hb1.size))) hn).mono ?_
  rintro e w5 ⟨E, S', rfl, hpf, hpa⟩
  rcases hpf with ⟨_, rfl, rfl⟩ | ⟨hall, rfl, rfl⟩
  · have c12 := hpa.blk.cell
    have HC := Lib.hid hpa
    clear hpa
    go_wp2_with fail
    refine (pa_send HC.out (by omega) (HX.out _ HC.out.bel) rfl rfl HOK.out (by simp) hm).mono ?_
    rintro e w6 ⟨rfl, hpa⟩
    simp only [if_true, List.cons_append, List.nil_append] at hpa
    have HE := Lib.hid hpa
    clear hpa c12
    go_wp2_with fail
    refine (pa_len HE.out HOK.out (by simp)).mono ?_
    rintro e w7 ⟨rfl, hpa⟩
    have HG := Lib.hid hpa
    clear hpa
    simp only [List.length_cons, List.length_nil]
    go_wp2
    go_ret
    exact ⟨rfl, hb1.trans (HG.out.bel.mono hb1.size)⟩
  have HC := Lib.hid hpa
  clear hpa hall
  go_wp2_with fail
  go_loopw [14, 15, 16] (fun s14 s15 s16 wr => ∃ i : Nat, s16 = .int .i64 i ∧ i ≤ sd.length ∧ s14 = .bool (decide (a ∈ sd.take i)) ∧ s15 = .bool (decide (b ∈ sd.take i)) ∧ PA w1 wr g w2.heap.size [.int .i64 a, .int .i64 b, .int .i64 0, .slice D ds.length mc] (max (0 + 1) sd.length) (oneBag a b [(a, b, 0, ds)]) (fun i => decide (i ∈ sd))) (fun _ _ s16 _ => (sd.length - RowKit.intOf s16).toNat)
  case atStart => exact ⟨0, rfl, by omega, by simp, by simp, HC.out⟩
  case round =>
    clear HC
    obtain ⟨i, rfl, hi, rfl, rfl, hpa⟩ := hrel
    have HC := Lib.hid hpa
    clear hpa
    by_cases hlt : i < sd.length
    · have q1 : (i : Int) < (sd.length : Int) := by omega
      obtain ⟨ad, rfl⟩ : ∃ ad, A = some ad := by
        cases A with
        | none => have := HSD.out.2.1 rfl; omega
        | some ad => exact ⟨ad, rfl⟩
      have ce := (HSD.out.below (hb1.trans (HC.out.bel.mono hb1.size))).cell hlt
      have hget : sd[i]? = some (sd.getD i 0) := by simp [hlt]
      have htk : sd.take (i + 1) = sd.take i ++ [sd.getD i 0] := by rw [List.take_add_one, hget]; rfl
      obtain ⟨v, hv⟩ : ∃ v, v = sd.getD i 0 := ⟨_, rfl⟩
      rw [← hv] at ce htk
      have hfa : ∀ u, decide (u ∈ sd.take (i + 1)) = (decide (u ∈ sd.take i) || (v == u)) := fun u => by
        rw [htk, Bool.eq_iff_iff]
        simp only [decide_eq_true_eq, List.mem_append, List.mem_singleton, Bool.or_eq_true, beq_iff_eq]
        exact or_congr_right ⟨Eq.symm, Eq.symm⟩
      have HFA := Lib.hid hfa
      clear hfa htk hv hget
      obtain ⟨fa, ha⟩ : ∃ fa, fa = decide (a ∈ sd.take i) := ⟨_, rfl⟩
      obtain ⟨fb, hb⟩ : ∃ fb, fb = decide (b ∈ sd.take i) := ⟨_, rfl⟩
      rw [← ha, ← hb]
      have HFB := Lib.hid ha
      have HFC := Lib.hid hb
      clear ha hb
      cases fa
      · cases fb
        · go_wp2
          go_roundw
          case rel => exact ⟨i + 1, by go_num, by omega, by rw [HFA.out, ← HFB.out]; simp, by rw [HFA.out, ← HFC.out]; simp, HC.out⟩
          case measure => simp [RowKit.intOf]; omega
        · go_wp2
          go_roundw
          case rel => exact ⟨i + 1, by go_num, by omega, by rw [HFA.out, ← HFB.out]; simp, by rw [HFA.out, ← HFC.out]; simp, HC.out⟩
          case measure => simp [RowKit.intOf]; omega
      · cases fb
        · go_wp2
          go_roundw
          case rel => exact ⟨i + 1, by go_num, by omega, by rw [HFA.out, ← HFB.out]; simp, by rw [HFA.out, ← HFC.out]; simp, HC.out⟩
          case measure => simp [RowKit.intOf]; omega
        · go_wp2
          go_roundw
          case rel => exact ⟨i + 1, by go_num, by omega, by rw [HFA.out, ← HFB.out]; simp, by rw [HFA.out, ← HFC.out]; simp, HC.out⟩
          case measure => simp [RowKit.intOf]; omega
    · obtain rfl : i = sd.length := by omega
      have q1 : ¬ ((sd.length : Int) < (sd.length : Int)) := by omega
      rw [List.take_length]
      have c12 := HC.out.blk.cell
      obtain ⟨fa, ha⟩ : ∃ fa, fa = decide (a ∈ sd) := ⟨_, rfl⟩
      obtain ⟨fb, hb⟩ : ∃ fb, fb = decide (b ∈ sd) := ⟨_, rfl⟩
      have HFA := Lib.hid ha
      have HFB := Lib.hid hb
      rw [← ha, ← hb]
      clear ha hb
      go_wp2_with fail
      refine (pa_send HC.out (by omega) (HX.out _ HC.out.bel) rfl rfl HOK.out (by simp) hm).mono ?_
      rintro e w6 ⟨rfl, hpa⟩
      by_cases hab : fa = fb
      · have e18 : (fa == fb) = true := beq_iff_eq.2 hab
        rw [if_pos (by rw [← HFA.out, ← HFB.out]; exact hab)] at hpa
        simp only [List.cons_append, List.nil_append] at hpa
        clear hab
        have HE := Lib.hid hpa
        clear hpa c12
        go_wp2_with fail
        refine (pa_len HE.out HOK.out (by simp)).mono ?_
        rintro e w7 ⟨rfl, hpa⟩
        have HG := Lib.hid hpa
        clear hpa
        simp only [List.length_cons, List.length_nil]
        go_wp2_with fail
        refine (pa_deliver HG.out (by omega) HOK.out (by simp)).mono ?_
        rintro e w8 ⟨D8, c8, rfl, F, hl, k12, hF12, hrd⟩
        have HL := Lib.hid hl
        have HF12 := Lib.hid hF12
        have HRD := Lib.hid hrd
        clear hl hrd hF12
        go_wp2_with (with_reducible refine stop_store ?_)
        refine hide (name_list (fun w9 hw9 => ?_))
        have hb9 : Below w8.heap.size w8 w9 := by rw [hw9]; exact (by (repeat first | refine Below.setCell ?_ (by first | omega | (dsimp only; omega) | (simp only [heap_drew, World.size_alloc, Gz.size_setCell]; omega)) _ | refine Below.alloc ?_ (by first | omega | (dsimp only; omega) | (simp only [heap_drew, World.size_alloc, Gz.size_setCell]; omega)) _ | refine Below.drew ?_); exact Below.refl _ _)
        have k19 : Blk w9 w8.heap.size [.int .i64 0, .int .i64 0, .int .i64 0, .slice none 0 0] := by rw [hw9]; exact Blk.new _ _ _ _ rfl
        have hz9 : w9.heap.size = w8.heap.size + 1 := by rw [hw9]; simp
        clear hw9
        refine hide (wpList_store_blk rfl 29 (.tmp 19) (.tmp 133) rfl w8.heap.size [.int .i64 a, .int .i64 b, .int .i64 0, .slice D8 ds.length c8] rfl rfl _ k19 rfl (by kernel_rfl) rfl ?_)
        intro w10 k19 hg10 hz10
        have hb10 := below_grown hb9 hg10 (Nat.le_refl _) (by omega)
        clear hg10 hb9
        have HP := Lib.hid (PT.start HL.out k12 HF12.out HRD.out hb10 k19 (Nat.le_refl _))
        clear k19 k12 hb10 hz10 hz9 HL HF12 HRD
        go_wp2_with fail
        refine (pt_heal HP.out).mono ?_
        rintro e w11 ⟨rfl, hpt⟩
        have hsl := hpt.is.1
        obtain ⟨D8', c8', hcs, hsl⟩ := hsl
        simp only [List.cons.injEq, Value.slice.injEq, and_true, true_and] at hcs
        obtain ⟨rfl, rfl⟩ := hcs
        have v1 := run_convert_sl (P := Try.prog) 22 5 9 Try.underlying22 Try.underlying5 Try.underlying9 hsl
        have v2 := run_convert_sl (P := Try.prog) 22 5 9 Try.underlying22 Try.underlying5 Try.underlying9 (HD.out.below (hb1.trans (hpt.pa.bel.mono hb1.size)))
        have c19 := hpt.is.2.cell
        have c12 := hpt.pa.blk.cell
        have HQ := Lib.hid hpt.pa
        clear hsl hpt
        go_wp2_with fail
        refine (pa_send HQ.out (by omega) (HX.out _ HQ.out.bel) rfl rfl HOK.out (by simp) hm).mono ?_
        rintro e w12 ⟨rfl, hpa⟩
        simp only [if_true, List.cons_append, List.nil_append] at hpa
        have HR := Lib.hid hpa
        clear hpa c12 c19 v1 v2
        go_wp2_with fail
        refine (pa_len HR.out HOK.out (by simp)).mono ?_
        rintro e w13 ⟨rfl, hpa⟩
        have HT := Lib.hid hpa
        clear hpa
        simp only [List.length_cons, List.length_nil]
        go_wp2
        go_ret
        exact ⟨rfl, hb1.trans (HT.out.bel.mono hb1.size)⟩
      · have e18 : (fa == fb) = false := beq_eq_false_iff_ne.2 hab
        rw [if_neg (by rw [← HFA.out, ← HFB.out]; exact hab)] at hpa
        clear hab
        have HE := Lib.hid hpa
        clear hpa c12
        go_wp2_with fail
        refine (pa_len HE.out HOK.out (by simp)).mono ?_
        rintro e w7 ⟨rfl, hpa⟩
        have HG := Lib.hid hpa
        clear hpa
        simp only [List.length_cons, List.length_nil]
        go_wp2_with fail
        refine (pa_deliver HG.out (by omega) HOK.out (by simp)).mono ?_
        rintro e w8 ⟨D8, c8, rfl, F, hl, k12, hF12, hrd⟩
        have HL := Lib.hid hl
        have HF12 := Lib.hid hF12
        have HRD := Lib.hid hrd
        clear hl hrd hF12
        go_wp2_with (with_reducible refine stop_store ?_)
        refine hide (name_list (fun w9 hw9 => ?_))
        have hb9 : Below w8.heap.size w8 w9 := by rw [hw9]; exact (by (repeat first | refine Below.setCell ?_ (by first | omega | (dsimp only; omega) | (simp only [heap_drew, World.size_alloc, Gz.size_setCell]; omega)) _ | refine Below.alloc ?_ (by first | omega | (dsimp only; omega) | (simp only [heap_drew, World.size_alloc, Gz.size_setCell]; omega)) _ | refine Below.drew ?_); exact Below.refl _ _)
        have k19 : Blk w9 w8.heap.size [.int .i64 0, .int .i64 0, .int .i64 0, .slice none 0 0] := by rw [hw9]; exact Blk.new _ _ _ _ rfl
        have hz9 : w9.heap.size = w8.heap.size + 1 := by rw [hw9]; simp
        clear hw9
        refine hide (wpList_store_blk rfl 29 (.tmp 19) (.tmp 133) rfl w8.heap.size [.int .i64 a, .int .i64 b, .int .i64 0, .slice D8 ds.length c8] rfl rfl _ k19 rfl (by kernel_rfl) rfl ?_)
        intro w10 k19 hg10 hz10
        have hb10 := below_grown hb9 hg10 (Nat.le_refl _) (by omega)
        clear hg10 hb9
        have HP := Lib.hid (PT.start HL.out k12 HF12.out HRD.out hb10 k19 (Nat.le_refl _))
        clear k19 k12 hb10 hz10 hz9 HL HF12 HRD
        go_wp2_with fail
        refine (pt_heal HP.out).mono ?_
        rintro e w11 ⟨rfl, hpt⟩
        have hsl := hpt.is.1
        obtain ⟨D8', c8', hcs, hsl⟩ := hsl
        simp only [List.cons.injEq, Value.slice.injEq, and_true, true_and] at hcs
        obtain ⟨rfl, rfl⟩ := hcs
        have v1 := run_convert_sl (P := Try.prog) 22 5 9 Try.underlying22 Try.underlying5 Try.underlying9 hsl
        have v2 := run_convert_sl (P := Try.prog) 22 5 9 Try.underlying22 Try.underlying5 Try.underlying9 (HD.out.below (hb1.trans (hpt.pa.bel.mono hb1.size)))
        have c19 := hpt.is.2.cell
        have c12 := hpt.pa.blk.cell
        have HQ := Lib.hid hpt.pa
        clear hsl hpt
        go_wp2_with fail
        refine (pa_send HQ.out (by omega) (HX.out _ HQ.out.bel) rfl rfl HOK.out (by simp) hm).mono ?_
        rintro e w12 ⟨rfl, hpa⟩
        simp only [if_true, List.cons_append, List.nil_append] at hpa
        have HR := Lib.hid hpa
        clear hpa c12 c19 v1 v2
        go_wp2_with fail
        refine (pa_len HR.out HOK.out (by simp)).mono ?_
        rintro e w13 ⟨rfl, hpa⟩
        have HT := Lib.hid hpa
        clear hpa
        simp only [List.length_cons, List.length_nil]
        go_wp2
        go_ret
        exact ⟨rfl, hb1.trans (HT.out.bel.mono hb1.size)⟩
end Go.Proofs.Ytjihiohmemmabaa

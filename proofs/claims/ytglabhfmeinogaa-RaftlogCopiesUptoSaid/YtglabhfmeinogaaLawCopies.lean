/- RaftlogCopies: the law's walk. -/
import Derived.Test.YtglabhfmeinogaaLMerged
namespace Go.Proofs.Ytglabhfmeinogaa
open Go.RowKit Go.Gz
attribute [local go_sem] World.cell?_alloc_some frozen?_alloc_some

theorem not_gap {bi fr : Int} {xs : List Ent} (hr : Right bi xs) (h0 : 0 ≤ bi) (h : ¬ gap bi xs fr) : bi < fr ∧ fr ≤ bi + xs.length + 1 := by
  unfold gap at h
  have h1 := hr.1
  rw [lastI_right hr, IntWalk.u64_in _ ⟨by omega, by omega⟩] at h
  omega
theorem gap_no {bi fr : Int} {xs : List Ent} (hr : Right bi xs) (h0 : 0 ≤ bi) (h1 : bi < fr) (h2 : fr ≤ bi + xs.length) : ¬ gap bi xs fr := by
  unfold gap
  have h3 := hr.1
  rw [lastI_right hr, IntWalk.u64_in _ ⟨by omega, by omega⟩]
  omega
theorem slice_place {bi fr : Int} {xs : List Ent} {p : Nat} (hr : Right bi xs) (h0 : 0 ≤ bi) (h : ¬ gap bi xs fr) (hp : p ≤ xs.length) (hA : AtLeast xs p fr) (hU : Under xs p fr) : fr = bi + p + 1 := by
  have := not_gap hr h0 h
  obtain ⟨q, hq⟩ : ∃ q : Nat, fr = bi + q + 1 := ⟨(fr - bi - 1).toNat, by omega⟩
  rw [hq] at hA hU
  have := place_right hr (by omega) hp hA hU
  omega
theorem run_slice {bi bt : Int} {xs : List Ent} {q r : Nat} (hrun : runB bi bt xs = true) (hq : q + r ≤ xs.length) : runB (bi + q) (lastT bt (xs.take q)) ((xs.drop q).take r) = true := by
  have hml : ((xs.drop q).take r).length = r := by rw [List.length_take, List.length_drop]; omega
  simp only [runB, Bool.and_eq_true, decide_eq_true_eq] at hrun ⊢
  exact ⟨⟨by omega, by rw [hml]; omega⟩, runL_take _ _ _ _ (runL_drop _ _ _ _ hrun.2 (by omega))⟩
theorem termO_place {bi bt : Int} {xs : List Ent} {q : Nat} (hq : q ≤ xs.length) : termO bi bt xs (bi + q) = some (lastT bt (xs.take q)) := by
  have h1 := termO_left (bi := bi) (bt := bt) (ix := bi + q) (xs := xs) (ys := []) hq (Int.le_refl _)
  rw [List.append_nil] at h1
  rw [← h1]
  have h2 := @termO_last bi bt (xs.take q)
  rwa [List.length_take, Nat.min_eq_left hq] at h2
/-- The entry of an index. -/
theorem slice_one {bi bt : Int} {ys : List Ent} {y : Ent} {p : Nat} (hr : Right bi ys) (ht : termO bi bt ys y.1 = some y.2.1) (hgt : bi < y.1) (hp : p ≤ ys.length) (hA : AtLeast ys p y.1) (hU : Under ys p y.1) : p < ys.length ∧ ∃ x, (ys.drop p).take 1 = [x] ∧ x.2.1 = y.2.1 := by
  have h1 := termO_in ht
  obtain ⟨q, hq⟩ : ∃ q : Nat, y.1 = bi + q + 1 := ⟨(y.1 - bi - 1).toNat, by omega⟩
  rw [hq] at hA hU
  have hpq := place_right hr (by omega) hp hA hU
  subst hpq
  have hlt : p < ys.length := by omega
  have hx := List.getElem?_eq_getElem hlt
  refine ⟨hlt, ys[p], by rw [List.drop_eq_getElem_cons hlt]; rfl, ?_⟩
  rw [hq, termO_at hx] at ht
  exact Option.some.inj ht
/-- Of one log's slice, merged into another one: it may be, nothing below 1 is held. -/
theorem copies_may {bi bt bi' bt' t : Int} {xs xs' : List Ent} {p r : Nat} (hrun : runB bi bt xs = true) (h0 : 0 ≤ bi) (hq : p + r ≤ xs.length) (ht : t = lastT bt (xs.take p)) (ht' : termO bi' bt' xs' (bi + p) = some t) : MayB bi' bt' 0 (bi + p) t xs' ((xs.drop p).take r) := by
  have h1 := run_slice (q := p) (r := r) hrun hq
  rw [← ht] at h1
  refine ⟨h1, ht', fun y hy => ?_⟩
  obtain ⟨j, hj⟩ := List.getElem?_of_mem hy
  have := (right_of_run h1).2 _ _ hj
  have h2 : ¬ y.1 ≤ 0 := by omega
  simp [heldB, h2]

set_option maxRecDepth 100000 in
set_option maxHeartbeats 8000000 in
theorem lawCopies_any (bi bt : Int) (A : Option Addr) (na ca : Nat) (B : Option Addr) (nb cb : Nat) (D : Option Addr) (nd cd : Nat) (O : Option Addr) (n c : Nat) (l k z : List Int) (xs : List Ent)
    (bi' bt' : Int) (A' : Option Addr) (na' ca' : Nat) (B' : Option Addr) (nb' cb' : Nat) (D' : Option Addr) (nd' cd' : Nat) (O' : Option Addr) (n' c' : Nat) (l' k' z' : List Int) (xs' : List Ent) (fr most : Int) (w : World)
    (h : IsLog w A B D O na nb nd n l k z xs) (hf : ∀ x ∈ xs, Fits x) (hnc : n ≤ c) (hns : n ≤ 1048576) (hb0 : 0 ≤ bi) (hb1 : bi < 18446744073709551616)
    (h' : IsLog w A' B' D' O' na' nb' nd' n' l' k' z' xs') (hf' : ∀ x ∈ xs', Fits x) (hnc' : n' ≤ c') (hns' : n' ≤ 1048576) (hb0' : 0 ≤ bi') (hb1' : bi' < 18446744073709551616) (hna : na' * 8 ≤ 140737488355328) (hnb : nb' * 8 ≤ 140737488355328) (hnd : nd' ≤ 140737488355328)
    (hfr0 : 0 ≤ fr) (hfr1 : fr < 18446744073709551616) (hm1 : -9223372036854775808 ≤ most) (hm2 : most ≤ 9223372036854775807) :
    Calls Try.prog 8 #[lg bi bt A na ca B nb cb D nd cd O n c, lg bi' bt' A' na' ca' B' nb' cb' D' nd' cd' O' n' c', .int .u64 fr, .int .i64 most] w fun e w' => e = .returned (.bool true) ∧ Below w.heap.size w w' := by
  have H := Lib.hid h
  have HF := Lib.hid hf
  have H' := Lib.hid h'
  have HF' := Lib.hid hf'
  have hxl := h.2.len
  have hxl' := h'.2.len
  clear h hf h' hf'
  go_enter Try.func8, Try.ntmps8
  go_wp2_with fail
  refine name_calls (fun w1 hw1 => ?_)
  have k4 : Blk w1 w.heap.size [.int .u64 bi, .int .u64 bt, .slice A na ca, .slice B nb cb, .slice D nd cd, .slice O n c] := by rw [hw1]; exact (Blk.new _ _ _ _ rfl).alloc _
  have k5 : Blk w1 (w.heap.size + 1) [.int .u64 bi', .int .u64 bt', .slice A' na' ca', .slice B' nb' cb', .slice D' nd' cd', .slice O' n' c'] := by rw [hw1]; exact Blk.new _ _ _ _ (by simp)
  have hbw1 : Below w.heap.size w w1 := by rw [hw1]; exact (by (repeat first | refine Below.setCell ?_ (by first | omega | (dsimp only; omega) | (simp only [heap_drew, World.size_alloc, Gz.size_setCell]; omega)) _ | refine Below.alloc ?_ (by first | omega | (dsimp only; omega) | (simp only [heap_drew, World.size_alloc, Gz.size_setCell]; omega)) _ | refine Below.drew ?_); exact Below.refl _ _)
  clear hw1
  refine (head_any w1).mono ?_
  rintro e w2 ⟨rfl, hb2⟩
  have k4 := k4.ext hb2
  have k5 := k5.ext hb2
  have hb2 := hbw1.trans (hb2.mono hbw1.size)
  have c4 := k4.cell
  go_wp2_with fail
  refine (checkX_any bi bt A na ca B nb cb D nd cd O n c xs w2 (H.out.2.below hb2) (by omega) hb0 hb1).mono ?_
  rintro e w3 ⟨rfl, hb3⟩
  have k4 := k4.ext hb3
  have k5 := k5.ext hb3
  have hb3 := hb2.trans (hb3.mono hb2.size)
  obtain ⟨b, hb⟩ : ∃ b, b = chkB bi bt xs := ⟨_, rfl⟩
  rw [← hb]
  have HB := Lib.hid hb
  clear hb c4
  have c5 := k5.cell
  go_wp2_with fail
  refine (checkX_any bi' bt' A' na' ca' B' nb' cb' D' nd' cd' O' n' c' xs' w3 (H'.out.2.below hb3) (by omega) hb0' hb1').mono ?_
  rintro e w4 ⟨rfl, hb4⟩
  have k4 := k4.ext hb4
  have k5 := k5.ext hb4
  have hb4 := hb3.trans (hb4.mono hb3.size)
  obtain ⟨b', hb'⟩ : ∃ b', b' = chkB bi' bt' xs' := ⟨_, rfl⟩
  rw [← hb']
  have HB' := Lib.hid hb'
  clear hb' c5
  cases b with
  | false =>
    go_wp2
    go_ret
    exact ⟨rfl, hb4⟩
  | true =>
  cases b' with
  | false =>
    go_wp2
    go_ret
    exact ⟨rfl, hb4⟩
  | true =>
  by_cases hfz : fr = 0
  · subst hfz
    go_wp2
    go_ret
    exact ⟨rfl, hb4⟩
  have hfz0 : (fr == 0) = false := beq_eq_false_iff_ne.2 hfz
  have HRUN := Lib.hid (show runB bi bt xs = true by have := HB.out; simp only [chkB] at this; exact (Bool.and_eq_true_iff.1 this.symm).2)
  have HRT := Lib.hid (right_of_run HRUN.out)
  have HRT' := Lib.hid (right_of_run (show runB bi' bt' xs' = true by have := HB'.out; simp only [chkB] at this; exact (Bool.and_eq_true_iff.1 this.symm).2))
  have c4 := k4.cell
  go_wp2_with fail
  refine (slice_any bi bt A na ca B nb cb D nd cd O n c xs fr most w4 (H.out.2.below hb4) HF.out hnc (by omega) hm1 hm2).mono ?_
  rintro e w5 ⟨hb5, hsl⟩
  have k4 := k4.ext hb5
  have k5 := k5.ext hb5
  have hbw := hb5
  have hb5 := hb4.trans (hb5.mono hb4.size)
  clear c4
  have c4 := k4.cell
  rcases hsl with ⟨_, rfl⟩ | ⟨hng, p, A5, c5', hp, hA, hU, rfl, ho5⟩
  · go_wp2_with fail
    refine (term_any bi bt A na ca B nb cb D nd cd O n c xs (fr - 1) w5 (H.out.2.below hb5) (by omega)).mono ?_
    rintro e w6 ⟨hb6, t, there, rfl, _⟩
    have k5 := k5.ext hb6
    have hb6 := hb5.trans (hb6.mono hb5.size)
    clear c4
    have c5 := k5.cell
    go_wp2_with fail
    refine (term_any bi' bt' A' na' ca' B' nb' cb' D' nd' cd' O' n' c' xs' (fr - 1) w6 (H'.out.2.below hb6) (by omega)).mono ?_
    rintro e w7 ⟨hb7, u, too, rfl, _⟩
    go_wp2
    go_ret
    exact ⟨rfl, hb6.trans (hb7.mono hb6.size)⟩
  · have hfp := slice_place HRT.out hb0 hng (by omega) hA hU
    have hfr1' : 1 ≤ fr := by omega
    have HFP := Lib.hid hfp
    clear hfp
    obtain ⟨r, hrr⟩ : ∃ r, r = many (n - p) most := ⟨_, rfl⟩
    rw [← hrr] at ho5 ⊢
    have hrn : p + r ≤ n := by rw [hrr]; unfold many; omega
    have hrc : r ≤ c5' := by obtain ⟨_, _, _, y, _⟩ := ho5; exact y.le
    have HO5 := Lib.hid ho5.is
    clear hng hA hU ho5 hrr
    go_wp2_with fail
    refine (term_any bi bt A na ca B nb cb D nd cd O n c xs (fr - 1) w5 (H.out.2.below hb5) (by omega)).mono ?_
    rintro e w6 ⟨hb6, t, there, rfl, hT⟩
    have hT := hT HRT.out
    rw [show fr - 1 = bi + p by have := HFP.out; omega, termO_place (by omega)] at hT
    have k5 := k5.ext hb6
    have HO5 := Lib.hid (HO5.out.below hb6)
    have hb6 := hb5.trans (hb6.mono hb5.size)
    clear c4
    have c5 := k5.cell
    cases there with
    | false => cases hT
    | true =>
    have HT := Lib.hid (show t = lastT bt (xs.take p) from (Option.some.inj hT).symm)
    clear hT
    go_wp2_with fail
    refine (term_any bi' bt' A' na' ca' B' nb' cb' D' nd' cd' O' n' c' xs' (fr - 1) w6 (H'.out.2.below hb6) (by omega)).mono ?_
    rintro e w7 ⟨hb7, u, too, rfl, hT'⟩
    have HT' := Lib.hid (hT' HRT'.out)
    have k5 := k5.ext hb7
    have HO5 := Lib.hid (HO5.out.below hb7)
    have hb7 := hb6.trans (hb7.mono hb6.size)
    clear c5 hT'
    have c5 := k5.cell
    cases too with
    | false =>
      go_wp2
      go_ret
      exact ⟨rfl, hb7⟩
    | true =>
    by_cases htu : t = u
    rotate_left 1
    · have htu0 : (t != u) = true := bne_iff_ne.2 htu
      go_wp2
      go_ret
      exact ⟨rfl, hb7⟩
    subst htu
    obtain ⟨mo, hmo⟩ : ∃ mo, mo = (xs.drop p).take r := ⟨_, rfl⟩
    rw [← hmo] at HO5
    have hmol := HO5.out.len
    have HFM := Lib.hid (show ∀ x ∈ mo, Fits x from fun x hx => HF.out x (by rw [hmo] at hx; exact List.mem_of_mem_drop (List.mem_of_mem_take hx)))
    have HMAY := Lib.hid (show MayB bi' bt' 0 (fr - 1) t xs' mo by
      have h1 := HT'.out
      rw [hmo]
      rw [show fr - 1 = bi + p by have := HFP.out; omega] at h1 ⊢
      exact copies_may HRUN.out hb0 (by omega) HT.out h1)
    clear hmo
    go_wp2_with fail
    refine (merge_any bi' bt' A' na' ca' B' nb' cb' D' nd' cd' O' n' c' l' k' z' xs' 0 (fr - 1) t A5 r c5' mo w7 (H'.out.below hb7) HF'.out hna hnb hnd HRT'.out HO5.out HFM.out hrc (by omega) (by omega) (by omega)).mono ?_
    rintro e w8 ⟨hb8, hm⟩
    have HO5 := Lib.hid (HO5.out.below hb8)
    have hb8' := hb8
    have hb8 := hb7.trans (hb8.mono hb7.size)
    clear c5
    rcases merge_ok HRT'.out hxl' hmol HF'.out HFM.out hm with ⟨hno, _⟩ | ⟨_, ys, v, cut, C, q, cc, hMg, hfy, hyl, hv, rfl, _, _⟩
    · exact absurd HMAY.out hno
    obtain ⟨A8, a8, B8, b8, D8, d8, O8, c8, rfl, hos, hoe⟩ := hv
    have HMG := Lib.hid hMg
    have HFY := Lib.hid hfy
    obtain ⟨y, hy⟩ : ∃ y, y = ys.length := ⟨_, rfl⟩
    rw [← hy] at hyl hoe ⊢
    have HY := Lib.hid hy
    have hyc : y ≤ c8 := by obtain ⟨_, _, _, q, _⟩ := hoe; exact q.le
    clear hm hMg hfy hy hos
    go_wp2_with (with_reducible refine stop_store ?_)
    refine hide (name_list (fun w9 hw9 => ?_))
    have hbw9 : Below w8.heap.size w8 w9 := by rw [hw9]; exact below_alloc_one _ _
    have k18 : Blk w9 w8.heap.size [.int .u64 0, .int .u64 0, .slice none 0 0, .slice none 0 0, .slice none 0 0, .slice none 0 0] := by rw [hw9]; exact Blk.new _ _ _ _ rfl
    have hz9 : w9.heap.size = w8.heap.size + 1 := by rw [hw9]; simp
    clear hw9
    have hb9 := hb8.trans (hbw9.mono hb8.size)
    refine hide (wpList_store_blk rfl 31 (.tmp 18) (.tmp 88) rfl w8.heap.size [.int .u64 bi', .int .u64 bt', .slice A8 na' a8, .slice B8 nb' b8, .slice D8 nd' d8, .slice O8 y c8] rfl rfl _ k18 rfl (by kernel_rfl) rfl ?_)
    intro w10 k18 hg10 hz10
    have hb810 : Below w8.heap.size w8 w10 := below_grown hbw9 hg10 (by omega) (by omega)
    have hb10 := hb8.trans (hb810.mono hb8.size)
    have HIS := Lib.hid (hoe.is.below hb810)
    have HO5 := Lib.hid (HO5.out.below hb810)
    have K18 := hide k18
    clear hoe hg10 k18 hz10 hz9
    go_wp2_with fail
    go_loopw [22] (fun s22 wr => ∃ i : Nat, s22 = .int .i64 i ∧ i ≤ r ∧ Below w10.heap.size w10 wr) (fun s22 _ => (r - intOf s22).toNat)
    case atStart => exact ⟨0, rfl, by omega, Below.refl _ _⟩
    case round =>
      obtain ⟨i, rfl, hi, hbr⟩ := hrel
      have c18 := (K18.out.ext hbr).cell
      have hIS := HIS.out.below hbr
      have HL := Lib.hid (HO5.out.below hbr)
      have hwr := hb10.trans (hbr.mono hb10.size)
      by_cases hlt : i < r
      · have b1 : (i : Int) < (r : Int) := by omega
        cases A5 with
        | none => obtain ⟨zs, _, h2, h3, _⟩ := HL.out; have := h3.2.1 rfl; omega
        | some ad =>
        obtain ⟨x, E1, d1, E2, d2, E3, d3, hx, _, _, _, m0, m1, _⟩ := HL.out.at hlt
        have hxm : x ∈ mo := List.mem_of_getElem? hx
        have hx1 := (right_of_run HMAY.out.1).2 _ _ hx
        have ht1 := HMG.out.2.2 x hxm
        have hbx : bi' < x.1 := by have := (termO_in HMAY.out.2.1).1; omega
        have hxy := (termO_in ht1).2
        have hx0 : x.1 < 4611686018427387904 := by have := HMG.out.1.1; omega
        have HX := Lib.hid hx
        have HT1 := Lib.hid ht1
        have HIS' := Lib.hid hIS
        clear hx ht1 hIS hx1
        go_wp2_with fail
        refine wp_region_held_drew (S := Ext wr) (by kernel_rfl) Ext.start (fun hS => ?_)
        simp only [List.size_toArray, List.length_cons, List.length_nil]
        refine take_at (i := 0) (oi := _) (dst := some 101) (v := ?_) rfl rfl (by kernel_rfl) (by kernel_rfl) (by kernel_rfl) (fun _ _ _ h => h) (Or.inl ⟨by rfl, by intro w hSw; (try dsimp only at hSw); go_simp; (try with_reducible rfl)⟩) (by assumption) ?_; (try simp only [Act.put, List.setIfInBounds_toArray, List.set_cons_zero, List.set_cons_succ])
        refine take_at (i := 1) (oi := _) (dst := some 102) (v := ?_) rfl rfl (by kernel_rfl) (by kernel_rfl) (by kernel_rfl) (fun _ _ _ h => h) (Or.inl ⟨by rfl, by intro w hSw; (try dsimp only at hSw); go_simp; (try with_reducible rfl)⟩) (by assumption) ?_; (try simp only [Act.put, List.setIfInBounds_toArray, List.set_cons_zero, List.set_cons_succ])
        refine take_at (i := 2) (oi := _) (dst := some 103) (v := ?_) rfl rfl (by kernel_rfl) (by kernel_rfl) (by kernel_rfl) (fun _ _ _ h => h) (Or.inl ⟨by rfl, by intro w hSw; (try dsimp only at hSw); go_simp; (try with_reducible rfl)⟩) (by assumption) ?_; (try simp only [Act.put, List.setIfInBounds_toArray, List.set_cons_zero, List.set_cons_succ])
        refine take_at (i := 3) (oi := _) (dst := some 104) (v := ?_) rfl rfl (by kernel_rfl) (by kernel_rfl) (by kernel_rfl) (fun _ _ _ h => h) (Or.inl ⟨by rfl, by intro w hSw; (try dsimp only at hSw); go_simp; (try with_reducible rfl)⟩) (by assumption) ?_; (try simp only [Act.put, List.setIfInBounds_toArray, List.set_cons_zero, List.set_cons_succ])
        refine take_at (i := 4) (oi := _) (dst := some 105) (v := ?_) rfl rfl (by kernel_rfl) (by kernel_rfl) (by kernel_rfl) (fun _ _ _ h => h) (Or.inl ⟨by rfl, by intro w hSw; (try dsimp only at hSw); go_simp; (try with_reducible rfl)⟩) (by assumption) ?_; (try simp only [Act.put, List.setIfInBounds_toArray, List.set_cons_zero, List.set_cons_succ])
        refine take_at (i := 5) (oi := _) (dst := some 106) (v := ?_) rfl rfl (by kernel_rfl) (by kernel_rfl) (by kernel_rfl) (fun _ _ _ h => h) (Or.inl ⟨by rfl, by intro w hSw; (try dsimp only at hSw); go_simp; (try with_reducible rfl)⟩) (by assumption) ?_; (try simp only [Act.put, List.setIfInBounds_toArray, List.set_cons_zero, List.set_cons_succ])
        refine wpAnyH_ready (rs := [6]) (by kernel_rfl) (by simp) ?_; refine AllReadyH.cons (o := _) rfl (fun K hK => ?_) AllReadyH.nil; go_simp
        refine (slice_any bi' bt' A8 na' a8 B8 nb' b8 D8 nd' d8 O8 y c8 ys x.1 1 _ (HIS'.out.below hS.2.2) HFY.out hyc (by omega) (by omega) (by omega)).mono ?_
        rintro e w12 ⟨hb12, hsl⟩
        rcases hsl with ⟨hg, _⟩ | ⟨_, p2, A12, c12, hp2, hA2, hU2, rfl, ho12⟩
        · exact absurd hg (gap_no HMG.out.1 hb0' hbx (by have := HY.out; omega))
        · obtain ⟨hp2l, x2, hx2, ht2⟩ := slice_one HMG.out.1 HT1.out hbx (by have := HY.out; omega) hA2 hU2
          have hmany : many (y - p2) 1 = 1 := by have := HY.out; unfold many; omega
          rw [hmany] at ho12 ⊢
          rw [hx2] at ho12
          refine hK.out _ _ (Ext.below hS hb12) (fun hS12 => ?_)
          clear hK
          refine take_at (i := 7) (oi := _) (dst := some 100) (v := ?_) rfl rfl (by kernel_rfl) (by kernel_rfl) (by kernel_rfl) (fun _ _ _ h => h) (Or.inl ⟨by rfl, by intro w hSw; (try dsimp only at hSw); go_simp; (try with_reducible rfl)⟩) (by assumption) ?_; (try simp only [Act.put, List.setIfInBounds_toArray, List.set_cons_zero, List.set_cons_succ])
          refine take_at (i := 8) (oi := _) (dst := some 108) (v := ?_) rfl rfl (by kernel_rfl) (by kernel_rfl) (by kernel_rfl) (fun _ _ _ h => h) (Or.inl ⟨by rfl, by intro w hSw; (try dsimp only at hSw); go_simp; (try with_reducible rfl)⟩) (by assumption) ?_; (try simp only [Act.put, List.setIfInBounds_toArray, List.set_cons_zero, List.set_cons_succ])
          refine take_at (i := 9) (oi := _) (dst := some 109) (v := ?_) rfl rfl (by kernel_rfl) (by kernel_rfl) (by kernel_rfl) (fun _ _ _ h => h) (Or.inl ⟨by rfl, by intro w hSw; (try dsimp only at hSw); go_simp; (try with_reducible rfl)⟩) (by assumption) ?_; (try simp only [Act.put, List.setIfInBounds_toArray, List.set_cons_zero, List.set_cons_succ])
          refine take_at (i := 10) (oi := _) (dst := some 23) (v := ?_) rfl rfl (by kernel_rfl) (by kernel_rfl) (by kernel_rfl) (fun _ _ _ h => h) (Or.inl ⟨by rfl, by intro w hSw; (try dsimp only at hSw); go_simp; (try with_reducible rfl)⟩) (by assumption) ?_; (try simp only [Act.put, List.setIfInBounds_toArray, List.set_cons_zero, List.set_cons_succ])
          refine take_at (i := 11) (oi := _) (dst := some 24) (v := ?_) rfl rfl (by kernel_rfl) (by kernel_rfl) (by kernel_rfl) (fun _ _ _ h => h) (Or.inl ⟨by rfl, by intro w hSw; (try dsimp only at hSw); go_simp; (try with_reducible rfl)⟩) (by assumption) ?_; (try simp only [Act.put, List.setIfInBounds_toArray, List.set_cons_zero, List.set_cons_succ])
          refine wpAnyH_done (by kernel_rfl) ?_ _
          have hE := ho12.is
          have hw12 := hwr.trans (hS12.2.2.mono hwr.size)
          have hr12 := hbr.trans (hS12.2.2.mono hbr.size)
          cases A12 with
          | none => obtain ⟨zs, _, h2, h3, _⟩ := hE; have := h3.2.1 rfl; omega
          | some bd =>
          obtain ⟨x3, _, _, _, _, _, _, hx3, _, _, _, q0, q1, _⟩ := hE.at (j := 0) (by omega)
          obtain rfl : x2 = x3 := by simpa using hx3
          clear m0 m1 hp2l hA2 hU2 hx2 ho12 hE hx3
          obtain ⟨x4, _, _, _, _, _, _, hx4, _, _, _, m0, m1, _⟩ := (HL.out.below hS12.2.2).at hlt
          rw [HX.out] at hx4
          obtain rfl := Option.some.inj hx4
          rw [ht2] at q1
          have q1' : w12.cell? ⟨bd.block, bd.off + 1, none⟩ = some (.int .u64 x.2.1) := by simpa [Addr.add] using q1
          clear ht2 hx4 c18 q0 q1 m0
          go_wp2_with fail
          refine wp_region_held_drew (S := Ext w12) (by kernel_rfl) Ext.start (fun hS => ?_)
          simp only [List.size_toArray, List.length_cons, List.length_nil]
          refine take_at (i := 0) (oi := _) (dst := some 110) (v := ?_) rfl rfl (by kernel_rfl) (by kernel_rfl) (by kernel_rfl) (fun _ _ _ h => h) (Or.inl ⟨by rfl, by intro w hSw; (try dsimp only at hSw); go_simp; (try with_reducible rfl)⟩) (by assumption) ?_; (try simp only [Act.put, List.setIfInBounds_toArray, List.set_cons_zero, List.set_cons_succ])
          refine take_at (i := 1) (oi := _) (dst := some 111) (v := ?_) rfl rfl (by kernel_rfl) (by kernel_rfl) (by kernel_rfl) (fun _ _ _ h => h) (Or.inl ⟨by rfl, by intro w hSw; (try dsimp only at hSw); go_simp; (try with_reducible rfl)⟩) (by assumption) ?_; (try simp only [Act.put, List.setIfInBounds_toArray, List.set_cons_zero, List.set_cons_succ])
          refine take_at (i := 2) (oi := _) (dst := some 112) (v := ?_) rfl rfl (by kernel_rfl) (by kernel_rfl) (by kernel_rfl) (fun _ _ _ h => h) (Or.inl ⟨by rfl, by intro w hSw; (try dsimp only at hSw); go_simp; (try with_reducible rfl)⟩) (by assumption) ?_; (try simp only [Act.put, List.setIfInBounds_toArray, List.set_cons_zero, List.set_cons_succ])
          refine take_at (i := 3) (oi := _) (dst := some 113) (v := ?_) rfl rfl (by kernel_rfl) (by kernel_rfl) (by kernel_rfl) (fun _ _ _ h => h) (Or.inl ⟨by rfl, by intro w hSw; (try dsimp only at hSw); go_simp; (try with_reducible rfl)⟩) (by assumption) ?_; (try simp only [Act.put, List.setIfInBounds_toArray, List.set_cons_zero, List.set_cons_succ])
          refine take_at (i := 4) (oi := _) (dst := some 114) (v := ?_) rfl rfl (by kernel_rfl) (by kernel_rfl) (by kernel_rfl) (fun _ _ _ h => h) (Or.inl ⟨by rfl, by intro w hSw; (try dsimp only at hSw); go_simp; (try with_reducible rfl)⟩) (by assumption) ?_; (try simp only [Act.put, List.setIfInBounds_toArray, List.set_cons_zero, List.set_cons_succ])
          refine take_at (i := 5) (oi := _) (dst := some 115) (v := ?_) rfl rfl (by kernel_rfl) (by kernel_rfl) (by kernel_rfl) (fun _ _ _ h => h) (Or.inl ⟨by rfl, by intro w hSw; (try dsimp only at hSw); go_simp; (try with_reducible rfl)⟩) (by assumption) ?_; (try simp only [Act.put, List.setIfInBounds_toArray, List.set_cons_zero, List.set_cons_succ])
          refine take_at (i := 6) (oi := _) (dst := some 116) (v := ?_) rfl rfl (by kernel_rfl) (by kernel_rfl) (by kernel_rfl) (fun _ _ _ h => h) (Or.inl ⟨by rfl, by intro w hSw; (try dsimp only at hSw); go_simp; (try with_reducible rfl)⟩) (by assumption) ?_; (try simp only [Act.put, List.setIfInBounds_toArray, List.set_cons_zero, List.set_cons_succ])
          refine take_at (i := 7) (oi := _) (dst := some 117) (v := ?_) rfl rfl (by kernel_rfl) (by kernel_rfl) (by kernel_rfl) (fun _ _ _ h => h) (Or.inl ⟨by rfl, by intro w hSw; (try dsimp only at hSw); go_simp; (try with_reducible rfl)⟩) (by assumption) ?_; (try simp only [Act.put, List.setIfInBounds_toArray, List.set_cons_zero, List.set_cons_succ])
          refine take_at (i := 8) (oi := _) (dst := some 118) (v := ?_) rfl rfl (by kernel_rfl) (by kernel_rfl) (by kernel_rfl) (fun _ _ _ h => h) (Or.inl ⟨by rfl, by intro w hSw; (try dsimp only at hSw); go_simp; (try with_reducible rfl)⟩) (by assumption) ?_; (try simp only [Act.put, List.setIfInBounds_toArray, List.set_cons_zero, List.set_cons_succ])
          refine take_at (i := 9) (oi := _) (dst := some 119) (v := ?_) rfl rfl (by kernel_rfl) (by kernel_rfl) (by kernel_rfl) (fun _ _ _ h => h) (Or.inl ⟨by rfl, by intro w hSw; (try dsimp only at hSw); go_simp; (try with_reducible rfl)⟩) (by assumption) ?_; (try simp only [Act.put, List.setIfInBounds_toArray, List.set_cons_zero, List.set_cons_succ])
          refine take_at (i := 10) (oi := _) (dst := some 120) (v := ?_) rfl rfl (by kernel_rfl) (by kernel_rfl) (by kernel_rfl) (fun _ _ _ h => h) (Or.inl ⟨by rfl, by intro w hSw; (try dsimp only at hSw); go_simp; (try with_reducible rfl)⟩) (by assumption) ?_; (try simp only [Act.put, List.setIfInBounds_toArray, List.set_cons_zero, List.set_cons_succ])
          refine take_at (i := 11) (oi := _) (dst := some 121) (v := ?_) rfl rfl (by kernel_rfl) (by kernel_rfl) (by kernel_rfl) (fun _ _ _ h => h) (Or.inl ⟨by rfl, by intro w hSw; (try dsimp only at hSw); go_simp; (try with_reducible rfl)⟩) (by assumption) ?_; (try simp only [Act.put, List.setIfInBounds_toArray, List.set_cons_zero, List.set_cons_succ])
          refine take_at (i := 12) (oi := _) (dst := some 122) (v := ?_) rfl rfl (by kernel_rfl) (by kernel_rfl) (by kernel_rfl) (fun _ _ _ h => h) (Or.inl ⟨by rfl, by intro w hSw; (try dsimp only at hSw); go_simp; (try with_reducible rfl)⟩) (by assumption) ?_; (try simp only [Act.put, List.setIfInBounds_toArray, List.set_cons_zero, List.set_cons_succ])
          refine take_at (i := 13) (oi := _) (dst := some 123) (v := ?_) rfl rfl (by kernel_rfl) (by kernel_rfl) (by kernel_rfl) (fun _ _ _ h => h) (Or.inl ⟨by rfl, by intro w hSw; (try dsimp only at hSw); go_simp; (try with_reducible rfl)⟩) (by assumption) ?_; (try simp only [Act.put, List.setIfInBounds_toArray, List.set_cons_zero, List.set_cons_succ])
          refine take_at (i := 14) (oi := _) (dst := some 124) (v := ?_) rfl rfl (by kernel_rfl) (by kernel_rfl) (by kernel_rfl) (fun _ _ _ h => h) (Or.inl ⟨by rfl, by intro w hSw; (try dsimp only at hSw); go_simp; (try with_reducible rfl)⟩) (by assumption) ?_; (try simp only [Act.put, List.setIfInBounds_toArray, List.set_cons_zero, List.set_cons_succ])
          refine take_at (i := 15) (oi := _) (dst := some 125) (v := ?_) rfl rfl (by kernel_rfl) (by kernel_rfl) (by kernel_rfl) (fun _ _ _ h => h) (Or.inl ⟨by rfl, by intro w hSw; (try dsimp only at hSw); go_simp; (try with_reducible rfl)⟩) (by assumption) ?_; (try simp only [Act.put, List.setIfInBounds_toArray, List.set_cons_zero, List.set_cons_succ])
          refine take_at (i := 16) (oi := _) (dst := some 126) (v := ?_) rfl rfl (by kernel_rfl) (by kernel_rfl) (by kernel_rfl) (fun _ _ _ h => h) (Or.inl ⟨by rfl, by intro w hSw; (try dsimp only at hSw); go_simp; (try with_reducible rfl)⟩) (by assumption) ?_; (try simp only [Act.put, List.setIfInBounds_toArray, List.set_cons_zero, List.set_cons_succ])
          refine take_at (i := 17) (oi := _) (dst := some 127) (v := ?_) rfl rfl (by kernel_rfl) (by kernel_rfl) (by kernel_rfl) (fun _ _ _ h => h) (Or.inl ⟨by rfl, by intro w hSw; (try dsimp only at hSw); go_simp; (try with_reducible rfl)⟩) (by assumption) ?_; (try simp only [Act.put, List.setIfInBounds_toArray, List.set_cons_zero, List.set_cons_succ])
          refine take_at (i := 18) (oi := _) (dst := some 128) (v := ?_) rfl rfl (by kernel_rfl) (by kernel_rfl) (by kernel_rfl) (fun _ _ _ h => h) (Or.inl ⟨by rfl, by intro w hSw; (try dsimp only at hSw); go_simp; (try with_reducible rfl)⟩) (by assumption) ?_; (try simp only [Act.put, List.setIfInBounds_toArray, List.set_cons_zero, List.set_cons_succ])
          refine wpAnyH_done (by kernel_rfl) ?_ _
          go_wp2
          go_roundw
          case rel => exact ⟨i + 1, by go_num, by omega, hr12.drew⟩
          case measure => simp [intOf]; omega
      · obtain rfl : i = r := by omega
        have b1 : ¬ (i : Int) < (i : Int) := by omega
        go_wp2
        go_ret
        exact ⟨rfl, hwr⟩
end Go.Proofs.Ytglabhfmeinogaa

/- RaftlogKeeps: the law's walk. -/
import Derived.Deep.DeepCutAuto
import Derived.Test.YtglabhfmeinogaaLKeep
namespace Go.Proofs.Ytglabhfmeinogaa
open Go.RowKit Go.Gz
attribute [local go_sem] World.cell?_alloc_some frozen?_alloc_some

/-- What Merge answers here, in one word. -/
theorem keep_one {w : World} {base : Nat} {bi bt cm ix tm : Int} {na nb nd n m : Nat} {l k z : List Int} {xs more : List Ent} {e : Ending} (hrun : runB bi bt xs = true) (hxl : xs.length = n) (hml : more.length = m) (hf : ∀ x ∈ xs, Fits x) (hfm : ∀ x ∈ more, Fits x)
    (h : MergeIs w base bi bt cm ix tm na nb nd n m l k z xs more e) : ∃ (b1 b2 : Int) (A4 : Option Addr) (n4 a4 : Nat) (B4 : Option Addr) (m4 b4 : Nat) (D4 : Option Addr) (d4 f4 : Nat) (O4 : Option Addr) (y c4 : Nat) (cut : Int) (C : Option Addr) (q cc : Nat) (E : Int) (ys : List Ent),
      e = .returned (.tuple #[lg b1 b2 A4 n4 a4 B4 m4 b4 D4 d4 f4 O4 y c4, .int .u64 cut, .slice C q cc, .int .i64 E]) ∧
      (E ≠ 0 ∨ E = 0 ∧ b1 = bi ∧ b2 = bt ∧ Right bi ys ∧ (∀ y ∈ ys, Fits y) ∧ y ≤ n + m ∧ IsEs w O4 y ys ∧ q ≤ m ∧ runB bi bt ys = true ∧ (cut = 0 ∨ cm < cut ∧ bi < cut) ∧ (∀ x ∈ xs, x.1 ≤ cm → termO bi bt ys x.1 = some x.2.1) ∧ (∀ y ∈ more, termO bi bt ys y.1 = some y.2.1)) := by
  rcases keep_ok hrun hxl hml hf hfm h with ⟨E, hE, rfl⟩ | ⟨ys, v, cut, C, q, cc, h1, h2, h3, ⟨A4, a4, B4, b4, D4, f4, O4, c4, rfl, hs, he⟩, rfl, h4, h5, h6, h7, h8⟩
  · exact ⟨0, 0, none, 0, 0, none, 0, 0, none, 0, 0, none, 0, 0, 0, none, 0, 0, E, [], rfl, .inl hE⟩
  · exact ⟨bi, bt, A4, na, a4, B4, nb, b4, D4, nd, f4, O4, ys.length, c4, cut, C, q, cc, 0, ys, rfl, .inr ⟨rfl, rfl, rfl, h1, h2, h3, he.is, h4, h5, h6, h7, h8⟩⟩

set_option maxRecDepth 100000 in
set_option maxHeartbeats 16000000 in
theorem lawKeeps_any (bi bt : Int) (A : Option Addr) (na ca : Nat) (B : Option Addr) (nb cb : Nat) (D : Option Addr) (nd cd : Nat) (O : Option Addr) (n c : Nat) (l k z : List Int) (xs : List Ent) (cm ix tm : Int) (M : Option Addr) (m mc : Nat) (more : List Ent) (sx : Int) (w : World)
    (h : IsLog w A B D O na nb nd n l k z xs) (hf : ∀ x ∈ xs, Fits x) (hnc : n ≤ c) (hna : na * 8 ≤ 140737488355328) (hnb : nb * 8 ≤ 140737488355328) (hnd : nd ≤ 140737488355328) (hb0 : 0 ≤ bi) (hb1 : bi < 18446744073709551616)
    (hM : IsEs w M m more) (hfm : ∀ x ∈ more, Fits x) (hmc : m ≤ mc) (hns : n ≤ 1048576) (hms : m ≤ 1048576) (hi0 : 0 ≤ ix) (hi1 : ix < 18446744073709551616) (hs0 : 0 ≤ sx) (hs1 : sx < 18446744073709551616) :
    Calls Try.prog 4 #[.agg #[.int .u64 bi, .int .u64 bt, .slice A na ca, .slice B nb cb, .slice D nd cd, .slice O n c, .int .u64 cm, .int .u64 ix, .int .u64 tm, .slice M m mc], .int .u64 sx] w fun e w' => e = .returned (.bool true) ∧ Below w.heap.size w w' := by
  have H := Lib.hid h
  have HF := Lib.hid hf
  have HM := Lib.hid hM
  have HFM := Lib.hid hfm
  have hxl := Lib.hid h.2.len
  have hml := Lib.hid hM.len
  clear h hf hM hfm
  go_enter Try.func4, Try.ntmps4
  go_wp2_with fail
  refine name_calls (fun w1 hw1 => ?_)
  have k1 : Blk w1 w.heap.size [.int .u64 bi, .int .u64 bt, .slice A na ca, .slice B nb cb, .slice D nd cd, .slice O n c, .int .u64 cm, .int .u64 ix, .int .u64 tm, .slice M m mc] := by rw [hw1]; exact Blk.new _ _ _ _ rfl
  have hb1' : Below w.heap.size w w1 := by rw [hw1]; exact (by (repeat first | refine Below.setCell ?_ (by first | omega | (dsimp only; omega) | (simp only [heap_drew, World.size_alloc, Gz.size_setCell]; omega)) _ | refine Below.alloc ?_ (by first | omega | (dsimp only; omega) | (simp only [heap_drew, World.size_alloc, Gz.size_setCell]; omega)) _ | refine Below.drew ?_); exact Below.refl _ _)
  clear hw1
  refine (head_any w1).mono ?_
  rintro e w2 ⟨rfl, hb2⟩
  have k1 := k1.ext hb2
  have hb2 := hb1'.trans (hb2.mono hb1'.size)
  have c1 := k1.cell
  go_wp2_with fail
  refine (checkX_any bi bt A na ca B nb cb D nd cd O n c xs w2 (H.out.2.below hb2) (by omega) hb0 hb1).mono ?_
  rintro e w3 ⟨rfl, hb3⟩
  have k1 := k1.ext hb3
  have hb3 := hb2.trans (hb3.mono hb2.size)
  obtain ⟨b, hb⟩ : ∃ b, b = chkB bi bt xs := ⟨_, rfl⟩
  rw [← hb]
  have HB := Lib.hid hb
  clear hb c1
  cases b with
  | false =>
    go_wp2
    go_ret
    exact ⟨rfl, hb3⟩
  | true =>
    have HCHK := Lib.hid (show bt < 4611686018427387904 ∧ runB bi bt xs = true by have := HB.out.symm; simpa [chkB] using this)
    have HRT := Lib.hid (right_of_run HCHK.out.2)
    have c1 := k1.cell
    go_wp2_with fail
    refine (merge_any bi bt A na ca B nb cb D nd cd O n c l k z xs cm ix tm M m mc more w3 (H.out.below hb3) HF.out hna hnb hnd HRT.out (HM.out.below hb3) HFM.out hmc (by omega) hi0 hi1).mono ?_
    rintro e w4 ⟨hb4, hm⟩
    have k1 := k1.ext hb4
    have hz4 := hb4.size
    have hb4 := hb3.trans (hb4.mono hb3.size)
    obtain ⟨b1, b2, A4, n4, a4, B4, m4, b4, D4, d4, f4, O4, y, c4, cut, C, q, cc, E, ys, rfl, hE⟩ := keep_one HCHK.out.2 hxl.out hml.out HF.out HFM.out hm
    have HE := Lib.hid hE
    clear hm hE c1
    go_wp2_with (with_reducible refine stop_store ?_)
    refine hide (name_list (fun w5 hw5 => ?_))
    have hbw : Below w4.heap.size w4 w5 := by rw [hw5]; exact below_alloc_one _ _
    have k7 : Blk w5 w4.heap.size [.int .u64 0, .int .u64 0, .slice none 0 0, .slice none 0 0, .slice none 0 0, .slice none 0 0] := by rw [hw5]; exact Blk.new _ _ _ _ rfl
    have hz5 : w5.heap.size = w4.heap.size + 1 := by rw [hw5]; simp
    clear hw5
    have k1lt := k1.lt
    have k1 := k1.ext hbw
    refine hide (wpList_store_blk rfl 31 (.tmp 7) (.tmp 56) rfl w4.heap.size [.int .u64 b1, .int .u64 b2, .slice A4 n4 a4, .slice B4 m4 b4, .slice D4 d4 f4, .slice O4 y c4] rfl rfl _ k7 rfl (by kernel_rfl) rfl ?_)
    intro w6 k7 hg6 hz6
    have k1 := blk_grown k1 hg6 (by omega)
    have hb46 : Below w4.heap.size w4 w6 := below_grown hbw hg6 (by omega) (by omega)
    have hb6 := hb4.trans (hb46.mono hb4.size)
    clear hg6 hz6 hz5 hbw
    go_upto_if 61 with fail
    go_cut [] (fun wx => Below w6.heap.size w6 wx)
    case first =>
      rcases HE.out with hE | ⟨hE, rfl, rfl, hR, hfy, hyl, hys, hq, hrun, hct, hold, hmore⟩
      · have hE0 : (E == 0) = false := beq_eq_false_iff_ne.2 hE
        go_wp2
        go_meet
        case rel => exact Below.refl _ _
      · subst hE
        have HRY := Lib.hid hR
        have HFY := Lib.hid hfy
        have HY := Lib.hid (hys.below hb46)
        have HOLD := Lib.hid hold
        have HMORE := Lib.hid hmore
        have hchk : chkB b1 b2 ys = true := by simp only [chkB, Bool.and_eq_true, decide_eq_true_eq]; exact ⟨HCHK.out.1, hrun⟩
        have hzn : y = ys.length := hys.len.symm
        have HZN := Lib.hid hzn
        clear hR hfy hys hold hmore hrun hzn
        go_upto_region 7 with fail
        go_cut [90] (fun s90 wx => s90 = .bool false ∧ Below w6.heap.size w6 wx)
        case first =>
          have c7 := k7.cell
          go_wp2_with fail
          refine (check_any b1 b2 A4 n4 a4 B4 m4 b4 D4 d4 f4 O4 y c4 ys w6 HY.out HFY.out (by omega) hb0 hb1).mono ?_
          rintro e w7 ⟨rfl, hb7⟩
          rw [hchk]
          have c1 := (k1.ext hb7).cell
          have bq : ¬ (m : Int) < (q : Int) := by omega
          clear c7
          rcases hct with rfl | ⟨h1, h2⟩
          · go_wp2
            go_meet
            case rel => exact ⟨by rw [decide_eq_false (by omega)], hb7⟩
          · have g0 : (cut != 0) = true := bne_iff_ne.2 (by omega)
            have g1 : ¬ cut ≤ cm := by omega
            have g2 : ¬ cut ≤ b1 := by omega
            go_wp2
            go_meet
            case rel => exact ⟨by rw [decide_eq_false (by omega), decide_eq_false (by omega), decide_eq_false (by omega)]; rfl, hb7⟩
        case rest =>
          obtain ⟨rfl, hbc⟩ := hcut
          clear hct
          go_upto_region 9 with fail
          go_cut [11] (fun s11 wx => s11 = .int .i64 0 ∧ Below w6.heap.size w6 wx)
          case first =>
            go_wp2
            go_meet
            case rel => exact ⟨rfl, hbc⟩
          case rest =>
          clear hbc
          obtain ⟨rfl, hbc⟩ := hcut
          rename_i hk
          refine hk _ _ ?_
          clear hk
          go_cut [] (fun wx => Below w6.heap.size w6 wx)
          case first =>
            go_wp2_with fail
            go_loopw [11] (fun s11 wr => ∃ i : Nat, s11 = .int .i64 i ∧ i ≤ n ∧ Below w6.heap.size w6 wr) (fun s11 _ => (n - intOf s11).toNat)
            case atStart => exact ⟨0, rfl, by omega, hbc⟩
            case round =>
              obtain ⟨i, rfl, hi, hbr⟩ := hrel
              have c1 := (k1.ext hbr).cell
              have c7 := (k7.ext hbr).cell
              have hwr := hb6.trans (hbr.mono hb6.size)
              have HX := Lib.hid (H.out.2.below hwr)
              by_cases hlt : i < n
              · have q1 : (i : Int) < (n : Int) := by omega
                cases O with
                | none => obtain ⟨zs, _, h2, h3, _⟩ := HX.out; have := h3.2.1 rfl; omega
                | some ad =>
                obtain ⟨x, E1, d1, E2, d2, E3, d3, hx, _, _, _, g0, g1, g2, g3, g4, g5⟩ := HX.out.at hlt
                have HXM := Lib.hid (List.mem_of_getElem? hx)
                clear hx
                go_wp2_with (with_reducible refine stop_store ?_)
                refine hide (name_list (fun w8 hw8 => ?_))
                have hbw8 : Below wr.heap.size wr w8 := by rw [hw8]; exact below_alloc_one _ _
                have k12 : Blk w8 wr.heap.size [.int .u64 0, .int .u64 0, .int .i64 0, .slice none 0 0, .slice none 0 0, .slice none 0 0] := by rw [hw8]; exact Blk.new _ _ _ _ rfl
                have hz8 : w8.heap.size = wr.heap.size + 1 := by rw [hw8]; simp
                clear hw8
                refine hide (wpList_store_blk rfl 47 (.tmp 12) (.tmp 104) rfl wr.heap.size [.int .u64 x.1, .int .u64 x.2.1, .int .i64 x.2.2.1, .slice E1 x.2.2.2.1.length d1, .slice E2 x.2.2.2.2.1.length d2, .slice E3 x.2.2.2.2.2.length d3] rfl rfl _ k12 rfl (by kernel_rfl) rfl ?_)
                intro w9 k12 hg9 hz9
                have hb9 : Below wr.heap.size wr w9 := below_grown hbw8 hg9 (Nat.le_refl _) (by omega)
                have hb9' := hbr.trans (hb9.mono hbr.size)
                clear c1 c7 g0 g1 g2 g3 g4 g5 hg9 hz9 hz8 hbw8
                have c1 := (k1.ext hb9').cell
                have c7 := (k7.ext hb9').cell
                have c12 := k12.cell
                by_cases hc : cm < x.1
                · go_wp2
                  go_meet
                  case rel => exact hb9'
                · go_wp2_with fail
                  refine (term_any b1 b2 A4 n4 a4 B4 m4 b4 D4 d4 f4 O4 y c4 ys x.1 w9 (HY.out.below hb9') (by omega)).mono ?_
                  rintro e w10 ⟨hb10, t, b, rfl, hT⟩
                  have hT := (hT HRY.out).symm.trans (HOLD.out x HXM.out (by omega))
                  cases b with
                  | false => cases hT
                  | true =>
                  obtain rfl : t = x.2.1 := Option.some.inj hT
                  have hb10' := hb9'.trans (hb10.mono hb9'.size)
                  clear c1 c7 c12 hT
                  have c1 := (k1.ext hb10').cell
                  have c7 := (k7.ext hb10').cell
                  have c12 := (k12.ext hb10).cell
                  go_wp2
                  go_roundw
                  case rel => exact ⟨i + 1, by go_num, by omega, hb10'⟩
                  case measure => simp [intOf]; omega
              · obtain rfl : i = n := by omega
                have q1 : ¬ (i : Int) < (i : Int) := by omega
                go_wp2
                go_meet
                case rel => exact hbr
          case rest =>
            have hbc := hcut
            clear hcut
            go_wp2_with fail
            go_loopw [15] (fun s15 wr => ∃ i : Nat, s15 = .int .i64 i ∧ i ≤ m ∧ Below w6.heap.size w6 wr) (fun s15 _ => (m - intOf s15).toNat)
            case atStart => exact ⟨0, rfl, by omega, hbc⟩
            case round =>
              obtain ⟨i, rfl, hi, hbr⟩ := hrel
              have c1 := (k1.ext hbr).cell
              have c7 := (k7.ext hbr).cell
              have hwr := hb6.trans (hbr.mono hb6.size)
              have HX := Lib.hid (HM.out.below hwr)
              by_cases hlt : i < m
              · have q1 : (i : Int) < (m : Int) := by omega
                cases M with
                | none => obtain ⟨zs, _, h2, h3, _⟩ := HX.out; have := h3.2.1 rfl; omega
                | some ad =>
                obtain ⟨x, E1, d1, E2, d2, E3, d3, hx, _, _, _, g0, _⟩ := HX.out.at hlt
                have HXM := Lib.hid (List.mem_of_getElem? hx)
                go_wp2_with fail
                refine wp_region_held_drew (S := Ext wr) (by kernel_rfl) Ext.start (fun hS => ?_)
                simp only [List.size_toArray, List.length_cons, List.length_nil]
                refine take_at (i := 0) (oi := _) (dst := some 133) (v := ?_) rfl rfl (by kernel_rfl) (by kernel_rfl) (by kernel_rfl) (fun _ _ _ h => h) (Or.inl ⟨by rfl, by intro w hSw; (try dsimp only at hSw); go_simp; (try with_reducible rfl)⟩) (by assumption) ?_; (try simp only [Act.put, List.setIfInBounds_toArray, List.set_cons_zero, List.set_cons_succ])
                refine take_at (i := 1) (oi := _) (dst := some 134) (v := ?_) rfl rfl (by kernel_rfl) (by kernel_rfl) (by kernel_rfl) (fun _ _ _ h => h) (Or.inl ⟨by rfl, by intro w hSw; (try dsimp only at hSw); go_simp; (try with_reducible rfl)⟩) (by assumption) ?_; (try simp only [Act.put, List.setIfInBounds_toArray, List.set_cons_zero, List.set_cons_succ])
                refine take_at (i := 2) (oi := _) (dst := some 135) (v := ?_) rfl rfl (by kernel_rfl) (by kernel_rfl) (by kernel_rfl) (fun _ _ _ h => h) (Or.inl ⟨by rfl, by intro w hSw; (try dsimp only at hSw); go_simp; (try with_reducible rfl)⟩) (by assumption) ?_; (try simp only [Act.put, List.setIfInBounds_toArray, List.set_cons_zero, List.set_cons_succ])
                refine take_at (i := 3) (oi := _) (dst := some 136) (v := ?_) rfl rfl (by kernel_rfl) (by kernel_rfl) (by kernel_rfl) (fun _ _ _ h => h) (Or.inl ⟨by rfl, by intro w hSw; (try dsimp only at hSw); go_simp; (try with_reducible rfl)⟩) (by assumption) ?_; (try simp only [Act.put, List.setIfInBounds_toArray, List.set_cons_zero, List.set_cons_succ])
                refine take_at (i := 4) (oi := _) (dst := some 137) (v := ?_) rfl rfl (by kernel_rfl) (by kernel_rfl) (by kernel_rfl) (fun _ _ _ h => h) (Or.inl ⟨by rfl, by intro w hSw; (try dsimp only at hSw); go_simp; (try with_reducible rfl)⟩) (by assumption) ?_; (try simp only [Act.put, List.setIfInBounds_toArray, List.set_cons_zero, List.set_cons_succ])
                refine take_at (i := 5) (oi := _) (dst := some 138) (v := ?_) rfl rfl (by kernel_rfl) (by kernel_rfl) (by kernel_rfl) (fun _ _ _ h => h) (Or.inl ⟨by rfl, by intro w hSw; (try dsimp only at hSw); go_simp; (try with_reducible rfl)⟩) (by assumption) ?_; (try simp only [Act.put, List.setIfInBounds_toArray, List.set_cons_zero, List.set_cons_succ])
                refine take_at (i := 6) (oi := _) (dst := some 139) (v := ?_) rfl rfl (by kernel_rfl) (by kernel_rfl) (by kernel_rfl) (fun _ _ _ h => h) (Or.inl ⟨by rfl, by intro w hSw; (try dsimp only at hSw); go_simp; (try with_reducible rfl)⟩) (by assumption) ?_; (try simp only [Act.put, List.setIfInBounds_toArray, List.set_cons_zero, List.set_cons_succ])
                refine wpAnyH_ready (rs := [7]) (by kernel_rfl) (by simp) ?_; refine AllReadyH.cons (o := _) rfl (fun K hK => ?_) AllReadyH.nil; go_simp
                refine (term_any b1 b2 A4 n4 a4 B4 m4 b4 D4 d4 f4 O4 y c4 ys x.1 _ (HY.out.below (hbr.trans (hS.2.2.mono hbr.size))) (by omega)).mono ?_
                rintro e w8 ⟨hb8, t, b, rfl, hT⟩
                have hT := (hT HRY.out).symm.trans (HMORE.out x HXM.out)
                cases b with
                | false => cases hT
                | true =>
                obtain rfl : t = x.2.1 := Option.some.inj hT
                refine hK.out _ _ (Ext.below hS hb8) (fun hS8 => ?_)
                clear hK hT
                refine take_at (i := 8) (oi := _) (dst := some 132) (v := ?_) rfl rfl (by kernel_rfl) (by kernel_rfl) (by kernel_rfl) (fun _ _ _ h => h) (Or.inl ⟨by rfl, by intro w hSw; (try dsimp only at hSw); go_simp; (try with_reducible rfl)⟩) (by assumption) ?_; (try simp only [Act.put, List.setIfInBounds_toArray, List.set_cons_zero, List.set_cons_succ])
                refine take_at (i := 9) (oi := _) (dst := some 141) (v := ?_) rfl rfl (by kernel_rfl) (by kernel_rfl) (by kernel_rfl) (fun _ _ _ h => h) (Or.inl ⟨by rfl, by intro w hSw; (try dsimp only at hSw); go_simp; (try with_reducible rfl)⟩) (by assumption) ?_; (try simp only [Act.put, List.setIfInBounds_toArray, List.set_cons_zero, List.set_cons_succ])
                refine take_at (i := 10) (oi := _) (dst := some 142) (v := ?_) rfl rfl (by kernel_rfl) (by kernel_rfl) (by kernel_rfl) (fun _ _ _ h => h) (Or.inl ⟨by rfl, by intro w hSw; (try dsimp only at hSw); go_simp; (try with_reducible rfl)⟩) (by assumption) ?_; (try simp only [Act.put, List.setIfInBounds_toArray, List.set_cons_zero, List.set_cons_succ])
                refine take_at (i := 11) (oi := _) (dst := some 16) (v := ?_) rfl rfl (by kernel_rfl) (by kernel_rfl) (by kernel_rfl) (fun _ _ _ h => h) (Or.inl ⟨by rfl, by intro w hSw; (try dsimp only at hSw); go_simp; (try with_reducible rfl)⟩) (by assumption) ?_; (try simp only [Act.put, List.setIfInBounds_toArray, List.set_cons_zero, List.set_cons_succ])
                refine take_at (i := 12) (oi := _) (dst := some 17) (v := ?_) rfl rfl (by kernel_rfl) (by kernel_rfl) (by kernel_rfl) (fun _ _ _ h => h) (Or.inl ⟨by rfl, by intro w hSw; (try dsimp only at hSw); go_simp; (try with_reducible rfl)⟩) (by assumption) ?_; (try simp only [Act.put, List.setIfInBounds_toArray, List.set_cons_zero, List.set_cons_succ])
                refine wpAnyH_done (by kernel_rfl) ?_ _
                have hb8' := hbr.trans (hS8.2.2.mono hbr.size)
                clear c1 c7 g0 hS hS8
                have c1 := (k1.ext hb8').cell
                obtain ⟨x', _, _, _, _, _, _, hx', _, _, _, g0, g1, _⟩ := (HM.out.below (hb6.trans (hb8'.mono hb6.size))).at hlt
                rw [hx] at hx'
                obtain rfl := Option.some.inj hx'
                clear hx hx' g0
                go_wp2
                go_roundw
                case rel => exact ⟨i + 1, by go_num, by omega, hb8'⟩
                case measure => simp [intOf]; omega
              · obtain rfl : i = m := by omega
                have q1 : ¬ (i : Int) < (i : Int) := by omega
                go_wp2
                go_meet
                case rel => exact hbr
    case rest =>
      have hbc := hcut
      have hwc := hb6.trans (hbc.mono hb6.size)
      have k1 := k1.ext hbc
      have c1 := k1.cell
      clear hcut HE k7
      go_wp2_with fail
      refine (compact_any bi bt A na ca B nb cb D nd cd O n c l k z xs sx none 0 0 [] wc (H.out.below hwc) HF.out hna hnb hnc (by omega) ⟨rfl, fun _ => rfl, fun ad e => (by cases e)⟩ (by omega)).mono ?_
      rintro e w7 ⟨hb7, hno | hyes⟩
      · obtain ⟨_, rfl⟩ := hno
        have hb7' := hwc.trans (hb7.mono hwc.size)
        have hz7 := hb7'.size
        go_wp2_with (with_reducible refine stop_store ?_)
        refine hide (name_list (fun w8 hw8 => ?_))
        have hbw8 : Below w7.heap.size w7 w8 := by rw [hw8]; exact below_alloc_one _ _
        have k18 : Blk w8 w7.heap.size [.int .u64 0, .int .u64 0, .slice none 0 0, .slice none 0 0, .slice none 0 0, .slice none 0 0] := by rw [hw8]; exact Blk.new _ _ _ _ rfl
        have hz8 : w8.heap.size = w7.heap.size + 1 := by rw [hw8]; simp
        clear hw8
        refine hide (wpList_store_blk rfl 31 (.tmp 18) (.tmp 160) rfl w7.heap.size [.int .u64 0, .int .u64 0, .slice none 0 0, .slice none 0 0, .slice none 0 0, .slice none 0 0] rfl rfl _ k18 rfl (by kernel_rfl) rfl ?_)
        intro w9 k18 hg9 hz9
        have hb9 := hb7'.trans ((below_grown hbw8 hg9 (Nat.le_refl _) (by omega)).mono hb7'.size)
        clear hg9 hz9 k18
        go_wp2
        go_ret
        exact ⟨rfl, hb9⟩
      · obtain ⟨⟨h1, h2⟩, p, t, b, l', k', ix', n', m', v, hp, hA, hU, hT, hLC, ⟨A6, a6, B6, b6, D6, f6, O6, c6, rfl, hos, hoe⟩, rfl⟩ := hyes
        have HCI := Lib.hid (compact_is HCHK.out.2 h1 (by have := hxl.out; omega) hA hU h2 hT)
        have HLC := Lib.hid hLC
        have hb7' := hwc.trans (hb7.mono hwc.size)
        have hz7 := hb7'.size
        obtain ⟨r, hr⟩ : ∃ r, r = n - (p + 1) := ⟨_, rfl⟩
        rw [← hr] at hoe ⊢
        have hrn : r ≤ n := by omega
        obtain ⟨dr, hdr⟩ : ∃ dr, dr = xs.drop (p + 1) := ⟨_, rfl⟩
        rw [← hdr] at hoe
        have HDR := Lib.hid hdr
        have HIB := Lib.hid (show IsLog w7 A6 B6 D6 O6 n' m' 0 r l' k' [] dr from ⟨hos.is, hoe.is⟩)
        have HFD := Lib.hid (show ∀ x ∈ dr, Fits x from fun x hx => HF.out x (by rw [hdr] at hx; exact List.mem_of_mem_drop hx))
        have hsm' := lastConf_small hLC (fun x hx => HF.out x (List.mem_of_mem_take hx)) (by have := (H.out.1.1.1.len); omega) (by have := (H.out.1.1.2.len); omega)
        have hn' : n' * 8 ≤ 140737488355328 := by have := hos.is.1.1.len; omega
        have hm' : m' * 8 ≤ 140737488355328 := by have := hos.is.1.2.len; omega
        clear hA hU hT hLC hos hoe h1 h2 hr hdr hsm' c1
        have k1 := k1.ext hb7
        go_wp2_with (with_reducible refine stop_store ?_)
        refine hide (name_list (fun w8 hw8 => ?_))
        have hbw8 : Below w7.heap.size w7 w8 := by rw [hw8]; exact below_alloc_one _ _
        have k18 : Blk w8 w7.heap.size [.int .u64 0, .int .u64 0, .slice none 0 0, .slice none 0 0, .slice none 0 0, .slice none 0 0] := by rw [hw8]; exact Blk.new _ _ _ _ rfl
        have hz8 : w8.heap.size = w7.heap.size + 1 := by rw [hw8]; simp
        clear hw8
        refine hide (wpList_store_blk rfl 31 (.tmp 18) (.tmp 160) rfl w7.heap.size [.int .u64 sx, .int .u64 t, .slice A6 n' a6, .slice B6 m' b6, .slice D6 0 f6, .slice O6 r c6] rfl rfl _ k18 rfl (by kernel_rfl) rfl ?_)
        intro w9 k18 hg9 hz9
        have hb79 : Below w7.heap.size w7 w9 := below_grown hbw8 hg9 (Nat.le_refl _) (by omega)
        have hb9 := hb7'.trans (hb79.mono hb7'.size)
        have k1 := k1.ext hb79
        clear hg9 hz9 hbw8 hz8
        have c1 := k1.cell
        go_wp2_with fail
        refine (last_any bi bt A na ca B nb cb D nd cd O n c xs w9 (H.out.2.below hb9) (by omega)).mono ?_
        rintro e wa ⟨rfl, hba⟩
        obtain ⟨la, hla⟩ : ∃ la, la = lastI bi xs := ⟨_, rfl⟩
        obtain ⟨lt, hlt⟩ : ∃ lt, lt = lastT bt xs := ⟨_, rfl⟩
        rw [← hla, ← hlt]
        have HLA := Lib.hid hla
        have HLT := Lib.hid hlt
        have hba' := hb9.trans (hba.mono hb9.size)
        have hb7a := hb79.trans (hba.mono hb79.size)
        have k1 := k1.ext hba
        have k18 := k18.ext hba
        clear hla hlt c1
        have c18 := k18.cell
        go_wp2_with fail
        refine (last_any sx t A6 n' a6 B6 m' b6 D6 0 f6 O6 r c6 dr wa (HIB.out.2.below hb7a) (by omega)).mono ?_
        rintro e wb ⟨rfl, hbb⟩
        rw [show lastI sx dr = la by rw [HLA.out, HDR.out]; exact HCI.out.2.2.2.1, show lastT t dr = lt by rw [HLT.out, HDR.out]; exact HCI.out.2.2.2.2]
        have hbb' := hba'.trans (hbb.mono hba'.size)
        have hb7b := hb7a.trans (hbb.mono hb7a.size)
        have k1 := k1.ext hbb
        have k18 := k18.ext hbb
        clear c18
        have c1 := k1.cell
        go_wp2_with fail
        refine (lastConf_any bi bt A na ca B nb cb D nd cd O n c l k z xs wb (H.out.below hbb') HF.out hna hnb (by omega)).mono ?_
        rintro e wc1 ⟨hbc1, A8, n8, a8, B8, m8, b8, l8, k8, i8, rfl, ho8, hl8⟩
        have hbc1' := hbb'.trans (hbc1.mono hbb'.size)
        have hb7c := hb7b.trans (hbc1.mono hb7b.size)
        have k1 := k1.ext hbc1
        have k18 := k18.ext hbc1
        have HC8 := Lib.hid ho8.is
        have HL8 := Lib.hid hl8
        clear ho8 hl8 c1
        go_wp2_with (with_reducible refine stop_store ?_)
        refine hide (name_list (fun wd hwd => ?_))
        have hbwd : Below wc1.heap.size wc1 wd := by rw [hwd]; exact below_alloc_one _ _
        have k24 : Blk wd wc1.heap.size [.slice none 0 0, .slice none 0 0] := by rw [hwd]; exact Blk.new _ _ _ _ rfl
        have hzd : wd.heap.size = wc1.heap.size + 1 := by rw [hwd]; simp
        clear hwd
        refine hide (wpList_store_blk rfl 25 (.tmp 24) (.tmp 179) rfl wc1.heap.size [.slice A8 n8 a8, .slice B8 m8 b8] rfl rfl _ k24 rfl (by kernel_rfl) rfl ?_)
        intro we k24 hge hze
        have hbce : Below wc1.heap.size wc1 we := below_grown hbwd hge (Nat.le_refl _) (by omega)
        have hbe' := hbc1'.trans (hbce.mono hbc1'.size)
        have hb7e := hb7c.trans (hbce.mono hb7c.size)
        have k1 := k1.ext hbce
        have k18 := k18.ext hbce
        have HC8 := Lib.hid (HC8.out.below hbce)
        clear hge hze hbwd hzd
        have c18 := k18.cell
        go_wp2_with fail
        refine (lastConf_any sx t A6 n' a6 B6 m' b6 D6 0 f6 O6 r c6 l' k' [] dr we (HIB.out.below hb7e) HFD.out hn' hm' (by omega)).mono ?_
        rintro e wf ⟨hbf, A9, n9, a9, B9, m9, b9, l9, k9, i9, rfl, ho9, hl9⟩
        have hbf' := hbe'.trans (hbf.mono hbe'.size)
        have hb7f := hb7e.trans (hbf.mono hb7e.size)
        have k1 := k1.ext hbf
        have k18 := k18.ext hbf
        have k24 := k24.ext hbf
        have HC8 := Lib.hid (HC8.out.below hbf)
        have hlk : l9 = l8 ∧ k9 = k8 := lastConf_cut HL8.out HLC.out (by rw [← HDR.out]; exact hl9)
        obtain ⟨rfl, rfl⟩ := hlk
        have hi9 := ho9.is
        have hsm := lastConf_small HL8.out HF.out (by have := (H.out.1.1.1.len); omega) (by have := (H.out.1.1.2.len); omega)
        have hn9 : n9 = n8 := by have := hi9.1.len; have := HC8.out.1.len; omega
        have hm9 : m9 = m8 := by have := hi9.2.len; have := HC8.out.2.len; omega
        subst hn9 hm9
        have hn9' : n9 ≤ 140737488355328 := by have := hi9.1.len; omega
        have hm9' : m9 ≤ 140737488355328 := by have := hi9.2.len; omega
        have HC9 := Lib.hid hi9
        clear ho9 hl9 hi9 hsm c18
        go_wp2_with (with_reducible refine stop_store ?_)
        refine hide (name_list (fun wg hwg => ?_))
        have hbwg : Below wf.heap.size wf wg := by rw [hwg]; exact below_alloc_one _ _
        have k26 : Blk wg wf.heap.size [.slice none 0 0, .slice none 0 0] := by rw [hwg]; exact Blk.new _ _ _ _ rfl
        have hzg : wg.heap.size = wf.heap.size + 1 := by rw [hwg]; simp
        clear hwg
        refine hide (wpList_store_blk rfl 25 (.tmp 26) (.tmp 184) rfl wf.heap.size [.slice A9 n9 a9, .slice B9 m9 b9] rfl rfl _ k26 rfl (by kernel_rfl) rfl ?_)
        intro wh k26 hgh hzh
        have hbfh : Below wf.heap.size wf wh := below_grown hbwg hgh (Nat.le_refl _) (by omega)
        have hbh' := hbf'.trans (hbfh.mono hbf'.size)
        have hb7h := hb7f.trans (hbfh.mono hb7f.size)
        have k1 := k1.ext hbfh
        have k18 := k18.ext hbfh
        have k24 := k24.ext hbfh
        have HC8 := Lib.hid (HC8.out.below hbfh)
        have HC9 := Lib.hid (HC9.out.below hbfh)
        have HIB := Lib.hid (HIB.out.below hb7h)
        clear hgh hzh hbwg hzg
        go_wp2_with fail
        go_loopw [28] (fun s28 wr => ∃ i : Nat, s28 = .int .i64 i ∧ i ≤ r ∧ Below wh.heap.size wh wr) (fun s28 _ => (r - intOf s28).toNat)
        case atStart => exact ⟨0, rfl, by omega, Below.refl _ _⟩
        case round =>
          obtain ⟨i, rfl, hi, hbr⟩ := hrel
          have c1 := (k1.ext hbr).cell
          have c18 := (k18.ext hbr).cell
          have hwr := hbh'.trans (hbr.mono hbh'.size)
          have HX := Lib.hid (HIB.out.2.below hbr)
          by_cases hlt : i < r
          · have q1 : (i : Int) < (r : Int) := by omega
            cases O6 with
            | none => obtain ⟨zs, _, h2, h3, _⟩ := HX.out; have := h3.2.1 rfl; omega
            | some ad =>
            obtain ⟨x, E1, d1, E2, d2, E3, d3, hx, _, _, _, g0, _⟩ := HX.out.at hlt
            have HXM := Lib.hid (List.mem_of_getElem? hx)
            go_wp2_with fail
            refine wp_region_held_drew (S := Ext wr) (by kernel_rfl) Ext.start (fun hS => ?_)
            simp only [List.size_toArray, List.length_cons, List.length_nil]
            refine take_at (i := 0) (oi := _) (dst := some 194) (v := ?_) rfl rfl (by kernel_rfl) (by kernel_rfl) (by kernel_rfl) (fun _ _ _ h => h) (Or.inl ⟨by rfl, by intro w hSw; (try dsimp only at hSw); go_simp; (try with_reducible rfl)⟩) (by assumption) ?_; (try simp only [Act.put, List.setIfInBounds_toArray, List.set_cons_zero, List.set_cons_succ])
            refine take_at (i := 1) (oi := _) (dst := some 195) (v := ?_) rfl rfl (by kernel_rfl) (by kernel_rfl) (by kernel_rfl) (fun _ _ _ h => h) (Or.inl ⟨by rfl, by intro w hSw; (try dsimp only at hSw); go_simp; (try with_reducible rfl)⟩) (by assumption) ?_; (try simp only [Act.put, List.setIfInBounds_toArray, List.set_cons_zero, List.set_cons_succ])
            refine take_at (i := 2) (oi := _) (dst := some 196) (v := ?_) rfl rfl (by kernel_rfl) (by kernel_rfl) (by kernel_rfl) (fun _ _ _ h => h) (Or.inl ⟨by rfl, by intro w hSw; (try dsimp only at hSw); go_simp; (try with_reducible rfl)⟩) (by assumption) ?_; (try simp only [Act.put, List.setIfInBounds_toArray, List.set_cons_zero, List.set_cons_succ])
            refine take_at (i := 3) (oi := _) (dst := some 197) (v := ?_) rfl rfl (by kernel_rfl) (by kernel_rfl) (by kernel_rfl) (fun _ _ _ h => h) (Or.inl ⟨by rfl, by intro w hSw; (try dsimp only at hSw); go_simp; (try with_reducible rfl)⟩) (by assumption) ?_; (try simp only [Act.put, List.setIfInBounds_toArray, List.set_cons_zero, List.set_cons_succ])
            refine take_at (i := 4) (oi := _) (dst := some 198) (v := ?_) rfl rfl (by kernel_rfl) (by kernel_rfl) (by kernel_rfl) (fun _ _ _ h => h) (Or.inl ⟨by rfl, by intro w hSw; (try dsimp only at hSw); go_simp; (try with_reducible rfl)⟩) (by assumption) ?_; (try simp only [Act.put, List.setIfInBounds_toArray, List.set_cons_zero, List.set_cons_succ])
            refine take_at (i := 5) (oi := _) (dst := some 199) (v := ?_) rfl rfl (by kernel_rfl) (by kernel_rfl) (by kernel_rfl) (fun _ _ _ h => h) (Or.inl ⟨by rfl, by intro w hSw; (try dsimp only at hSw); go_simp; (try with_reducible rfl)⟩) (by assumption) ?_; (try simp only [Act.put, List.setIfInBounds_toArray, List.set_cons_zero, List.set_cons_succ])
            refine take_at (i := 6) (oi := _) (dst := some 200) (v := ?_) rfl rfl (by kernel_rfl) (by kernel_rfl) (by kernel_rfl) (fun _ _ _ h => h) (Or.inl ⟨by rfl, by intro w hSw; (try dsimp only at hSw); go_simp; (try with_reducible rfl)⟩) (by assumption) ?_; (try simp only [Act.put, List.setIfInBounds_toArray, List.set_cons_zero, List.set_cons_succ])
            refine take_at (i := 7) (oi := _) (dst := some 201) (v := ?_) rfl rfl (by kernel_rfl) (by kernel_rfl) (by kernel_rfl) (fun _ _ _ h => h) (Or.inl ⟨by rfl, by intro w hSw; (try dsimp only at hSw); go_simp; (try with_reducible rfl)⟩) (by assumption) ?_; (try simp only [Act.put, List.setIfInBounds_toArray, List.set_cons_zero, List.set_cons_succ])
            refine wpAnyH_ready (rs := [8]) (by kernel_rfl) (by simp) ?_; refine AllReadyH.cons (o := _) rfl (fun K hK => ?_) AllReadyH.nil; go_simp
            refine (term_any bi bt A na ca B nb cb D nd cd O n c xs x.1 _ (H.out.2.below (hwr.trans (hS.2.2.mono hwr.size))) (by omega)).mono ?_
            rintro e wi ⟨hbi, t1, bb, rfl, hT⟩
            have hT := (hT HRT.out).symm.trans (termO_right HRT.out (x := x) (by have := HXM.out; rw [HDR.out] at this; exact List.mem_of_mem_drop this))
            cases bb with
            | false => cases hT
            | true =>
            obtain rfl : t1 = x.2.1 := Option.some.inj hT
            refine hK.out _ _ (Ext.below hS hbi) (fun hSi => ?_)
            clear hK hT
            refine take_at (i := 9) (oi := _) (dst := some 193) (v := ?_) rfl rfl (by kernel_rfl) (by kernel_rfl) (by kernel_rfl) (fun _ _ _ h => h) (Or.inl ⟨by rfl, by intro w hSw; (try dsimp only at hSw); go_simp; (try with_reducible rfl)⟩) (by assumption) ?_; (try simp only [Act.put, List.setIfInBounds_toArray, List.set_cons_zero, List.set_cons_succ])
            refine take_at (i := 10) (oi := _) (dst := some 203) (v := ?_) rfl rfl (by kernel_rfl) (by kernel_rfl) (by kernel_rfl) (fun _ _ _ h => h) (Or.inl ⟨by rfl, by intro w hSw; (try dsimp only at hSw); go_simp; (try with_reducible rfl)⟩) (by assumption) ?_; (try simp only [Act.put, List.setIfInBounds_toArray, List.set_cons_zero, List.set_cons_succ])
            refine take_at (i := 11) (oi := _) (dst := some 204) (v := ?_) rfl rfl (by kernel_rfl) (by kernel_rfl) (by kernel_rfl) (fun _ _ _ h => h) (Or.inl ⟨by rfl, by intro w hSw; (try dsimp only at hSw); go_simp; (try with_reducible rfl)⟩) (by assumption) ?_; (try simp only [Act.put, List.setIfInBounds_toArray, List.set_cons_zero, List.set_cons_succ])
            refine take_at (i := 12) (oi := _) (dst := some 29) (v := ?_) rfl rfl (by kernel_rfl) (by kernel_rfl) (by kernel_rfl) (fun _ _ _ h => h) (Or.inl ⟨by rfl, by intro w hSw; (try dsimp only at hSw); go_simp; (try with_reducible rfl)⟩) (by assumption) ?_; (try simp only [Act.put, List.setIfInBounds_toArray, List.set_cons_zero, List.set_cons_succ])
            refine take_at (i := 13) (oi := _) (dst := some 30) (v := ?_) rfl rfl (by kernel_rfl) (by kernel_rfl) (by kernel_rfl) (fun _ _ _ h => h) (Or.inl ⟨by rfl, by intro w hSw; (try dsimp only at hSw); go_simp; (try with_reducible rfl)⟩) (by assumption) ?_; (try simp only [Act.put, List.setIfInBounds_toArray, List.set_cons_zero, List.set_cons_succ])
            refine wpAnyH_done (by kernel_rfl) ?_ _
            have hbi' := hbr.trans (hSi.2.2.mono hbr.size)
            clear c1 c18 g0 hS hSi hbi
            have c18 := (k18.ext hbi').cell
            obtain ⟨x', _, _, _, _, _, _, hx', _, _, _, g0, _⟩ := (HIB.out.2.below hbi').at hlt
            rw [hx] at hx'
            obtain rfl := Option.some.inj hx'
            clear hx hx'
            go_wp2_with fail
            refine wp_region_held_drew (S := Ext wi) (by kernel_rfl) Ext.start (fun hS => ?_)
            simp only [List.size_toArray, List.length_cons, List.length_nil]
            refine take_at (i := 0) (oi := _) (dst := some 206) (v := ?_) rfl rfl (by kernel_rfl) (by kernel_rfl) (by kernel_rfl) (fun _ _ _ h => h) (Or.inl ⟨by rfl, by intro w hSw; (try dsimp only at hSw); go_simp; (try with_reducible rfl)⟩) (by assumption) ?_; (try simp only [Act.put, List.setIfInBounds_toArray, List.set_cons_zero, List.set_cons_succ])
            refine take_at (i := 1) (oi := _) (dst := some 207) (v := ?_) rfl rfl (by kernel_rfl) (by kernel_rfl) (by kernel_rfl) (fun _ _ _ h => h) (Or.inl ⟨by rfl, by intro w hSw; (try dsimp only at hSw); go_simp; (try with_reducible rfl)⟩) (by assumption) ?_; (try simp only [Act.put, List.setIfInBounds_toArray, List.set_cons_zero, List.set_cons_succ])
            refine take_at (i := 2) (oi := _) (dst := some 208) (v := ?_) rfl rfl (by kernel_rfl) (by kernel_rfl) (by kernel_rfl) (fun _ _ _ h => h) (Or.inl ⟨by rfl, by intro w hSw; (try dsimp only at hSw); go_simp; (try with_reducible rfl)⟩) (by assumption) ?_; (try simp only [Act.put, List.setIfInBounds_toArray, List.set_cons_zero, List.set_cons_succ])
            refine take_at (i := 3) (oi := _) (dst := some 209) (v := ?_) rfl rfl (by kernel_rfl) (by kernel_rfl) (by kernel_rfl) (fun _ _ _ h => h) (Or.inl ⟨by rfl, by intro w hSw; (try dsimp only at hSw); go_simp; (try with_reducible rfl)⟩) (by assumption) ?_; (try simp only [Act.put, List.setIfInBounds_toArray, List.set_cons_zero, List.set_cons_succ])
            refine take_at (i := 4) (oi := _) (dst := some 210) (v := ?_) rfl rfl (by kernel_rfl) (by kernel_rfl) (by kernel_rfl) (fun _ _ _ h => h) (Or.inl ⟨by rfl, by intro w hSw; (try dsimp only at hSw); go_simp; (try with_reducible rfl)⟩) (by assumption) ?_; (try simp only [Act.put, List.setIfInBounds_toArray, List.set_cons_zero, List.set_cons_succ])
            refine take_at (i := 5) (oi := _) (dst := some 211) (v := ?_) rfl rfl (by kernel_rfl) (by kernel_rfl) (by kernel_rfl) (fun _ _ _ h => h) (Or.inl ⟨by rfl, by intro w hSw; (try dsimp only at hSw); go_simp; (try with_reducible rfl)⟩) (by assumption) ?_; (try simp only [Act.put, List.setIfInBounds_toArray, List.set_cons_zero, List.set_cons_succ])
            refine take_at (i := 6) (oi := _) (dst := some 212) (v := ?_) rfl rfl (by kernel_rfl) (by kernel_rfl) (by kernel_rfl) (fun _ _ _ h => h) (Or.inl ⟨by rfl, by intro w hSw; (try dsimp only at hSw); go_simp; (try with_reducible rfl)⟩) (by assumption) ?_; (try simp only [Act.put, List.setIfInBounds_toArray, List.set_cons_zero, List.set_cons_succ])
            refine wpAnyH_ready (rs := [7]) (by kernel_rfl) (by simp) ?_; refine AllReadyH.cons (o := _) rfl (fun K hK => ?_) AllReadyH.nil; go_simp
            refine (term_any sx t A6 n' a6 B6 m' b6 D6 0 f6 (some ad) r c6 dr x.1 _ (HIB.out.2.below (hbi'.trans (hS.2.2.mono hbi'.size))) (by omega)).mono ?_
            rintro e wj ⟨hbj, t2, bb, rfl, hT⟩
            have hRD : Right sx dr := by rw [HDR.out]; exact right_of_run (chkB_run HCI.out.2.2.1)
            have hT := (hT hRD).symm.trans (termO_right hRD (x := x) HXM.out)
            cases bb with
            | false => cases hT
            | true =>
            obtain rfl : t2 = x.2.1 := Option.some.inj hT
            refine hK.out _ _ (Ext.below hS hbj) (fun hSj => ?_)
            clear hK hT hRD
            refine take_at (i := 8) (oi := _) (dst := some 205) (v := ?_) rfl rfl (by kernel_rfl) (by kernel_rfl) (by kernel_rfl) (fun _ _ _ h => h) (Or.inl ⟨by rfl, by intro w hSw; (try dsimp only at hSw); go_simp; (try with_reducible rfl)⟩) (by assumption) ?_; (try simp only [Act.put, List.setIfInBounds_toArray, List.set_cons_zero, List.set_cons_succ])
            refine take_at (i := 9) (oi := _) (dst := some 214) (v := ?_) rfl rfl (by kernel_rfl) (by kernel_rfl) (by kernel_rfl) (fun _ _ _ h => h) (Or.inl ⟨by rfl, by intro w hSw; (try dsimp only at hSw); go_simp; (try with_reducible rfl)⟩) (by assumption) ?_; (try simp only [Act.put, List.setIfInBounds_toArray, List.set_cons_zero, List.set_cons_succ])
            refine take_at (i := 10) (oi := _) (dst := some 215) (v := ?_) rfl rfl (by kernel_rfl) (by kernel_rfl) (by kernel_rfl) (fun _ _ _ h => h) (Or.inl ⟨by rfl, by intro w hSw; (try dsimp only at hSw); go_simp; (try with_reducible rfl)⟩) (by assumption) ?_; (try simp only [Act.put, List.setIfInBounds_toArray, List.set_cons_zero, List.set_cons_succ])
            refine take_at (i := 11) (oi := _) (dst := some 31) (v := ?_) rfl rfl (by kernel_rfl) (by kernel_rfl) (by kernel_rfl) (fun _ _ _ h => h) (Or.inl ⟨by rfl, by intro w hSw; (try dsimp only at hSw); go_simp; (try with_reducible rfl)⟩) (by assumption) ?_; (try simp only [Act.put, List.setIfInBounds_toArray, List.set_cons_zero, List.set_cons_succ])
            refine take_at (i := 12) (oi := _) (dst := some 32) (v := ?_) rfl rfl (by kernel_rfl) (by kernel_rfl) (by kernel_rfl) (fun _ _ _ h => h) (Or.inl ⟨by rfl, by intro w hSw; (try dsimp only at hSw); go_simp; (try with_reducible rfl)⟩) (by assumption) ?_; (try simp only [Act.put, List.setIfInBounds_toArray, List.set_cons_zero, List.set_cons_succ])
            refine wpAnyH_done (by kernel_rfl) ?_ _
            have hbj' := hbi'.trans (hSj.2.2.mono hbi'.size)
            clear c18 g0 hS hSj hbj
            go_wp2
            go_roundw
            case rel => exact ⟨i + 1, by go_num, by omega, hbj'⟩
            case measure => simp [intOf]; omega
          · obtain rfl : i = r := by omega
            have q1 : ¬ (i : Int) < (i : Int) := by omega
            go_wp2_with fail
            refine (check_any sx t A6 n' a6 B6 m' b6 D6 0 f6 O6 i c6 dr wr HX.out HFD.out (by omega) hs0 hs1).mono ?_
            rintro e wi ⟨rfl, hbi⟩
            rw [show chkB sx t dr = true by rw [HDR.out]; exact HCI.out.2.2.1]
            have hbi' := hbr.trans (hbi.mono hbr.size)
            clear c1 c18
            have c24 := (k24.ext hbi').cell
            have c26 := (k26.ext hbi').cell
            go_wp2_with fail
            refine (sameConf_any A8 B8 A9 B9 n9 a8 a9 m9 b8 b9 l9 k9 wi (HC8.out.below hbi') (HC9.out.below hbi') hn9' hm9').mono ?_
            rintro e wj ⟨rfl, hbj⟩
            go_wp2
            go_ret
            exact ⟨rfl, (hbh'.trans (hbi'.mono hbh'.size)).trans (hbj.mono (by have := hbh'.size; have := hbi'.size; omega))⟩
end Go.Proofs.Ytglabhfmeinogaa

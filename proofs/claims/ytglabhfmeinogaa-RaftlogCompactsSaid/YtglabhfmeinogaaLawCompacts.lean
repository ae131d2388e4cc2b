/- RaftlogCompacts: the law's walk. -/
import Derived.Test.YtglabhfmeinogaaLRefC
import Derived.Test.YtglabhfmeinogaaLSpoil
namespace Go.Proofs.Ytglabhfmeinogaa
open Go.RowKit Go.Gz
attribute [local go_sem] World.cell?_alloc_some frozen?_alloc_some

set_option maxHeartbeats 4000000 in
theorem spoil_keeps (O : Option Addr) (n c base : Nat) (xs : List Ent) (w0 w : World) (hk0 : Keeps w0 w) (h : OwnEs w0 base O n c xs) (hf : ∀ x ∈ xs, Fits x) (hn : n ≤ 140737488355328) :
    Calls Try.prog 23 #[.slice O n c] w fun e w' => e = .returned (.tuple #[]) ∧ Below base w w' := by
  have H := Lib.hid h
  have HF := Lib.hid hf
  have hxl := h.is.len
  clear h hf
  go_enter Try.func23, Try.ntmps23
  go_wp2_with fail
  go_loopw [2] (fun s2 wr => ∃ j : Nat, s2 = .int .i64 j ∧ j ≤ n ∧ Keeps w0 wr ∧ Below base w wr) (fun s2 _ => (n - intOf s2).toNat)
  case atStart => exact ⟨0, rfl, by omega, hk0, Below.refl _ _⟩
  case round =>
    obtain ⟨j, rfl, hj, hk, hbr⟩ := hrel
    have HK := Lib.hid hk
    clear hk
    by_cases hlt : j < n
    · have b1 : (j : Int) < (n : Int) := by omega
      obtain ⟨zs, hz1, hz2, hz3, hz4⟩ := H.out
      obtain ⟨g, rfl, hg, _⟩ := hz3.addr (by omega)
      have hjz : j < zs.length := by omega
      obtain ⟨D, dc, V, vc, L, lc, e, ho1, ho2⟩ := hz4 (zs[j]) (List.getElem_mem hjz)
      obtain ⟨x, hx⟩ : ∃ x, x = (zs[j]).2 := ⟨_, rfl⟩
      rw [← hx] at e ho1 ho2
      have cm := fun r hr => flat_cell (fun z : List Value × Ent => z.1) hz3.sl (fun z hz => (hz4 z hz).len) hjz r hr
      rw [e] at cm
      have m0 := cm 0 (by omega)
      have m3 := cm 3 (by omega)
      have m4 := cm 4 (by omega)
      rw [Addr.add_lit] at m0 m3 m4
      simp only [List.getElem?_cons_zero, List.getElem?_cons_succ, Nat.add_zero, Nat.zero_add] at m0 m3 m4
      have hfr := fun i => hz3.frozen rfl (show 0 < n by omega) i
      have HM0 := Lib.hid m0
      have HM3 := Lib.hid m3
      have HM4 := Lib.hid m4
      have HFR := Lib.hid hfr
      have HD := Lib.hid ho1
      have HV := Lib.hid ho2.1
      obtain ⟨dn, hdn⟩ : ∃ dn, dn = x.2.2.2.1.length := ⟨_, rfl⟩
      obtain ⟨vn, hvn⟩ : ∃ vn, vn = x.2.2.2.2.1.length := ⟨_, rfl⟩
      rw [← hdn] at HM3 HD
      rw [← hvn] at HM4 HV
      have hfx := HF.out x (by rw [hx, ← hz1]; exact List.mem_map_of_mem (List.getElem_mem hjz))
      have hdl : dn ≤ 140737488355328 := by rw [hdn]; exact hfx.1
      have hvl : vn ≤ 140737488355328 := by have := hfx.2.1; omega
      clear cm m0 m3 m4 hfr ho1 ho2 e hdn hvn hfx hx
      obtain ⟨v0, hv0⟩ := HK.out.int HM0.out
      have hv1 : wr.frozen? ⟨g, j * 6, none⟩ = false := by rw [(HK.out _ _ HM0.out).2]; exact HFR.out _
      go_wp2_with fail
      refine name_world (fun w2 hw2 => ?_)
      have HK2 := Lib.hid (show Keeps w0 w2 by rw [hw2]; exact HK.out.set hv0 999)
      have hb2 : Below base w w2 := by rw [hw2]; exact hbr.setCell (by dsimp only; omega) _
      clear hw2 hv0 hv1
      go_loopw [3] (fun s3 wr => ∃ k : Nat, s3 = .int .i64 k ∧ k ≤ dn ∧ Keeps w0 wr ∧ Below base w wr) (fun s3 _ => (dn - intOf s3).toNat)
      case atStart => exact ⟨0, rfl, by omega, HK2.out, hb2⟩
      case round =>
        obtain ⟨k, rfl, hkn, hk3, hb3⟩ := hrel
        have HK3 := Lib.hid hk3
        clear hk3
        have q3 := HK3.out.slice HM3.out
        by_cases hkl : k < dn
        · have b2 : (k : Int) < (dn : Int) := by omega
          obtain ⟨gd, rfl, hgd, hrd⟩ := own_nums HD.out (by omega)
          obtain ⟨⟨v, hv⟩, hvf⟩ := hrd _ HK3.out k hkl
          clear hrd
          go_wp2_with fail
          exact ⟨⟨k + 1, by go_num, by omega, HK3.out.set hv _, hb3.setCell (by dsimp only; omega) _⟩, by simp [intOf]; omega⟩
        · have b2 : ¬ (k : Int) < (dn : Int) := by omega
          go_wp2_with fail
          clear q3
          go_loopw [4] (fun s4 wr => ∃ k : Nat, s4 = .int .i64 k ∧ k ≤ vn ∧ Keeps w0 wr ∧ Below base w wr) (fun s4 _ => (vn - intOf s4).toNat)
          case atStart => exact ⟨0, rfl, by omega, HK3.out, hb3⟩
          case round =>
            obtain ⟨m, rfl, hmn, hk5, hb5⟩ := hrel
            have HK5 := Lib.hid hk5
            clear hk5
            have q4 := HK5.out.slice HM4.out
            by_cases hml : m < vn
            · have b3 : (m : Int) < (vn : Int) := by omega
              obtain ⟨gv, rfl, hgv, hrv⟩ := own_nums HV.out (by omega)
              obtain ⟨⟨v, hv⟩, hvf⟩ := hrv _ HK5.out m hml
              clear hrv
              go_wp2_with fail
              exact ⟨⟨m + 1, by go_num, by omega, HK5.out.set hv _, hb5.setCell (by dsimp only; omega) _⟩, by simp [intOf]; omega⟩
            · have b3 : ¬ (m : Int) < (vn : Int) := by omega
              go_wp2_with fail
              clear q4
              go_roundw
              case rel => exact ⟨j + 1, by go_num, by omega, HK5.out, hb5⟩
              case measure => simp [intOf]; omega
    · obtain rfl : j = n := by omega
      have b1 : ¬ (j : Int) < (j : Int) := by omega
      go_wp2
      refine bodyPost_end (v := .tuple #[]) ?_ rfl ⟨rfl, hbr⟩
      simp [results, Try.results23, go_sem]


/-- What both answer, in one word. -/
theorem compact_one {w : World} {base : Nat} {bi bt ix : Int} {n q : Nat} {l k dz : List Int} {xs : List Ent} {e : Ending} (hxl : xs.length = n) (hf : ∀ x ∈ xs, Fits x) (hl : l.length * 8 ≤ 140737488355328) (hk : k.length * 8 ≤ 140737488355328) (hq : q ≤ 140737488355328)
    (h : CompactNo bi ix xs e ∨ CompactYes w base bi bt ix n q l k dz xs e) : ∃ (i t : Int) (A : Option Addr) (n' a : Nat) (B : Option Addr) (m' b : Nat) (D : Option Addr) (q' f : Nat) (O : Option Addr) (r c : Nat) (l' k' dz' : List Int) (ys : List Ent) (E : Int),
      e = .returned (.tuple #[lg i t A n' a B m' b D q' f O r c, .int .i64 E]) ∧ OwnSnap w base A B D n' a m' b q' f l' k' dz' ∧ OwnEs w base O r c ys ∧ (∀ y ∈ ys, Fits y) ∧ n' * 8 ≤ 140737488355328 ∧ m' * 8 ≤ 140737488355328 ∧ q' ≤ 140737488355328 ∧ r ≤ n ∧
      (runB bi bt xs = true → ∀ w2 e2, (CompactNo bi ix xs e2 ∨ CompactRef w2 bi bt ix n q l k dz xs e2) → ∃ A7 a7 B7 b7 D7 f7 O7 c7, e2 = .returned (.tuple #[lg i t A7 n' a7 B7 m' b7 D7 q' f7 O7 r c7, .int .i64 E]) ∧ IsLog w2 A7 B7 D7 O7 n' m' q' r l' k' dz' ys) := by
  rcases h with ⟨hg, rfl⟩ | ⟨hg, p, t, b, l', k', ix', n', m', v, hp, hA, hU, hT, hLC, ⟨A, ca, B, cb, D, cd, O, c, rfl, hos, hoe⟩, rfl⟩
  · have nilOwn : ∀ (w : World) (base : Nat) (e : TypeId) (z : Nat), Gz.Own w base e z none 0 0 [] := fun w base e z => .inl ⟨rfl, rfl, rfl⟩
    have nilSl : ∀ (w : World) (z : Nat), SlA w z none 0 [] := fun w z => (nilOwn w 0 0 z).sl
    refine ⟨0, 0, none, 0, 0, none, 0, 0, none, 0, 0, none, 0, 0, [], [], [], [], 61, rfl, ⟨⟨nilOwn _ _ _ _, nilOwn _ _ _ _⟩, nilOwn _ _ _ _⟩, ⟨[], rfl, rfl, nilOwn _ _ _ _, fun z hz => (by cases hz)⟩, fun y hy => (by cases hy), by omega, by omega, by omega, by omega, fun _ w2 e2 h2 => ?_⟩
    rcases h2 with ⟨_, rfl⟩ | ⟨hg2, _⟩
    · exact ⟨none, 0, none, 0, none, 0, none, 0, rfl, ⟨⟨⟨nilSl _ _, nilSl _ _⟩, nilSl _ _⟩, IsEs.nil _⟩⟩
    · omega
  · have hsm := lastConf_small hLC (fun x hx => hf x (List.mem_of_mem_take hx)) hl hk
    have hl1 := hos.is.1.1.len
    have hl2 := hos.is.1.2.len
    refine ⟨ix, t, A, n', ca, B, m', cb, D, q, cd, O, n - (p + 1), c, l', k', dz, xs.drop (p + 1), 0, rfl, hos, hoe, fun y hy => hf y (List.mem_of_mem_drop hy), by omega, by omega, hq, by omega, fun hrun w2 e2 h2 => ?_⟩
    rcases h2 with ⟨hg2, _⟩ | ⟨_, t2, b2, A7, n7, a7, B7, m7, b7, D7, f7, O7, r7, c7, hT2, rfl, hlog⟩
    · omega
    · obtain ⟨he, ht, _⟩ := compact_is hrun hg.1 (by omega) hA hU hg.2 hT
      obtain ⟨_, ht2, _⟩ := compact_is hrun hg.1 (by omega) hA hU hg.2 hT2
      have hr := right_of_run hrun
      rw [uptoC_right hr he, ← lastConf_is hLC, afterI_right hr he] at hlog
      have e1 := hlog.1.1.1.len
      have e2 := hlog.1.1.2.len
      have e3 := hlog.2.len
      rw [List.length_drop] at e3
      dsimp only at e1 e2
      obtain rfl : n7 = n' := by omega
      obtain rfl : m7 = m' := by omega
      obtain rfl : r7 = n - (p + 1) := by omega
      rw [ht2, ← ht]
      exact ⟨A7, a7, B7, b7, D7, f7, O7, c7, rfl, hlog⟩

set_option maxHeartbeats 8000000 in
theorem lawCompacts_any (bi bt : Int) (A : Option Addr) (na ca : Nat) (B : Option Addr) (nb cb : Nat) (D : Option Addr) (nd cd : Nat) (O : Option Addr) (n c : Nat) (l k z : List Int) (xs : List Ent) (ix : Int) (E : Option Addr) (q qc : Nat) (dz : List Int) (w : World)
    (h : IsLog w A B D O na nb nd n l k z xs) (hf : ∀ x ∈ xs, Fits x) (hnc : n ≤ c) (hn : n * 96 ≤ 140737488355328) (hna : na * 8 ≤ 140737488355328) (hnb : nb * 8 ≤ 140737488355328) (hnd : nd ≤ 140737488355328) (hb0 : 0 ≤ bi) (hb1 : bi < 18446744073709551616) (hd : SlA w 1 E q (nums .u8 dz)) (hq : q ≤ 140737488355328) :
    Calls Try.prog 6 #[lg bi bt A na ca B nb cb D nd cd O n c, .int .u64 ix, .slice E q qc] w fun e w' => e = .returned (.bool true) ∧ Below w.heap.size w w' := by
  obtain ⟨i1, hj, hj0, hj1, hj2⟩ := info_parts infoU8
  have H := Lib.hid h
  have HF := Lib.hid hf
  have HD := Lib.hid hd
  have hxl := Lib.hid h.2.len
  clear h hf hd
  go_enter Try.func6, Try.ntmps6
  go_wp2_with fail
  refine name_calls (fun w1 hw1 => ?_)
  have k3 : Blk w1 w.heap.size [.int .u64 bi, .int .u64 bt, .slice A na ca, .slice B nb cb, .slice D nd cd, .slice O n c] := by rw [hw1]; exact Blk.new _ _ _ _ rfl
  have hb1' : Below w.heap.size w w1 := by rw [hw1]; exact (by (repeat first | refine Below.setCell ?_ (by first | omega | (dsimp only; omega) | (simp only [heap_drew, World.size_alloc, Gz.size_setCell]; omega)) _ | refine Below.alloc ?_ (by first | omega | (dsimp only; omega) | (simp only [heap_drew, World.size_alloc, Gz.size_setCell]; omega)) _ | refine Below.drew ?_); exact Below.refl _ _)
  clear hw1
  refine (head_any w1).mono ?_
  rintro e w2 ⟨rfl, hb2⟩
  have k3 := k3.ext hb2
  have hb2 := hb1'.trans (hb2.mono hb1'.size)
  have c3 := k3.cell
  go_wp2_with fail
  refine (cloneLog_any bi bt A na ca B nb cb D nd cd O n c l k z xs w2 (H.out.below hb2) HF.out hn hna hnb hnd).mono ?_
  rintro e w3 ⟨hb3, A2, a2, B2, b2, D2, d2, O2, c2, rfl, ho3, hoe3⟩
  have k3 := k3.ext hb3
  have hb3 := hb2.trans (hb3.mono hb2.size)
  clear c3
  go_wp2_with (with_reducible refine stop_at (d := 22) ?_)
  refine hide (name_list (fun w4 hw4 => ?_))
  have hb34 : Below w3.heap.size w3 w4 := by rw [hw4]; exact (by (repeat first | refine Below.setCell ?_ (by first | omega | (dsimp only; omega) | (simp only [heap_drew, World.size_alloc, Gz.size_setCell]; omega)) _ | refine Below.alloc ?_ (by first | omega | (dsimp only; omega) | (simp only [heap_drew, World.size_alloc, Gz.size_setCell]; omega)) _ | refine Below.drew ?_); exact Below.refl _ _)
  have k8 : Blk w4 w3.heap.size [.int .u64 bi, .int .u64 bt, .slice A2 na a2, .slice B2 nb b2, .slice D2 nd d2, .slice O2 n c2] := by rw [hw4]; exact (Blk.new _ _ _ _ rfl).alloc _
  have k3 := k3.ext hb34
  have hb4 := hb3.trans (hb34.mono hb3.size)
  have HX := Lib.hid (show IsLog w4 A2 B2 D2 O2 na nb nd n l k z xs from ⟨(ho3.below hb34).is, (hoe3.below hb34).is⟩)
  have hnc2 : n ≤ c2 := by obtain ⟨zs, _, _, q, _⟩ := hoe3; exact q.le
  clear hw4 ho3 hoe3 hb34
  refine hide (wpList_append_empty rfl (.tmp 20) (.tmp 21) 26 rfl 5 i1 (.int .u8 0) 1 1 Try.underlying26 hj hj0 hj1 hj2 rfl _ rfl E q qc (nums .u8 dz) rfl (HD.out.below hb4) (by omega) (by omega) ?_)
  intro O5 c5 w5 ho5 hb5
  have k3 := k3.ext hb5
  have k8 := k8.ext hb5
  have K3 := hide k3
  have K8 := hide k8
  have HX := Lib.hid (HX.out.below hb5)
  have hb5 := hb4.trans (hb5.mono hb4.size)
  have HO5 := Lib.hid ho5.sl
  clear ho5
  have c8 := k8.cell
  go_wp2_with fail
  refine (compact_any bi bt A2 na a2 B2 nb b2 D2 nd d2 O2 n c2 l k z xs ix O5 q c5 dz w5 HX.out HF.out hna hnb hnc2 hn HO5.out hq).mono ?_
  rintro e w6 ⟨hb6, hm⟩
  obtain ⟨i, t, A6, n', a6, B6, m', b6, D6, q', f6, O6, r, c6, l', k', dz', ys, EE, rfl, hos, hoe, hfy, hn1, hm1, hq1, hr1, hR⟩ := compact_one hxl.out HF.out (by have := H.out.1.1.1.len; omega) (by have := H.out.1.1.2.len; omega) hq hm
  have HR := Lib.hid hR
  have HFY := Lib.hid hfy
  clear hm hR hfy c8
  have k3 := k3.ext hb6
  have c3 := k3.cell
  go_wp2_with fail
  refine name_calls (fun w7 hw7 => ?_)
  clear c3
  have hb67 : Below w6.heap.size w6 w7 := by rw [hw7]; exact below_alloc_one _ _
  have k10 : Blk w7 w6.heap.size [.int .u64 i, .int .u64 t, .slice A6 n' a6, .slice B6 m' b6, .slice D6 q' f6, .slice O6 r c6] := by rw [hw7]; exact Blk.new _ _ _ _ rfl
  clear hw7
  have hb57 := hb6.trans (hb67.mono hb6.size)
  have hb7 := hb5.trans (hb57.mono hb5.size)
  have k3 := k3.ext hb67
  have HOS := Lib.hid (hos.below hb67)
  have HOE := Lib.hid (hoe.below hb67)
  clear hos hoe
  refine (checkX_any bi bt A na ca B nb cb D nd cd O n c xs w7 (H.out.2.below hb7) (by omega) hb0 hb1).mono ?_
  rintro e w8 ⟨rfl, hb8⟩
  have k3 := k3.ext hb8
  have k10 := k10.ext hb8
  have hb58 := hb57.trans (hb8.mono hb57.size)
  have HOS := Lib.hid (HOS.out.below hb8)
  have HOE := Lib.hid (HOE.out.below hb8)
  have hb8 := hb7.trans (hb8.mono hb7.size)
  obtain ⟨b, hb⟩ : ∃ b, b = chkB bi bt xs := ⟨_, rfl⟩
  rw [← hb]
  have HB := Lib.hid hb
  clear hb
  cases b with
  | false =>
    go_wp2
    go_ret
    exact ⟨rfl, hb8⟩
  | true =>
    have c3 := k3.cell
    go_wp2_with fail
    refine (compactRef_any bi bt A na ca B nb cb D nd cd O n c l k z xs ix E q qc dz w8 (H.out.below hb8) HF.out hna hnb hnc hn (HD.out.below hb8) hq).mono ?_
    rintro e w9 ⟨hb9, hm⟩
    obtain ⟨A7, a7, B7, b7, D7, f7, O7, c7, rfl, hlog⟩ := HR.out (chkB_run HB.out.symm) w9 e hm
    have HL7 := Lib.hid hlog
    have k10 := k10.ext hb9
    have HOS := Lib.hid (HOS.out.below hb9)
    have HOE := Lib.hid (HOE.out.below hb9)
    have hb59 := hb58.trans (hb9.mono hb58.size)
    have k3 := k3.ext hb9
    clear hm hlog c3
    have c10 := k10.cell
    go_wp2_with fail
    refine name_calls (fun wa hwa => ?_)
    have hb9a : Below w9.heap.size w9 wa := by rw [hwa]; exact below_alloc_one _ _
    clear hwa
    have hb5a := hb59.trans (hb9a.mono hb59.size)
    have k10 := k10.ext hb9a
    have HOS := Lib.hid (HOS.out.below hb9a)
    have HOE := Lib.hid (HOE.out.below hb9a)
    refine (sameLog_any i t A6 n' a6 B6 m' b6 D6 q' f6 O6 r c6 A7 a7 B7 b7 D7 f7 O7 c7 l' k' dz' ys wa ⟨HOS.out.is, HOE.out.is⟩ (HL7.out.below hb9a) HFY.out (by omega) (by omega) (by omega)).mono ?_
    rintro e wb ⟨rfl, hbb⟩
    have hb5b := hb5a.trans (hbb.mono hb5a.size)
    have k10 := k10.ext hbb
    have HOS := Lib.hid (HOS.out.below hbb)
    have HOE := Lib.hid (HOE.out.below hbb)
    have C10 := Lib.hid k10.cell
    clear c10
    go_wp2_with fail
    go_loopw [16] (fun s16 wr => ∃ j : Nat, s16 = .int .i64 j ∧ j ≤ q' ∧ Keeps wb wr ∧ Below w5.heap.size wb wr) (fun s16 _ => (q' - intOf s16).toNat)
    case atStart => exact ⟨0, rfl, by omega, Keeps.refl _, Below.refl _ _⟩
    case round =>
      obtain ⟨j, rfl, hjq, hk, hbr⟩ := hrel
      have HK := Lib.hid hk
      clear hk
      have e4 := HK.out.slice (C10.out 4)
      by_cases hlt : j < q'
      · have q1 : (j : Int) < (q' : Int) := by omega
        obtain ⟨gd, rfl, hgd, hrd⟩ := own_nums HOS.out.2 (by omega)
        obtain ⟨⟨v, hv⟩, hvf⟩ := hrd _ HK.out j hlt
        clear hrd
        go_wp2
        exact ⟨⟨j + 1, by go_num, by omega, HK.out.set hv _, hbr.setCell (by dsimp only; omega) _⟩, by simp [intOf]; omega⟩
      · obtain rfl : j = q' := by omega
        have q1 : ¬ (j : Int) < (j : Int) := by omega
        have e5 := HK.out.slice (C10.out 5)
        go_wp2_with fail
        refine (spoil_keeps O6 r c6 w5.heap.size ys wb wr HK.out HOE.out HFY.out (by omega)).mono ?_
        rintro e wc ⟨rfl, hbc⟩
        have hb5c : Below w5.heap.size w5 wc := (hb5b.trans hbr).trans hbc
        have hwc := hb5.trans (hb5c.mono hb5.size)
        clear e4 e5
        have c3 := (K3.out.below hb5c K3.out.lt).cell
        have c8 := (K8.out.below hb5c K8.out.lt).cell
        go_wp2_with fail
        refine (sameLog_any bi bt A2 na a2 B2 nb b2 D2 nd d2 O2 n c2 A ca B cb D cd O c l k z xs wc (HX.out.below hb5c) (H.out.below hwc) HF.out (by omega) (by omega) (by omega)).mono ?_
        rintro e wd ⟨rfl, hbd⟩
        have hb5d := hb5c.trans (hbd.mono hb5c.size)
        have hwd := hb5.trans (hb5d.mono hb5.size)
        have v1 := run_convert_sl (P := Try.prog) 26 5 9 Try.underlying26 Try.underlying5 Try.underlying9 (HO5.out.below hb5d)
        have v2 := run_convert_sl (P := Try.prog) 26 5 9 Try.underlying26 Try.underlying5 Try.underlying9 (HD.out.below hwd)
        go_wp2
        go_ret
        exact ⟨rfl, hwd⟩
end Go.Proofs.Ytglabhfmeinogaa

/- Contracts of Slice, the program's and the document's. -/
import Derived.Test.YtglabhfmeinogaaLRead
namespace Go.Gz
open Go.RowKit
theorem flat_drop {α : Type} (val : α → List Value) (k : Nat) : ∀ (l : List α), (∀ y ∈ l, (val y).length = k) → ∀ (p : Nat), (l.flatMap val).drop (p * k) = (l.drop p).flatMap val
  | [], _, p => by simp
  | y :: l, h, 0 => by simp
  | y :: l, h, p + 1 => by
    have hy := h y (by simp)
    rw [List.flatMap_cons, List.drop_succ_cons, ← flat_drop val k l (fun y hy => h y (by simp [hy])) p, show (p + 1) * k = (val y).length + p * k by rw [hy, Nat.succ_mul]; omega, List.drop_append, List.drop_eq_nil_of_le (by omega), List.nil_append, Nat.add_sub_cancel_left]
theorem flat_take {α : Type} (val : α → List Value) (k : Nat) : ∀ (l : List α), (∀ y ∈ l, (val y).length = k) → ∀ (p : Nat), (l.flatMap val).take (p * k) = (l.take p).flatMap val
  | [], _, p => by simp
  | y :: l, h, 0 => by simp
  | y :: l, h, p + 1 => by
    have hy := h y (by simp)
    rw [List.flatMap_cons, List.take_succ_cons, List.flatMap_cons, ← flat_take val k l (fun y hy => h y (by simp [hy])) p, show (p + 1) * k = (val y).length + p * k by rw [hy, Nat.succ_mul]; omega, List.take_append, List.take_of_length_le (by omega), Nat.add_sub_cancel_left]
end Go.Gz
namespace Go.Proofs.Ytglabhfmeinogaa
open Go.RowKit Go.Gz
attribute [local go_sem] World.cell?_alloc_some frozen?_alloc_some

theorem IsEs.cut {w : World} {n c : Nat} {A : Option Addr} {xs : List Ent} (h : IsEs w A n xs) {p : Nat} (hp : p ≤ n) (hc : n ≤ c) : IsEs w (cutA A c p 6) (n - p) (xs.drop p) := by
  obtain ⟨zs, h1, h2, h3, h4⟩ := h
  refine ⟨zs.drop p, by rw [List.map_drop, h1], by simp [h2], ?_, fun z hz => h4 z (List.mem_of_mem_drop hz)⟩
  rw [← flat_drop (fun z : List Value × Ent => z.1) 6 zs (fun z hz => (h4 z hz).len) p]
  exact h3.cut hp hc
theorem IsEs.take {w : World} {n : Nat} {A : Option Addr} {xs : List Ent} (h : IsEs w A n xs) {p : Nat} (hp : p ≤ n) : IsEs w A p (xs.take p) := by
  obtain ⟨zs, h1, h2, h3, h4⟩ := h
  refine ⟨zs.take p, by rw [List.map_take, h1], by simp [h2]; omega, ?_, fun z hz => h4 z (List.mem_of_mem_take hz)⟩
  rw [← flat_take (fun z : List Value × Ent => z.1) 6 zs (fun z hz => (h4 z hz).len) p]
  exact h3.take hp

/-- Is there no entry there, and is it not the next one? -/
def gap (bi : Int) (xs : List Ent) (fr : Int) : Prop := fr ≤ bi ∨ IntKind.u64.wrap (lastI bi xs + 1) < fr
instance (bi : Int) (xs : List Ent) (fr : Int) : Decidable (gap bi xs fr) := by unfold gap; infer_instance
/-- How many entries Slice tells, of so many. -/
def many (n : Nat) (most : Int) : Nat := min n most.toNat

set_option maxHeartbeats 1600000 in
theorem slice_any (bi bt : Int) (A : Option Addr) (na ca : Nat) (B : Option Addr) (nb cb : Nat) (D : Option Addr) (nd cd : Nat) (O : Option Addr) (n c : Nat) (xs : List Ent) (fr most : Int) (w : World) (h : IsEs w O n xs) (hf : ∀ x ∈ xs, Fits x) (hnc : n ≤ c) (hn : n * 96 ≤ 140737488355328) (hm1 : -9223372036854775808 ≤ most) (hm2 : most ≤ 9223372036854775807) :
    Calls Try.prog 13 #[lg bi bt A na ca B nb cb D nd cd O n c, .int .u64 fr, .int .i64 most] w fun e w' => Below w.heap.size w w' ∧
      ((gap bi xs fr ∧ e = .returned (.tuple #[.slice none 0 0, .int .i64 61])) ∨ (¬ gap bi xs fr ∧ ∃ p A' c', p ≤ n ∧ AtLeast xs p fr ∧ Under xs p fr ∧ e = .returned (.tuple #[.slice A' (many (n - p) most) c', .int .i64 0]) ∧ OwnEs w' w.heap.size A' (many (n - p) most) c' ((xs.drop p).take (many (n - p) most)))) := by
  obtain ⟨i0, hi, hz0, hz1', hz2'⟩ := info_parts infoEnt
  have H := Lib.hid h
  have HF := Lib.hid hf
  have hxl := h.len
  clear h hf
  obtain ⟨li, hli⟩ : ∃ li, li = lastI bi xs := ⟨_, rfl⟩
  have HG := Lib.hid (show gap bi xs fr ↔ (fr ≤ bi ∨ IntKind.u64.wrap (li + 1) < fr) by unfold gap; rw [hli])
  have HLI := Lib.hid hli
  clear hli
  go_enter Try.func13, Try.ntmps13
  go_wp2_with fail
  refine name_calls (fun w1 hw1 => ?_)
  have k3 : Blk w1 w.heap.size [.int .u64 bi, .int .u64 bt, .slice A na ca, .slice B nb cb, .slice D nd cd, .slice O n c] := by rw [hw1]; exact Blk.new _ _ _ _ rfl
  have hb1 : Below w.heap.size w w1 := by rw [hw1]; exact (by (repeat first | refine Below.setCell ?_ (by first | omega | (dsimp only; omega) | (simp only [heap_drew, World.size_alloc, Gz.size_setCell]; omega)) _ | refine Below.alloc ?_ (by first | omega | (dsimp only; omega) | (simp only [heap_drew, World.size_alloc, Gz.size_setCell]; omega)) _ | refine Below.drew ?_); exact Below.refl _ _)
  clear hw1
  refine (last_any bi bt A na ca B nb cb D nd cd O n c xs w1 (H.out.below hb1) (by omega)).mono ?_
  rintro e w2 ⟨rfl, hb2⟩
  rw [← HLI.out]
  have k3 := k3.ext hb2
  have hb2 := hb1.trans (hb2.mono hb1.size)
  have c3 := k3.cell
  by_cases g1 : fr ≤ bi
  · go_wp2
    refine bodyPost_ret (v := .tuple #[.slice none 0 0, .int .i64 61]) ?_ rfl ⟨hb2, .inl ⟨HG.out.2 (.inl g1), rfl⟩⟩
    simp [results, Try.results13, go_sem]
  by_cases g2 : IntKind.u64.wrap (li + 1) < fr
  · go_wp2
    refine bodyPost_ret (v := .tuple #[.slice none 0 0, .int .i64 61]) ?_ rfl ⟨hb2, .inl ⟨HG.out.2 (.inr g2), rfl⟩⟩
    simp [results, Try.results13, go_sem]
  have HNG := Lib.hid (show ¬ gap bi xs fr from fun hg => (HG.out.1 hg).elim g1 g2)
  go_wp2_with fail
  refine wp_region_held_drew (S := Ext w2) (by kernel_rfl) Ext.start (fun hS => ?_)
  simp only [List.size_toArray, List.length_cons, List.length_nil]
  refine take_at (i := 0) (oi := _) (dst := some 27) (v := ?_) rfl rfl (by kernel_rfl) (by kernel_rfl) (by kernel_rfl) (fun _ _ _ h => h) (Or.inl ⟨by rfl, by intro w hSw; (try dsimp only at hSw); go_simp; (try with_reducible rfl)⟩) (by assumption) ?_; (try simp only [Act.put, List.setIfInBounds_toArray, List.set_cons_zero, List.set_cons_succ])
  refine take_at (i := 1) (oi := _) (dst := some 28) (v := ?_) rfl rfl (by kernel_rfl) (by kernel_rfl) (by kernel_rfl) (fun _ _ _ h => h) (Or.inl ⟨by rfl, by intro w hSw; (try dsimp only at hSw); go_simp; (try with_reducible rfl)⟩) (by assumption) ?_; (try simp only [Act.put, List.setIfInBounds_toArray, List.set_cons_zero, List.set_cons_succ])
  refine take_at (i := 2) (oi := _) (dst := some 29) (v := ?_) rfl rfl (by kernel_rfl) (by kernel_rfl) (by kernel_rfl) (fun _ _ _ h => h) (Or.inl ⟨by rfl, by intro w hSw; (try dsimp only at hSw); go_simp; (try with_reducible rfl)⟩) (by assumption) ?_; (try simp only [Act.put, List.setIfInBounds_toArray, List.set_cons_zero, List.set_cons_succ])
  refine take_at (i := 3) (oi := _) (dst := some 30) (v := ?_) rfl rfl (by kernel_rfl) (by kernel_rfl) (by kernel_rfl) (fun _ _ _ h => h) (Or.inl ⟨by rfl, by intro w hSw; (try dsimp only at hSw); go_simp; (try with_reducible rfl)⟩) (by assumption) ?_; (try simp only [Act.put, List.setIfInBounds_toArray, List.set_cons_zero, List.set_cons_succ])
  refine wpAnyH_ready (rs := [4]) (by kernel_rfl) (by simp) ?_; refine AllReadyH.cons (o := _) rfl (fun K hK => ?_) AllReadyH.nil; go_simp
  refine (place_any bi bt A na ca B nb cb D nd cd O n c xs fr _ (H.out.below (hb2.trans (hS.2.2.mono hb2.size))) (by omega)).mono ?_
  rintro e w3 ⟨hb3, p, rfl, hp, hA, hU⟩
  have HA := Lib.hid hA
  have HU := Lib.hid hU
  clear hA hU
  refine hK.out _ _ (Ext.below hS hb3) (fun hS3 => ?_)
  clear hK
  have hsl := run_slice_low (P := Try.prog) 29 47 i0 6 Try.underlying29 hi hz1' .i64 O n c p hp
  refine take_at (i := 5) (oi := _) (dst := some 32) (v := ?_) rfl rfl (by kernel_rfl) (by kernel_rfl) (by kernel_rfl) (fun _ _ _ h => h) (Or.inl ⟨by rfl, by intro w hSw; (try dsimp only at hSw); go_simp; (try with_reducible rfl)⟩) (by assumption) ?_; (try simp only [Act.put, List.setIfInBounds_toArray, List.set_cons_zero, List.set_cons_succ])
  refine take_at (i := 6) (oi := _) (dst := some 10) (v := ?_) rfl rfl (by kernel_rfl) (by kernel_rfl) (by kernel_rfl) (fun _ _ _ h => h) (Or.inl ⟨by rfl, by intro w hSw; (try dsimp only at hSw); go_simp; (try with_reducible rfl)⟩) (by assumption) ?_; (try simp only [Act.put, List.setIfInBounds_toArray, List.set_cons_zero, List.set_cons_succ])
  refine wpAnyH_done (by kernel_rfl) ?_ _
  have hb3' : Below w.heap.size w w3 := hb2.trans (hS3.2.2.mono hb2.size)
  clear c3 hsl
  have hcut := (H.out.below hb3').cut hp hnc
  by_cases hneg : most < 0
  · by_cases hzz : 0 < n - p
    · have b1 : (0 : Int) < ((n - p : Nat) : Int) := by omega
      have hk : many (n - p) most = 0 := by unfold many; omega
      have HK := Lib.hid hk
      clear hk
      have hs2 := run_slice_high (P := Try.prog) 29 47 i0 Try.underlying29 hi .i64 (cutA O c p 6) (n - p) (c - p) 0 (by omega)
      try simp only [Nat.cast_ofNat, Int.natCast_zero] at hs2
      go_wp2_with fail
      refine (entries_any (cutA O c p 6) 0 (c - p) ((xs.drop p).take 0) w3 (hcut.take (by omega)) (fun x hx => HF.out x (List.mem_of_mem_drop (List.mem_of_mem_take hx))) (by omega)).mono ?_
      rintro e w4 ⟨hb4, A4, c4, rfl, ho4⟩
      go_wp2
      refine bodyPost_ret (v := .tuple #[.slice A4 0 c4, .int .i64 0]) ?_ rfl ⟨hb3'.trans (hb4.mono hb3'.size), .inr ⟨HNG.out, p, A4, c4, hp, HA.out, HU.out, by rw [HK.out], ?_⟩⟩
      · simp [results, Try.results13, go_sem]
      · rw [HK.out]
        exact ho4.lower hb3'.size
    · have b1 : ¬ (0 : Int) < ((n - p : Nat) : Int) := by omega
      have hk : many (n - p) most = n - p := by unfold many; omega
      have HK := Lib.hid hk
      clear hk
      have hs2 := run_slice_high (P := Try.prog) 29 47 i0 Try.underlying29 hi .i64 (cutA O c p 6) (n - p) (c - p) (n - p) (by omega)
      try simp only [Nat.cast_ofNat, Int.natCast_zero] at hs2
      go_wp2_with fail
      refine (entries_any (cutA O c p 6) (n - p) (c - p) ((xs.drop p).take (n - p)) w3 (hcut.take (by omega)) (fun x hx => HF.out x (List.mem_of_mem_drop (List.mem_of_mem_take hx))) (by omega)).mono ?_
      rintro e w4 ⟨hb4, A4, c4, rfl, ho4⟩
      go_wp2
      refine bodyPost_ret (v := .tuple #[.slice A4 (n - p) c4, .int .i64 0]) ?_ rfl ⟨hb3'.trans (hb4.mono hb3'.size), .inr ⟨HNG.out, p, A4, c4, hp, HA.out, HU.out, by rw [HK.out], ?_⟩⟩
      · simp [results, Try.results13, go_sem]
      · rw [HK.out]
        exact ho4.lower hb3'.size
  · obtain ⟨mm, rfl⟩ := Int.eq_ofNat_of_zero_le (show 0 ≤ most by omega)
    by_cases hlt : mm < n - p
    · have b1 : (mm : Int) < ((n - p : Nat) : Int) := by omega
      have b2 : ¬ ((n - p : Nat) : Int) < (mm : Int) := by omega
      have hk : many (n - p) (mm : Int) = mm := by unfold many; omega
      have HK := Lib.hid hk
      clear hk
      have hs2 := run_slice_high (P := Try.prog) 29 47 i0 Try.underlying29 hi .i64 (cutA O c p 6) (n - p) (c - p) mm (by omega)
      try simp only [Nat.cast_ofNat, Int.natCast_zero] at hs2
      go_wp2_with fail
      refine (entries_any (cutA O c p 6) mm (c - p) ((xs.drop p).take mm) w3 (hcut.take (by omega)) (fun x hx => HF.out x (List.mem_of_mem_drop (List.mem_of_mem_take hx))) (by omega)).mono ?_
      rintro e w4 ⟨hb4, A4, c4, rfl, ho4⟩
      go_wp2
      refine bodyPost_ret (v := .tuple #[.slice A4 mm c4, .int .i64 0]) ?_ rfl ⟨hb3'.trans (hb4.mono hb3'.size), .inr ⟨HNG.out, p, A4, c4, hp, HA.out, HU.out, by rw [HK.out], ?_⟩⟩
      · simp [results, Try.results13, go_sem]
      · rw [HK.out]
        exact ho4.lower hb3'.size
    · have b1 : ¬ (mm : Int) < ((n - p : Nat) : Int) := by omega
      have hk : many (n - p) (mm : Int) = n - p := by unfold many; omega
      have HK := Lib.hid hk
      clear hk
      have hs2 := run_slice_high (P := Try.prog) 29 47 i0 Try.underlying29 hi .i64 (cutA O c p 6) (n - p) (c - p) (n - p) (by omega)
      try simp only [Nat.cast_ofNat, Int.natCast_zero] at hs2
      go_wp2_with fail
      refine (entries_any (cutA O c p 6) (n - p) (c - p) ((xs.drop p).take (n - p)) w3 (hcut.take (by omega)) (fun x hx => HF.out x (List.mem_of_mem_drop (List.mem_of_mem_take hx))) (by omega)).mono ?_
      rintro e w4 ⟨hb4, A4, c4, rfl, ho4⟩
      go_wp2
      refine bodyPost_ret (v := .tuple #[.slice A4 (n - p) c4, .int .i64 0]) ?_ rfl ⟨hb3'.trans (hb4.mono hb3'.size), .inr ⟨HNG.out, p, A4, c4, hp, HA.out, HU.out, by rw [HK.out], ?_⟩⟩
      · simp [results, Try.results13, go_sem]
      · rw [HK.out]
        exact ho4.lower hb3'.size

/-- The entries from an index on. -/
def fromI (xs : List Ent) (fr : Int) : List Ent := xs.filter fun x => decide (fr ≤ x.1)

set_option maxHeartbeats 1600000 in
theorem sliceRef_any (bi bt : Int) (A : Option Addr) (na ca : Nat) (B : Option Addr) (nb cb : Nat) (D : Option Addr) (nd cd : Nat) (O : Option Addr) (n c : Nat) (xs : List Ent) (fr most : Int) (w : World) (h : IsEs w O n xs) (hf : ∀ x ∈ xs, Fits x) (hn : n * 96 ≤ 140737488355328) :
    Calls Try.prog 21 #[lg bi bt A na ca B nb cb D nd cd O n c, .int .u64 fr, .int .i64 most] w fun e w' => Below w.heap.size w w' ∧
      ((gap bi xs fr ∧ e = .returned (.tuple #[.slice none 0 0, .int .i64 61])) ∨ (¬ gap bi xs fr ∧ ∃ q A' c', e = .returned (.tuple #[.slice A' q c', .int .i64 0]) ∧ OwnEs w' w.heap.size A' q c' ((fromI xs fr).take most.toNat))) := by
  obtain ⟨i0, hi, hz0, hz1', hz2'⟩ := info_parts infoEnt
  have H := Lib.hid h
  have HF := Lib.hid hf
  have hxl := h.len
  clear h hf
  obtain ⟨li, hli⟩ : ∃ li, li = lastI bi xs := ⟨_, rfl⟩
  have HG := Lib.hid (show gap bi xs fr ↔ (fr ≤ bi ∨ IntKind.u64.wrap (li + 1) < fr) by unfold gap; rw [hli])
  have HLI := Lib.hid hli
  clear hli
  go_enter Try.func21, Try.ntmps21
  go_wp2_with fail
  refine name_calls (fun w1 hw1 => ?_)
  have k3 : Blk w1 w.heap.size [.int .u64 bi, .int .u64 bt, .slice A na ca, .slice B nb cb, .slice D nd cd, .slice O n c] := by rw [hw1]; exact Blk.new _ _ _ _ rfl
  have hb1 : Below w.heap.size w w1 := by rw [hw1]; exact (by (repeat first | refine Below.setCell ?_ (by first | omega | (dsimp only; omega) | (simp only [heap_drew, World.size_alloc, Gz.size_setCell]; omega)) _ | refine Below.alloc ?_ (by first | omega | (dsimp only; omega) | (simp only [heap_drew, World.size_alloc, Gz.size_setCell]; omega)) _ | refine Below.drew ?_); exact Below.refl _ _)
  clear hw1
  refine (lastRef_any bi bt A na ca B nb cb D nd cd O n c xs w1 (H.out.below hb1) (by omega)).mono ?_
  rintro e w2 ⟨rfl, hb2⟩
  rw [← HLI.out]
  have k3 := k3.ext hb2
  have hb2 := hb1.trans (hb2.mono hb1.size)
  have c3 := k3.cell
  by_cases g1 : fr ≤ bi
  · go_wp2
    refine bodyPost_ret (v := .tuple #[.slice none 0 0, .int .i64 61]) ?_ rfl ⟨hb2, .inl ⟨HG.out.2 (.inl g1), rfl⟩⟩
    simp [results, Try.results21, go_sem]
  by_cases g2 : IntKind.u64.wrap (li + 1) < fr
  · go_wp2
    refine bodyPost_ret (v := .tuple #[.slice none 0 0, .int .i64 61]) ?_ rfl ⟨hb2, .inl ⟨HG.out.2 (.inr g2), rfl⟩⟩
    simp [results, Try.results21, go_sem]
  have HNG := Lib.hid (show ¬ gap bi xs fr from fun hg => (HG.out.1 hg).elim g1 g2)
  have K3 := hide k3
  go_wp2_with fail
  clear c3 k3
  go_loopw [10, 11] (fun s10 s11 wr => ∃ (j q : Nat) (A' : Option Addr) (d : Nat), s10 = .slice A' q d ∧ s11 = .int .i64 j ∧ j ≤ n ∧ (A' = none ∨ 0 < q) ∧ OwnEs wr w2.heap.size A' q d ((fromI (xs.take j) fr).take most.toNat) ∧ Below w2.heap.size w2 wr) (fun _ s11 _ => (n - intOf s11).toNat)
  case atStart => exact ⟨0, 0, none, 0, rfl, rfl, by omega, .inl rfl, ⟨[], by simp [fromI], rfl, .inl ⟨rfl, rfl, rfl⟩, fun z hz => (by cases hz)⟩, Below.refl _ _⟩
  case round =>
    obtain ⟨j, q, A', d, rfl, rfl, hj, hA, ho, hbr⟩ := hrel
    have c3 := (K3.out.ext hbr).cell
    have hwr := hb2.trans (hbr.mono hb2.size)
    have hql : ((fromI (xs.take j) fr).take most.toNat).length = q := by obtain ⟨zs, h1, h2, _⟩ := ho; rw [← h1, List.length_map, h2]
    have hq : q ≤ j := by
      have h1 : (fromI (xs.take j) fr).length ≤ (xs.take j).length := List.length_filter_le _ _
      simp at h1 hql
      omega
    have HQ := Lib.hid hql
    clear hql
    by_cases hlt : j < n
    · have b1 : (j : Int) < (n : Int) := by omega
      by_cases hmo : (q : Int) < most
      · cases O with
        | none => obtain ⟨zs, _, h2, h3, _⟩ := H.out; have := h3.2.1 rfl; omega
        | some ad =>
        obtain ⟨x, D', dc, V, vc, L, lc, hx, hE, _, _, m0, m1, m2, m3, m4, m5⟩ := (H.out.below hwr).at hlt
        have hxm : x ∈ xs := List.mem_of_getElem? hx
        have HE := Lib.hid hE
        have HT := Lib.hid (show xs.take (j + 1) = xs.take j ++ [x] by rw [List.take_add_one, hx]; rfl)
        have HX := Lib.hid hx
        clear hx hE
        by_cases hge : fr ≤ x.1
        · go_wp2_with fail
          refine (clone_any _ x wr HE.out (HF.out x hxm)).mono ?_
          rintro e w3 ⟨hb3, cs', rfl, hoe⟩
          obtain ⟨zs, hz1, hz2, hz3, hz4⟩ := ho
          have hz3 := hz3.below hb3
          have hoe := hoe.lower hbr.size
          have hbr3 := hbr.trans (hb3.mono hbr.size)
          have hw3 := hb2.trans (hbr3.mono hb2.size)
          obtain ⟨D3, d3, V3, v3, L3, l3, rfl, q1, q2⟩ := hoe
          have hoe : OwnE w3 w2.heap.size _ x := ⟨D3, d3, V3, v3, L3, l3, rfl, q1, q2⟩
          clear q1 q2 m0 m1 m2 m3 m4 m5 c3
          go_wp2_with (with_reducible refine stop_at (d := 57) ?_)
          refine hide (wpList_append_own_sl rfl (.tmp 49) (.tmp 56) 29 rfl w2.heap.size 47 i0 _ 6 96 Try.underlying29 hi hz0 hz1' hz2' rfl (by omega) A' q d (zs.flatMap (·.1)) rfl (hz3.alloc _) _ 1 1 _ rfl (sl_new w3 _ _ rfl _ [.int .u64 x.1, .int .u64 x.2.1, .int .i64 x.2.2.1, .slice D3 x.2.2.2.1.length d3, .slice V3 x.2.2.2.2.1.length v3, .slice L3 x.2.2.2.2.2.length l3] 6 1 rfl) hoe.one (by omega) (by omega) (by have := hbr3.size; simp; omega) ?_)
          intro A4 c4 w4 ho4 hb4 hg4
          have hE4 : ∀ z ∈ zs, OwnE w4 w2.heap.size z.1 z.2 := fun z hz => (((hz4 z hz).below hb3).below (below_alloc_one w3 _)).grown_type (hz3.alloc _) hA hg4
          have hx4 : OwnE w4 w2.heap.size _ x := (hoe.below (below_alloc_one w3 _)).grown_type (hz3.alloc _) hA hg4
          have hS := OwnEs.snoc hz1 hz2 ho4 hE4 hx4
          have hsame : (fromI (xs.take (j + 1)) fr).take most.toNat = (fromI (xs.take j) fr).take most.toNat ++ [x] := by
            have hq' := HQ.out
            rw [List.length_take] at hq'
            have e : fromI (xs.take (j + 1)) fr = fromI (xs.take j) fr ++ [x] := by
              unfold fromI
              rw [HT.out, List.filter_append]
              simp [hge]
            rw [e, List.take_of_length_le (l := fromI (xs.take j) fr ++ [x]) (by simp; omega), List.take_of_length_le (l := fromI (xs.take j) fr) (by omega)]
          rw [← hsame] at hS
          have hbr4 : Below w2.heap.size w2 w4 := (hbr3.alloc hbr3.size _).trans hb4
          clear ho4 hE4 hx4 hg4 hoe hz3 hz4 hsame
          go_wp2
          go_roundw
          case rel => exact ⟨j + 1, q + 1, A4, c4, rfl, by go_num, by omega, .inr (by omega), hS, hbr4⟩
          case measure => simp [intOf]; omega
        · have hg' : x.1 < fr := by omega
          have hsame : fromI (xs.take (j + 1)) fr = fromI (xs.take j) fr := by
            unfold fromI
            rw [HT.out, List.filter_append]
            simp [hge]
          rw [← hsame] at ho
          clear hsame
          go_wp2
          go_roundw
          case rel => exact ⟨j + 1, q, A', d, rfl, by go_num, by omega, hA, ho, hbr⟩
          case measure => simp [intOf]; omega
      · have hfin : (fromI (xs.take j) fr).take most.toNat = (fromI xs fr).take most.toNat := by
          have hq' := HQ.out
          have e : fromI xs fr = fromI (xs.take j) fr ++ fromI (xs.drop j) fr := by unfold fromI; rw [← List.filter_append, List.take_append_drop]
          rw [e, List.take_append]
          rw [List.length_take] at hq'
          generalize hL : (fromI (xs.take j) fr).length = L at hq' ⊢
          have : most.toNat - L = 0 := by omega
          rw [this, List.take_zero, List.append_nil]
        rw [hfin] at ho
        clear hfin
        go_wp2
        refine bodyPost_ret (v := .tuple #[.slice A' q d, .int .i64 0]) ?_ rfl ⟨hwr, .inr ⟨HNG.out, q, A', d, rfl, ho.lower hb2.size⟩⟩
        simp [results, Try.results21, go_sem]
    · obtain rfl : j = n := by omega
      have b1 : ¬ (j : Int) < (j : Int) := by omega
      rw [show xs.take j = xs from List.take_of_length_le (by omega)] at ho
      go_wp2
      refine bodyPost_ret (v := .tuple #[.slice A' q d, .int .i64 0]) ?_ rfl ⟨hwr, .inr ⟨HNG.out, q, A', d, rfl, ho.lower hb2.size⟩⟩
      simp [results, Try.results21, go_sem]
end Go.Proofs.Ytglabhfmeinogaa

/- The document's Compact, of a log that is right. -/
import Derived.Deep.DeepCutAuto
import Derived.Test.YtglabhfmeinogaaLRefT
import Derived.Test.YtglabhfmeinogaaLHead
namespace Go.Proofs.Ytglabhfmeinogaa
open Go.RowKit Go.Gz
attribute [local go_sem] World.cell?_alloc_some frozen?_alloc_some

/-- The entries behind an index. -/
def afterI (xs : List Ent) (ix : Int) : List Ent := xs.filter (fun x => decide (ix < x.1))
theorem afterI_right {bi ix : Int} {xs : List Ent} {p : Nat} (hr : Right bi xs) (he : ix = bi + p + 1) : afterI xs ix = xs.drop (p + 1) := by
  obtain ⟨h1, h2⟩ := right_split hr he
  unfold afterI
  conv => lhs; rw [← List.take_append_drop (p + 1) xs]
  rw [List.filter_append, List.filter_eq_nil_iff.2 (fun x hx => by have := h1 x hx; simp; omega), List.nil_append]
  exact List.filter_eq_self.2 (fun x hx => by have := h2 x hx; simp; omega)
theorem afterI_step {ix : Int} {xs : List Ent} {i : Nat} {x : Ent} (hx : xs[i]? = some x) : afterI (xs.take (i + 1)) ix = afterI (xs.take i) ix ++ (if ix < x.1 then [x] else []) := by
  unfold afterI
  rw [List.take_add_one, hx, List.filter_append]
  by_cases h : ix < x.1 <;> simp [h]

/-- What the document's Compact answers. -/
def CompactRef (w : World) (bi bt ix : Int) (n q : Nat) (l k dz : List Int) (xs : List Ent) (e : Ending) : Prop :=
  (bi < ix ∧ ix ≤ lastI bi xs) ∧ ∃ (t : Int) (b : Bool) (A : Option Addr) (n' ca : Nat) (B : Option Addr) (m' cb : Nat) (D : Option Addr) (cd : Nat) (O : Option Addr) (r c : Nat), TermIs bi bt xs ix t b ∧ e = .returned (.tuple #[lg ix t A n' ca B m' cb D q cd O r c, .int .i64 0]) ∧
    IsLog w A B D O n' m' q r (uptoC ix (l, k) xs).1 (uptoC ix (l, k) xs).2 dz (afterI xs ix)

/-- Behind region 6. -/
def BaseAt (w5 wx : World) (ix t : Int) (A : Option Addr) (n' ca : Nat) (B : Option Addr) (m' cb q : Nat) (dz : List Int) (s14 : Value) : Prop :=
  ∃ (g : Nat) (D : Option Addr) (cd : Nat), s14 = .pointer (some ⟨g, 0, none⟩) ∧ w5.heap.size ≤ g ∧ Below w5.heap.size w5 wx ∧ BlkT wx g 31 [.int .u64 ix, .int .u64 t, .slice A n' ca, .slice B m' cb, .slice D q cd, .slice none 0 0] ∧ Gz.Own wx w5.heap.size 5 1 D q cd (nums .u8 dz)

theorem cell_lt {w : World} {p : Addr} {u : Value} (h : w.cell? p = some u) : p.block < w.heap.size := by
  rcases Nat.lt_or_ge p.block w.heap.size with hlt | hge
  · exact hlt
  · simp [World.cell?, Array.getElem?_eq_none hge] at h

/-- How the loop stands. -/
def CompAt (w wr : World) (g : Nat) (bi bt ix t : Int) (A : Option Addr) (na ca : Nat) (B : Option Addr) (nb cb : Nat) (D : Option Addr) (nd cd : Nat) (O : Option Addr) (n c : Nat) (A4 : Option Addr) (n4 a4 : Nat) (B4 : Option Addr) (m4 b4 : Nat) (D6 : Option Addr) (q d6 : Nat) (lu ku dz : List Int) (xs : List Ent) (i : Nat) : Prop :=
  Below w.heap.size w wr ∧ Blk wr w.heap.size [.int .u64 bi, .int .u64 bt, .slice A na ca, .slice B nb cb, .slice D nd cd, .slice O n c] ∧ Blk wr (w.heap.size + 1) [.int .u64 0, .int .u64 0, .slice none 0 0, .slice none 0 0, .slice none 0 0, .slice none 0 0] ∧
  OwnSnap wr (w.heap.size + 2) A4 B4 D6 n4 a4 m4 b4 q d6 lu ku dz ∧ ∃ O' r' c', BlkT wr g 31 [.int .u64 ix, .int .u64 t, .slice A4 n4 a4, .slice B4 m4 b4, .slice D6 q d6, .slice O' r' c'] ∧ OwnEs wr (w.heap.size + 2) O' r' c' (afterI (xs.take i) ix)
theorem afterI_len (xs : List Ent) (ix : Int) (i : Nat) : (afterI (xs.take i) ix).length ≤ i := by
  have h1 := List.length_filter_le (fun x : Ent => decide (ix < x.1)) (xs.take i)
  have h2 := List.length_take_le i xs
  unfold afterI
  omega


set_option maxHeartbeats 8000000 in
theorem compactRef_any (bi bt : Int) (A : Option Addr) (na ca : Nat) (B : Option Addr) (nb cb : Nat) (D : Option Addr) (nd cd : Nat) (O : Option Addr) (n c : Nat) (l k z : List Int) (xs : List Ent) (ix : Int) (E : Option Addr) (q qc : Nat) (dz : List Int) (w : World)
    (h : IsLog w A B D O na nb nd n l k z xs) (hf : ∀ x ∈ xs, Fits x) (hna : na * 8 ≤ 140737488355328) (hnb : nb * 8 ≤ 140737488355328) (hnc : n ≤ c) (hn : n * 96 ≤ 140737488355328) (hd : SlA w 1 E q (nums .u8 dz)) (hq : q ≤ 140737488355328) :
    Calls Try.prog 24 #[lg bi bt A na ca B nb cb D nd cd O n c, .int .u64 ix, .slice E q qc] w fun e w' => Below w.heap.size w w' ∧ (CompactNo bi ix xs e ∨ CompactRef w' bi bt ix n q l k dz xs e) := by
  obtain ⟨i0, hi, hz0, hz1', hz2'⟩ := info_parts infoEnt
  obtain ⟨i1, hj, hj0, hj1, hj2⟩ := info_parts infoU8
  have H := Lib.hid h
  have HF := Lib.hid hf
  have HD := Lib.hid hd
  have hxl := Lib.hid h.2.len
  clear h hf hd
  go_enter Try.func24, Try.ntmps24
  go_wp2_with fail
  refine name_calls (fun w1 hw1 => ?_)
  have k3 : Blk w1 w.heap.size [.int .u64 bi, .int .u64 bt, .slice A na ca, .slice B nb cb, .slice D nd cd, .slice O n c] := by rw [hw1]; exact (Blk.new _ _ _ _ rfl).alloc _
  have k6 : Blk w1 (w.heap.size + 1) [.int .u64 0, .int .u64 0, .slice none 0 0, .slice none 0 0, .slice none 0 0, .slice none 0 0] := by rw [hw1]; exact Blk.new _ _ _ _ (by simp)
  have hb1 : Below w.heap.size w w1 := by rw [hw1]; exact (by (repeat first | refine Below.setCell ?_ (by first | omega | (dsimp only; omega) | (simp only [heap_drew, World.size_alloc, Gz.size_setCell]; omega)) _ | refine Below.alloc ?_ (by first | omega | (dsimp only; omega) | (simp only [heap_drew, World.size_alloc, Gz.size_setCell]; omega)) _ | refine Below.drew ?_); exact Below.refl _ _)
  have hz1 : w1.heap.size = w.heap.size + 2 := by rw [hw1]; simp
  clear hw1
  refine (lastRef_any bi bt A na ca B nb cb D nd cd O n c xs w1 (H.out.2.below hb1) (by omega)).mono ?_
  rintro e w2 ⟨rfl, hb2⟩
  have k3 := k3.ext hb2
  have k6 := k6.ext hb2
  have hz2 := hb2.size
  have hb2 := hb1.trans (hb2.mono hb1.size)
  obtain ⟨la, hla⟩ : ∃ la, la = lastI bi xs := ⟨_, rfl⟩
  rw [← hla]
  have HLA := Lib.hid hla
  clear hla
  have c3 := k3.cell
  by_cases h1 : ix ≤ bi
  · go_wp2_with (with_reducible refine stop_store ?_)
    refine hide (wpList_store_blk rfl 31 (.tmp 6) (.tmp 31) rfl (w.heap.size + 1) [.int .u64 0, .int .u64 0, .slice none 0 0, .slice none 0 0, .slice none 0 0, .slice none 0 0] rfl rfl _ k6 rfl (by kernel_rfl) rfl ?_)
    intro wf kf hgf hzf
    go_wp2
    refine bodyPost_ret (v := .tuple #[lg 0 0 none 0 0 none 0 0 none 0 0 none 0 0, .int .i64 61]) ?_ rfl ⟨below_grown hb2 hgf (by omega) (by omega), .inl ⟨.inl h1, rfl⟩⟩
    simp [results, Try.results24, go_sem, kf.cell]
  by_cases h2 : la < ix
  · go_wp2_with (with_reducible refine stop_store ?_)
    refine hide (wpList_store_blk rfl 31 (.tmp 6) (.tmp 31) rfl (w.heap.size + 1) [.int .u64 0, .int .u64 0, .slice none 0 0, .slice none 0 0, .slice none 0 0, .slice none 0 0] rfl rfl _ k6 rfl (by kernel_rfl) rfl ?_)
    intro wf kf hgf hzf
    go_wp2
    refine bodyPost_ret (v := .tuple #[lg 0 0 none 0 0 none 0 0 none 0 0 none 0 0, .int .i64 61]) ?_ rfl ⟨below_grown hb2 hgf (by omega) (by omega), .inl ⟨.inr (by have := HLA.out; omega), rfl⟩⟩
    simp [results, Try.results24, go_sem, kf.cell]
  have HG := Lib.hid (show bi < ix ∧ ix ≤ lastI bi xs from ⟨by omega, by have := HLA.out; omega⟩)
  go_wp2_with fail
  refine (termRef_any bi bt A na ca B nb cb D nd cd O n c xs ix w2 (H.out.2.below hb2) (by omega)).mono ?_
  rintro e w3 ⟨hb3, t, b, rfl, hT⟩
  have HT := Lib.hid hT
  have k3 := k3.ext hb3
  have k6 := k6.ext hb3
  have hz3 := hb3.size
  have hb3 := hb2.trans (hb3.mono hb2.size)
  clear hT c3
  have c3 := k3.cell
  go_wp2_with fail
  refine (upto_any bi bt A na ca B nb cb D nd cd O n c l k z xs ix w3 (H.out.below hb3) HF.out hna hnb (by omega)).mono ?_
  rintro e w4 ⟨hb4, A4, n4, a4, B4, m4, b4, u, rfl, ho4⟩
  have k3 := k3.ext hb4
  have k6 := k6.ext hb4
  have hz4 := hb4.size
  have hb4 := hb3.trans (hb4.mono hb3.size)
  clear c3
  go_wp2_with (with_reducible refine stop_store ?_)
  refine hide (name_list (fun w4a hw4a => ?_))
  have hbw : Below w4.heap.size w4 w4a := by rw [hw4a]; exact below_alloc_one _ _
  have k12 : Blk w4a w4.heap.size [.slice none 0 0, .slice none 0 0] := by rw [hw4a]; exact Blk.new _ _ _ _ rfl
  have hz4a : w4a.heap.size = w4.heap.size + 1 := by rw [hw4a]; simp
  clear hw4a
  refine hide (wpList_store_blk rfl 25 (.tmp 12) (.tmp 42) rfl w4.heap.size [.slice A4 n4 a4, .slice B4 m4 b4] rfl rfl _ k12 rfl (by kernel_rfl) rfl ?_)
  intro w5 k12 hg5 hz5a
  have hb45 : Below w4.heap.size w4 w5 := below_grown hbw hg5 (Nat.le_refl _) (by omega)
  have hb5 := hb4.trans (hb45.mono hb4.size)
  have k3 := k3.ext hb45
  have k6 := k6.ext hb45
  have hz5 : w.heap.size + 2 < w5.heap.size := by have := hb45.size; omega
  have HOC := Lib.hid ((ho4.below hb45).lower (base' := w.heap.size + 2) (by omega))
  clear hg5 hbw hz4a hb45 hz5a ho4
  have c12 := k12.cell
  go_upto_region 6 with fail
  go_cut [14] (fun s14 wx => BaseAt w5 wx ix t A4 n4 a4 B4 m4 b4 q dz s14)
  case first =>
    refine wp_region_phase 9 (S := Ext w5) (by kernel_rfl) rfl (by kernel_rfl) (fun hS => ?_) Ext.start
    simp only [List.take_succ_cons, List.take_zero, List.drop_succ_cons, List.drop_zero]
    refine take_at (i := 0) (oi := _) (dst := some 44) (v := ?_) rfl rfl (by kernel_rfl) (by kernel_rfl) (by kernel_rfl) (fun _ _ _ h => h) (Or.inl ⟨by rfl, by intro w hSw; (try dsimp only at hSw); go_simp; (try with_reducible rfl)⟩) (by assumption) ?_; (try simp only [Act.put, List.setIfInBounds_toArray, List.set_cons_zero, List.set_cons_succ])
    refine take_at (i := 1) (oi := _) (dst := some 45) (v := ?_) rfl rfl (by kernel_rfl) (by kernel_rfl) (by kernel_rfl) (fun _ _ _ h => h) (Or.inl ⟨by rfl, by intro w hSw; (try dsimp only at hSw); go_simp; (try with_reducible rfl)⟩) (by assumption) ?_; (try simp only [Act.put, List.setIfInBounds_toArray, List.set_cons_zero, List.set_cons_succ])
    refine take_at (i := 2) (oi := _) (dst := some 46) (v := ?_) rfl rfl (by kernel_rfl) (by kernel_rfl) (by kernel_rfl) (fun _ _ _ h => h) (Or.inl ⟨by rfl, by intro w hSw; (try dsimp only at hSw); go_simp; (try with_reducible rfl)⟩) (by assumption) ?_; (try simp only [Act.put, List.setIfInBounds_toArray, List.set_cons_zero, List.set_cons_succ])
    refine take_at (i := 4) (oi := _) (dst := some 48) (v := ?_) rfl rfl (by kernel_rfl) (by kernel_rfl) (by kernel_rfl) (fun _ _ _ h => h) (Or.inl ⟨by rfl, by intro w hSw; (try dsimp only at hSw); go_simp; (try with_reducible rfl)⟩) (by assumption) ?_; (try simp only [Act.put, List.setIfInBounds_toArray, List.set_cons_zero, List.set_cons_succ])
    refine wpAnyH_ready (rs := [3, 8]) (by kernel_rfl) (by simp) ?_
    refine AllReadyH.cons (o := _) rfl (fun K hK => ?_) (AllReadyH.cons (o := _) rfl (fun K hK => ?_) AllReadyH.nil)
    · go_simp
      refine hK.out _ _ (Ext.alloc hS _) (fun hS1 => ?_)
      clear hK
      refine wpAnyH_ready (rs := [5, 8]) (by kernel_rfl) (by simp) ?_
      refine AllReadyH.cons (o := _) rfl (fun K hK => ?_) (AllReadyH.cons (o := _) rfl (fun K hK => ?_) AllReadyH.nil)
      · refine step_append_empty (some 49) rfl rfl (.tmp 47) (.tmp 48) _ rfl 5 i1 (.int .u8 0) 1 1 Try.underlying26 hj hj0 hj1 hj2 rfl _ rfl E q qc (nums .u8 dz) rfl (HD.out.below (hb5.trans (hS1.2.2.mono hb5.size))) (by omega) (by omega) ?_
        intro D6 d6 wq hod hbq
        refine hK.out _ _ (Ext.below hS1 hbq) (fun hS2 => ?_)
        clear hK
        simp only [Act.put, List.setIfInBounds_toArray, List.set_cons_zero, List.set_cons_succ]
        refine take_at (i := 6) (oi := _) (dst := some 50) (v := ?_) rfl rfl (by kernel_rfl) (by kernel_rfl) (by kernel_rfl) (fun _ _ _ h => h) (Or.inl ⟨by rfl, by intro w hSw; (try dsimp only at hSw); go_simp; (try with_reducible rfl)⟩) (by assumption) ?_; (try simp only [Act.put, List.setIfInBounds_toArray, List.set_cons_zero, List.set_cons_succ])
        refine take_at (i := 7) (oi := _) (dst := some 51) (v := ?_) rfl rfl (by kernel_rfl) (by kernel_rfl) (by kernel_rfl) (fun _ _ _ h => h) (Or.inl ⟨by rfl, by intro w hSw; (try dsimp only at hSw); go_simp; (try with_reducible rfl)⟩) (by assumption) ?_; (try simp only [Act.put, List.setIfInBounds_toArray, List.set_cons_zero, List.set_cons_succ])
        refine wpAnyH_ready (rs := [8]) (by kernel_rfl) (by simp) ?_; refine AllReadyH.cons (o := _) rfl (fun K hK => ?_) AllReadyH.nil; go_simp
        refine hK.out _ _ (Ext.alloc hS2 _) (fun hS3 => ?_)
        clear hK
        have kn : BlkT (wq.alloc (.cells #[.int .u64 0, .int .u64 0, .slice none 0 0, .slice none 0 0, .slice none 0 0, .slice none 0 0] 31)) wq.heap.size 31 [.int .u64 0, .int .u64 0, .slice none 0 0, .slice none 0 0, .slice none 0 0, .slice none 0 0] := BlkT.new _ _ _
        refine wpAnyH_done (by kernel_rfl) ?_ _
        go_wp2_with (with_reducible refine stop_store ?_)
        refine hide (wpList_store_partT rfl 31 (.tmp 14) (.tmp 51) rfl wq.heap.size 0 31 _ [.int .u64 ix, .int .u64 t, .slice A4 n4 a4, .slice B4 m4 b4, .slice D6 q d6, .slice none 0 0] rfl rfl rfl [.int .u64 0, .int .u64 0, .slice none 0 0, .slice none 0 0, .slice none 0 0, .slice none 0 0] (kn) (by simp) (by kernel_rfl) rfl _ rfl ?_)
        intro w7 k14 hg7 hz7
        simp only [List.take_succ_cons, List.take_zero, List.drop_succ_cons, List.drop_zero, List.cons_append, List.nil_append, List.length_cons, List.length_nil] at k14
        have hs7 := SameBut.of_blk (kn) hg7
        go_wp2_with fail
        go_meet
        case rel => exact ⟨_, D6, d6, rfl, hS2.2.2.size, below_grown (hS3).2.2 hg7 hS2.2.2.size (kn).lt, k14, (Own.sameBut ((hod.alloc _)) hs7 (by decide)).lower (by simp)⟩
      · go_simp
        refine hK.out _ _ (Ext.alloc hS1 _) (fun hS2 => ?_)
        clear hK
        refine wpAnyH_ready (rs := [5]) (by kernel_rfl) (by simp) ?_; refine AllReadyH.cons (o := _) rfl (fun K hK => ?_) AllReadyH.nil
        refine step_append_empty (some 49) rfl rfl (.tmp 47) (.tmp 48) _ rfl 5 i1 (.int .u8 0) 1 1 Try.underlying26 hj hj0 hj1 hj2 rfl _ rfl E q qc (nums .u8 dz) rfl (HD.out.below (hb5.trans (hS2.2.2.mono hb5.size))) (by omega) (by omega) ?_
        intro D6 d6 wq hod hbq
        refine hK.out _ _ (Ext.below hS2 hbq) (fun hS3 => ?_)
        clear hK
        simp only [Act.put, List.setIfInBounds_toArray, List.set_cons_zero, List.set_cons_succ]
        refine take_at (i := 6) (oi := _) (dst := some 50) (v := ?_) rfl rfl (by kernel_rfl) (by kernel_rfl) (by kernel_rfl) (fun _ _ _ h => h) (Or.inl ⟨by rfl, by intro w hSw; (try dsimp only at hSw); go_simp; (try with_reducible rfl)⟩) (by assumption) ?_; (try simp only [Act.put, List.setIfInBounds_toArray, List.set_cons_zero, List.set_cons_succ])
        refine take_at (i := 7) (oi := _) (dst := some 51) (v := ?_) rfl rfl (by kernel_rfl) (by kernel_rfl) (by kernel_rfl) (fun _ _ _ h => h) (Or.inl ⟨by rfl, by intro w hSw; (try dsimp only at hSw); go_simp; (try with_reducible rfl)⟩) (by assumption) ?_; (try simp only [Act.put, List.setIfInBounds_toArray, List.set_cons_zero, List.set_cons_succ])
        have kn : BlkT wq (w5.heap.size + 1) 31 [.int .u64 0, .int .u64 0, .slice none 0 0, .slice none 0 0, .slice none 0 0, .slice none 0 0] := by
          have := (BlkT.new (w5.alloc (.cells #[] 5)) 31 [.int .u64 0, .int .u64 0, .slice none 0 0, .slice none 0 0, .slice none 0 0, .slice none 0 0]).below (of_drew hbq)
          simpa using this
        refine wpAnyH_done (by kernel_rfl) ?_ _
        go_wp2_with (with_reducible refine stop_store ?_)
        refine hide (wpList_store_partT rfl 31 (.tmp 14) (.tmp 51) rfl (w5.heap.size + 1) 0 31 _ [.int .u64 ix, .int .u64 t, .slice A4 n4 a4, .slice B4 m4 b4, .slice D6 q d6, .slice none 0 0] rfl rfl rfl [.int .u64 0, .int .u64 0, .slice none 0 0, .slice none 0 0, .slice none 0 0, .slice none 0 0] (kn) (by simp) (by kernel_rfl) rfl _ rfl ?_)
        intro w7 k14 hg7 hz7
        simp only [List.take_succ_cons, List.take_zero, List.drop_succ_cons, List.drop_zero, List.cons_append, List.nil_append, List.length_cons, List.length_nil] at k14
        have hs7 := SameBut.of_blk (kn) hg7
        go_wp2_with fail
        go_meet
        case rel => exact ⟨_, D6, d6, rfl, (by omega), below_grown (hS3).2.2 hg7 (by omega) (kn).lt, k14, (Own.sameBut (hod) hs7 (by decide)).lower (by simp; omega)⟩
    · go_simp
      refine hK.out _ _ (Ext.alloc hS _) (fun hS1 => ?_)
      clear hK
      refine wpAnyH_ready (rs := [3]) (by kernel_rfl) (by simp) ?_; refine AllReadyH.cons (o := _) rfl (fun K hK => ?_) AllReadyH.nil; go_simp
      refine hK.out _ _ (Ext.alloc hS1 _) (fun hS2 => ?_)
      clear hK
      refine wpAnyH_ready (rs := [5]) (by kernel_rfl) (by simp) ?_; refine AllReadyH.cons (o := _) rfl (fun K hK => ?_) AllReadyH.nil
      refine step_append_empty (some 49) rfl rfl (.tmp 47) (.tmp 48) _ rfl 5 i1 (.int .u8 0) 1 1 Try.underlying26 hj hj0 hj1 hj2 rfl _ rfl E q qc (nums .u8 dz) rfl (HD.out.below (hb5.trans (hS2.2.2.mono hb5.size))) (by omega) (by omega) ?_
      intro D6 d6 wq hod hbq
      refine hK.out _ _ (Ext.below hS2 hbq) (fun hS3 => ?_)
      clear hK
      simp only [Act.put, List.setIfInBounds_toArray, List.set_cons_zero, List.set_cons_succ]
      refine take_at (i := 6) (oi := _) (dst := some 50) (v := ?_) rfl rfl (by kernel_rfl) (by kernel_rfl) (by kernel_rfl) (fun _ _ _ h => h) (Or.inl ⟨by rfl, by intro w hSw; (try dsimp only at hSw); go_simp; (try with_reducible rfl)⟩) (by assumption) ?_; (try simp only [Act.put, List.setIfInBounds_toArray, List.set_cons_zero, List.set_cons_succ])
      refine take_at (i := 7) (oi := _) (dst := some 51) (v := ?_) rfl rfl (by kernel_rfl) (by kernel_rfl) (by kernel_rfl) (fun _ _ _ h => h) (Or.inl ⟨by rfl, by intro w hSw; (try dsimp only at hSw); go_simp; (try with_reducible rfl)⟩) (by assumption) ?_; (try simp only [Act.put, List.setIfInBounds_toArray, List.set_cons_zero, List.set_cons_succ])
      have kn : BlkT wq w5.heap.size 31 [.int .u64 0, .int .u64 0, .slice none 0 0, .slice none 0 0, .slice none 0 0, .slice none 0 0] := ((BlkT.new w5 31 [.int .u64 0, .int .u64 0, .slice none 0 0, .slice none 0 0, .slice none 0 0, .slice none 0 0]).below (below_alloc_one _ _)).below (of_drew hbq)
      refine wpAnyH_done (by kernel_rfl) ?_ _
      go_wp2_with (with_reducible refine stop_store ?_)
      refine hide (wpList_store_partT rfl 31 (.tmp 14) (.tmp 51) rfl w5.heap.size 0 31 _ [.int .u64 ix, .int .u64 t, .slice A4 n4 a4, .slice B4 m4 b4, .slice D6 q d6, .slice none 0 0] rfl rfl rfl [.int .u64 0, .int .u64 0, .slice none 0 0, .slice none 0 0, .slice none 0 0, .slice none 0 0] (kn) (by simp) (by kernel_rfl) rfl _ rfl ?_)
      intro w7 k14 hg7 hz7
      simp only [List.take_succ_cons, List.take_zero, List.drop_succ_cons, List.drop_zero, List.cons_append, List.nil_append, List.length_cons, List.length_nil] at k14
      have hs7 := SameBut.of_blk (kn) hg7
      go_wp2_with fail
      go_meet
      case rel => exact ⟨_, D6, d6, rfl, (Nat.le_refl _), below_grown (hS3).2.2 hg7 (Nat.le_refl _) (kn).lt, k14, (Own.sameBut (hod) hs7 (by decide)).lower (by simp; omega)⟩
  case rest =>
    obtain ⟨g, D6, d6, rfl, hg, hb6, k14, hod⟩ := hcut
    have hb6' := hb5.trans (hb6.mono hb5.size)
    have HU := Lib.hid (show CompAt w wc g bi bt ix t A na ca B nb cb D nd cd O n c A4 n4 a4 B4 m4 b4 D6 q d6 (uptoC ix (l, k) xs).1 (uptoC ix (l, k) xs).2 dz xs 0 from ⟨hb6', k3.ext hb6, k6.ext hb6, ⟨HOC.out.below hb6, hod.lower (by omega)⟩, none, 0, 0, k14, [], rfl, rfl, .inl ⟨rfl, rfl, rfl⟩, fun z hz => (by cases hz)⟩)
    have hgz : w.heap.size + 2 < g := by omega
    clear k3 k6 k12 c12 hb6 hb6' hod HOC k14
    go_wp2_with fail
    go_loopw [15] (fun s15 wr => ∃ i : Nat, s15 = .int .i64 i ∧ i ≤ n ∧ CompAt w wr g bi bt ix t A na ca B nb cb D nd cd O n c A4 n4 a4 B4 m4 b4 D6 q d6 (uptoC ix (l, k) xs).1 (uptoC ix (l, k) xs).2 dz xs i) (fun s15 _ => (n - intOf s15).toNat)
    case atStart => exact ⟨0, rfl, by omega, HU.out⟩
    case round =>
      clear HU
      obtain ⟨i, rfl, hii, hwr, k3, k6, hos, O', r', c', k14, hoe⟩ := hrel
      have hlen := Lib.hid (show r' ≤ i by have h1 := hoe.is.len; have h2 := afterI_len xs ix i; omega)
      have c3 := k3.cell
      have c14 := k14.blk.cell
      by_cases hlt : i < n
      · have q1 : (i : Int) < (n : Int) := by omega
        cases O with
        | none => obtain ⟨zs, _, h2, h3, _⟩ := H.out.2; have := h3.2.1 rfl; omega
        | some ad =>
        obtain ⟨x, D', dc, V, vc, L, lc, hx, hE, _, _, m0, m1, m2, m3, m4', m5⟩ := (H.out.2.below hwr).at hlt
        obtain ⟨_, _, _, _, _, _, _, _, _, _, _, mw, _⟩ := H.out.2.at hlt
        have had : (ad.add (i * 6)).block < w.heap.size + 2 := by have := cell_lt mw; omega
        have HST := Lib.hid (afterI_step (ix := ix) hx)
        have HE := Lib.hid hE
        have hfx := Lib.hid (HF.out x (List.mem_of_getElem? hx))
        clear hx hE mw
        by_cases hgt : ix < x.1
        · have HGT := Lib.hid hgt
          go_wp2_with fail
          refine wp_region_phase 10 (S := fun W => W.cell? ⟨g, 5, none⟩ = some (.slice O' r' c') ∧ W.cell? ⟨w.heap.size, 5, none⟩ = some (.slice (some ad) n c) ∧ W.cell? (ad.add (i * 6)) = some (.int .u64 x.1) ∧ W.cell? ⟨(ad.add (i * 6)).block, (ad.add (i * 6)).off + 1, none⟩ = some (.int .u64 x.2.1) ∧ W.cell? ⟨(ad.add (i * 6)).block, (ad.add (i * 6)).off + 2, none⟩ = some (.int .i64 x.2.2.1) ∧ W.cell? ⟨(ad.add (i * 6)).block, (ad.add (i * 6)).off + 3, none⟩ = some (.slice D' x.2.2.2.1.length dc) ∧ W.cell? ⟨(ad.add (i * 6)).block, (ad.add (i * 6)).off + 4, none⟩ = some (.slice V x.2.2.2.2.1.length vc) ∧ W.cell? ⟨(ad.add (i * 6)).block, (ad.add (i * 6)).off + 5, none⟩ = some (.slice L x.2.2.2.2.2.length lc)) (by kernel_rfl) rfl (by kernel_rfl) (fun hS => ?_) ⟨c14 5, c3 5, m0, m1, m2, m3, m4', m5⟩
          simp only [List.take_succ_cons, List.take_zero, List.drop_succ_cons, List.drop_zero]
          refine take_at (i := 0) (oi := _) (dst := some 67) (v := ?_) rfl rfl (by kernel_rfl) (by kernel_rfl) (by kernel_rfl) (fun _ _ _ h => h) (Or.inl ⟨by rfl, by intro w hSw; (try dsimp only at hSw); go_simp; (try with_reducible rfl)⟩) (by assumption) ?_; (try simp only [Act.put, List.setIfInBounds_toArray, List.set_cons_zero, List.set_cons_succ])
          refine take_at (i := 1) (oi := _) (dst := some 68) (v := ?_) rfl rfl (by kernel_rfl) (by kernel_rfl) (by kernel_rfl) (fun _ _ _ h => h) (Or.inl ⟨by rfl, by intro w hSw; (try dsimp only at hSw); go_simp; (try with_reducible rfl)⟩) (by assumption) ?_; (try simp only [Act.put, List.setIfInBounds_toArray, List.set_cons_zero, List.set_cons_succ])
          refine take_at (i := 2) (oi := _) (dst := some 69) (v := ?_) rfl rfl (by kernel_rfl) (by kernel_rfl) (by kernel_rfl) (fun _ _ _ h => h) (Or.inl ⟨by rfl, by intro w hSw; (try dsimp only at hSw); go_simp; (try with_reducible rfl)⟩) (by assumption) ?_; (try simp only [Act.put, List.setIfInBounds_toArray, List.set_cons_zero, List.set_cons_succ])
          refine take_at (i := 3) (oi := _) (dst := some 70) (v := ?_) rfl rfl (by kernel_rfl) (by kernel_rfl) (by kernel_rfl) (fun _ _ _ h => h) (Or.inl ⟨by rfl, by intro w hSw; (try dsimp only at hSw); go_simp; (try with_reducible rfl)⟩) (by assumption) ?_; (try simp only [Act.put, List.setIfInBounds_toArray, List.set_cons_zero, List.set_cons_succ])
          refine take_at (i := 4) (oi := _) (dst := some 71) (v := ?_) rfl rfl (by kernel_rfl) (by kernel_rfl) (by kernel_rfl) (fun _ _ _ h => h) (Or.inl ⟨by rfl, by intro w hSw; (try dsimp only at hSw); go_simp; (try with_reducible rfl)⟩) (by assumption) ?_; (try simp only [Act.put, List.setIfInBounds_toArray, List.set_cons_zero, List.set_cons_succ])
          refine take_at (i := 5) (oi := _) (dst := some 72) (v := ?_) rfl rfl (by kernel_rfl) (by kernel_rfl) (by kernel_rfl) (fun _ _ _ h => h) (Or.inl ⟨by rfl, by intro w hSw; (try dsimp only at hSw); go_simp; (try with_reducible rfl)⟩) (by assumption) ?_; (try simp only [Act.put, List.setIfInBounds_toArray, List.set_cons_zero, List.set_cons_succ])
          refine take_at (i := 6) (oi := _) (dst := some 73) (v := ?_) rfl rfl (by kernel_rfl) (by kernel_rfl) (by kernel_rfl) (fun _ _ _ h => h) (Or.inl ⟨by rfl, by intro w hSw; (try dsimp only at hSw); go_simp; (try with_reducible rfl)⟩) (by assumption) ?_; (try simp only [Act.put, List.setIfInBounds_toArray, List.set_cons_zero, List.set_cons_succ])
          refine wpAnyH_ready (rs := [7]) (by kernel_rfl) (by simp) ?_; refine AllReadyH.cons (o := _) rfl (fun K hK => ?_) AllReadyH.nil; go_simp
          refine (clone_any _ x _ (HE.out.below (Below.refl _ _).drew) hfx.out).mono ?_
          rintro e w7 ⟨hb7, cs', rfl, hox⟩
          have hb7 := of_drew hb7
          have hox : OwnE w7 wr.heap.size cs' x := hox
          obtain ⟨D3, d3, V3, v3, L3, l3, rfl, q1', q2'⟩ := hox
          have hox : OwnE w7 (w.heap.size + 2) _ x := (show OwnE w7 wr.heap.size _ x from ⟨D3, d3, V3, v3, L3, l3, rfl, q1', q2'⟩).lower (by have := k14.lt; omega)
          obtain ⟨s1, s2, s3, s4, s5, s6, s7, s8⟩ : _ ∧ _ ∧ _ ∧ _ ∧ _ ∧ _ ∧ _ ∧ _ := ⟨kc_below hb7 (c14 5), kc_below hb7 (c3 5), kc_below hb7 m0, kc_below hb7 m1, kc_below hb7 m2, kc_below hb7 m3, kc_below hb7 m4', kc_below hb7 m5⟩
          refine hK.out _ _ ⟨s1, s2, s3, s4, s5, s6, s7, s8⟩ (fun hS7 => ?_)
          clear hK q1' q2'
          refine wpAnyH_ready (rs := [8]) (by kernel_rfl) (by simp) ?_; refine AllReadyH.cons (o := _) rfl (fun K hK => ?_) AllReadyH.nil; go_simp
          have hbx := below_alloc_one w7 (.cells #[.int .u64 x.1, .int .u64 x.2.1, .int .i64 x.2.2.1, .slice D3 x.2.2.2.1.length d3, .slice V3 x.2.2.2.2.1.length v3, .slice L3 x.2.2.2.2.2.length l3] 47)
          obtain ⟨t1, t2, t3, t4, t5, t6, t7, t8⟩ : _ ∧ _ ∧ _ ∧ _ ∧ _ ∧ _ ∧ _ ∧ _ := ⟨kc_below hbx s1, kc_below hbx s2, kc_below hbx s3, kc_below hbx s4, kc_below hbx s5, kc_below hbx s6, kc_below hbx s7, kc_below hbx s8⟩
          refine hK.out _ _ ⟨t1, t2, t3, t4, t5, t6, t7, t8⟩ (fun hS8 => ?_)
          clear hK
          obtain ⟨zs, z1, z2, z3, z4⟩ := hoe
          have hbr7 := hwr.trans (hb7.mono hwr.size)
          have hz7 := hb7.size
          have k14lt := k14.lt
          refine wpAnyH_ready (rs := [9]) (by kernel_rfl) (by simp) ?_; refine AllReadyH.cons (o := _) rfl (fun K hK => ?_) AllReadyH.nil
          refine step_append_own_T (some 76) rfl rfl (.tmp 68) (.tmp 75) 29 rfl (w.heap.size + 2) 47 i0 _ 6 96 Try.underlying29 hi hz0 hz1' hz2' rfl (by omega) O' r' c' (zs.flatMap (·.1)) rfl ((z3.below hb7).alloc _) _ 1 1 _ rfl (sl_new w7 _ _ rfl _ [.int .u64 x.1, .int .u64 x.2.1, .int .i64 x.2.2.1, .slice D3 x.2.2.2.1.length d3, .slice V3 x.2.2.2.2.1.length v3, .slice L3 x.2.2.2.2.2.length l3] 6 1 rfl) hox.one (by have := hlen.out; omega) (by omega) (by simp; omega) ?_
          intro O9 c9 w9 ho9 hb9 hs9
          have k14 := ((k14.below hb7).below hbx).sameBut hs9 (by decide)
          refine hK.out _ _ ⟨k14.blk.cell 5, (hb9.cell (p := ⟨w.heap.size, 5, none⟩) (by simp)).trans t2, (hb9.cell had).trans t3, (hb9.cell (p := ⟨(ad.add (i * 6)).block, (ad.add (i * 6)).off + 1, none⟩) had).trans t4, (hb9.cell (p := ⟨(ad.add (i * 6)).block, (ad.add (i * 6)).off + 2, none⟩) had).trans t5, (hb9.cell (p := ⟨(ad.add (i * 6)).block, (ad.add (i * 6)).off + 3, none⟩) had).trans t6, (hb9.cell (p := ⟨(ad.add (i * 6)).block, (ad.add (i * 6)).off + 4, none⟩) had).trans t7, (hb9.cell (p := ⟨(ad.add (i * 6)).block, (ad.add (i * 6)).off + 5, none⟩) had).trans t8⟩ (fun hS9 => ?_)
          clear hK
          refine wpAnyH_done (by kernel_rfl) ?_ _
          have k3 := ((k3.ext hb7).ext hbx).below hb9 (by omega)
          have k6 := ((k6.ext hb7).ext hbx).below hb9 (by omega)
          have hos := ((hos.below hb7).below hbx).sameBut hs9 (by decide) (by decide)
          have hzE : ∀ z ∈ zs, OwnE w9 (w.heap.size + 2) z.1 z.2 := fun z hz => (((z4 z hz).below hb7).below hbx).sameBut hs9 (by decide) (by decide)
          have hzX := (hox.below hbx).sameBut hs9 (by decide) (by decide)
          have hoe := OwnEs.snoc z1 z2 ho9 hzE hzX
          have hwr9 : Below w.heap.size w w9 := (hbr7.trans (hbx.mono hbr7.size)).trans (hb9.mono (by omega))
          clear hS hS7 hS8 hS9 s1 s2 s3 s4 s5 s6 s7 s8 t1 t2 t3 t4 t5 t6 t7 t8 m0 m1 m2 m3 m4' m5 c3 c14 ho9 hzE hzX z1 z2 z3 z4 hbx hs9 hox
          go_wp2_with (with_reducible refine stop_store ?_)
          refine hide (wpList_store_partT rfl 29 (.tmp 77) (.tmp 76) rfl g 5 31 _ [.slice O9 (r' + 1) c9] rfl rfl rfl _ k14 (by simp) (by kernel_rfl) rfl _ rfl ?_)
          intro wa ka hga hza
          have hsa := SameBut.of_blk k14 hga
          have k3 := blk_grown k3 hga (by omega)
          have k6 := blk_grown k6 hga (by omega)
          have hos := hos.sameBut hsa (by decide) (by decide)
          have hoe := hoe.sameBut hsa (by decide) (by decide) (by decide)
          have hwa := below_grown hwr9 hga (by omega) k14.lt
          simp only [List.take_succ_cons, List.take_zero, List.drop_succ_cons, List.drop_zero, List.cons_append, List.nil_append, List.length_cons, List.length_nil] at ka
          clear hsa k14 hga hza
          go_wp2
          go_roundw
          case rel => exact ⟨i + 1, by go_num, by omega, hwa, k3, k6, hos, O9, r' + 1, c9, ka, by rw [HST.out, if_pos HGT.out]; exact hoe⟩
          case measure => simp [intOf]; omega
        · have hgt' : ¬ ix < x.1 := hgt
          go_wp2
          go_roundw
          case rel => exact ⟨i + 1, by go_num, by omega, hwr, k3, k6, hos, O', r', c', k14, by rw [HST.out, if_neg hgt, List.append_nil]; exact hoe⟩
          case measure => simp [intOf]; omega
      · obtain rfl : i = n := by omega
        have q1 : ¬ (i : Int) < (i : Int) := by omega
        rw [List.take_of_length_le (by have := hxl.out; omega)] at hoe
        go_wp2_with (with_reducible refine stop_store ?_)
        refine hide (wpList_store_blk rfl 31 (.tmp 6) (.tmp 78) rfl (w.heap.size + 1) [.int .u64 ix, .int .u64 t, .slice A4 n4 a4, .slice B4 m4 b4, .slice D6 q d6, .slice O' r' c'] rfl rfl _ k6 rfl (by kernel_rfl) rfl ?_)
        intro wf kf hgf hzf
        have hos := hos.grown hgf (by omega)
        have hoe := hoe.grown hgf (by omega)
        have k6lt := k6.lt
        go_wp2
        refine bodyPost_ret (v := .tuple #[lg ix t A4 n4 a4 B4 m4 b4 D6 q d6 O' r' c', .int .i64 0]) ?_ rfl ⟨below_grown hwr hgf (by omega) k6lt, .inr ⟨HG.out, t, b, A4, n4, a4, B4, m4, b4, D6, d6, O', r', c', HT.out, rfl, ⟨hos.is, hoe.is⟩⟩⟩
        simp [results, Try.results24, go_sem, kf.cell]
end Go.Proofs.Ytglabhfmeinogaa

/- The program's Compact, of any log. -/
import Derived.Test.YtglabhfmeinogaaLLast
import Derived.Test.YtglabhfmeinogaaLMerge
namespace Go.Proofs.Ytglabhfmeinogaa
open Go.RowKit Go.Gz
attribute [local go_sem] World.cell?_alloc_some frozen?_alloc_some

/-- What Compact answers: an error .. -/
def CompactNo (bi ix : Int) (xs : List Ent) (e : Ending) : Prop :=
  (ix ≤ bi ∨ lastI bi xs < ix) ∧ e = .returned (.tuple #[lg 0 0 none 0 0 none 0 0 none 0 0 none 0 0, .int .i64 61])
/-- .. or the log behind the snapshot. -/
def CompactYes (w : World) (base : Nat) (bi bt ix : Int) (n q : Nat) (l k dz : List Int) (xs : List Ent) (e : Ending) : Prop :=
  (bi < ix ∧ ix ≤ lastI bi xs) ∧ ∃ (p : Nat) (t : Int) (b : Bool) (l' k' : List Int) (ix' : Int) (n' m' : Nat) (v : Value), p < n ∧ AtLeast xs p ix ∧ Under xs p ix ∧ TermIs bi bt xs ix t b ∧ LastConf (xs.take (p + 1)) l k l' k' ix' ∧
    OwnLog w base ix t n' m' q (n - (p + 1)) l' k' dz (xs.drop (p + 1)) v ∧ e = .returned (.tuple #[v, .int .i64 0])



set_option maxHeartbeats 8000000 in
theorem compact_any (bi bt : Int) (A : Option Addr) (na ca : Nat) (B : Option Addr) (nb cb : Nat) (D : Option Addr) (nd cd : Nat) (O : Option Addr) (n c : Nat) (l k z : List Int) (xs : List Ent) (ix : Int) (E : Option Addr) (q qc : Nat) (dz : List Int) (w : World)
    (h : IsLog w A B D O na nb nd n l k z xs) (hf : ∀ x ∈ xs, Fits x) (hna : na * 8 ≤ 140737488355328) (hnb : nb * 8 ≤ 140737488355328) (hnc : n ≤ c) (hn : n * 96 ≤ 140737488355328) (hd : SlA w 1 E q (nums .u8 dz)) (hq : q ≤ 140737488355328) :
    Calls Try.prog 17 #[lg bi bt A na ca B nb cb D nd cd O n c, .int .u64 ix, .slice E q qc] w fun e w' => Below w.heap.size w w' ∧ (CompactNo bi ix xs e ∨ CompactYes w' w.heap.size bi bt ix n q l k dz xs e) := by
  obtain ⟨i0, hi, hz0, hz1', hz2'⟩ := info_parts infoEnt
  have H := Lib.hid h
  have HF := Lib.hid hf
  have HD := Lib.hid hd
  have HC := Lib.hid h.2
  have hxl := Lib.hid h.2.len
  clear h hf hd
  go_enter Try.func17, Try.ntmps17
  go_wp2_with fail
  refine name_calls (fun w1 hw1 => ?_)
  have k3 : Blk w1 w.heap.size [.int .u64 bi, .int .u64 bt, .slice A na ca, .slice B nb cb, .slice D nd cd, .slice O n c] := by rw [hw1]; exact (Blk.new _ _ _ _ rfl).alloc _
  have k6 : Blk w1 (w.heap.size + 1) [.int .u64 0, .int .u64 0, .slice none 0 0, .slice none 0 0, .slice none 0 0, .slice none 0 0] := by rw [hw1]; exact Blk.new _ _ _ _ (by simp)
  have hb1 : Below w.heap.size w w1 := by rw [hw1]; exact (by (repeat first | refine Below.setCell ?_ (by first | omega | (dsimp only; omega) | (simp only [heap_drew, World.size_alloc, Gz.size_setCell]; omega)) _ | refine Below.alloc ?_ (by first | omega | (dsimp only; omega) | (simp only [heap_drew, World.size_alloc, Gz.size_setCell]; omega)) _ | refine Below.drew ?_); exact Below.refl _ _)
  have hz1 : w1.heap.size = w.heap.size + 2 := by rw [hw1]; simp
  clear hw1
  refine (last_any bi bt A na ca B nb cb D nd cd O n c xs w1 (HC.out.below hb1) (by omega)).mono ?_
  rintro e w2 ⟨rfl, hb2⟩
  have k3 := k3.ext hb2
  have k6 := k6.ext hb2
  have hz2 := hb2.size
  have hb2 := hb1.trans (hb2.mono hb1.size)
  obtain ⟨la, hla⟩ : ∃ la, la = lastI bi xs := ⟨_, rfl⟩
  rw [← hla]
  have HLA := Lib.hid hla
  clear hla
  have c3 := k3.cell
  by_cases h1 : ix ≤ bi
  · go_wp2_with (with_reducible refine stop_store ?_)
    refine hide (wpList_store_blk rfl 31 (.tmp 6) (.tmp 30) rfl (w.heap.size + 1) [.int .u64 0, .int .u64 0, .slice none 0 0, .slice none 0 0, .slice none 0 0, .slice none 0 0] rfl rfl _ k6 rfl (by kernel_rfl) rfl ?_)
    intro wf kf hgf hzf
    go_wp2
    refine bodyPost_ret (v := .tuple #[lg 0 0 none 0 0 none 0 0 none 0 0 none 0 0, .int .i64 61]) ?_ rfl ⟨below_grown hb2 hgf (by omega) (by omega), .inl ⟨.inl h1, rfl⟩⟩
    simp [results, Try.results17, go_sem, kf.cell]
  by_cases h2 : la < ix
  · go_wp2_with (with_reducible refine stop_store ?_)
    refine hide (wpList_store_blk rfl 31 (.tmp 6) (.tmp 30) rfl (w.heap.size + 1) [.int .u64 0, .int .u64 0, .slice none 0 0, .slice none 0 0, .slice none 0 0, .slice none 0 0] rfl rfl _ k6 rfl (by kernel_rfl) rfl ?_)
    intro wf kf hgf hzf
    go_wp2
    refine bodyPost_ret (v := .tuple #[lg 0 0 none 0 0 none 0 0 none 0 0 none 0 0, .int .i64 61]) ?_ rfl ⟨below_grown hb2 hgf (by omega) (by omega), .inl ⟨.inr (by have := HLA.out; omega), rfl⟩⟩
    simp [results, Try.results17, go_sem, kf.cell]
  go_wp2_with fail
  refine (place_any bi bt A na ca B nb cb D nd cd O n c xs ix w2 (HC.out.below hb2) (by omega)).mono ?_
  rintro e w3 ⟨hb3, p, rfl, hpn, hPA, hPU⟩
  have hpn' : p < n := by
    rcases Nat.lt_or_ge p n with hlt | hge
    · exact hlt
    · have := HLA.out
      have hl := hxl.out
      cases hn0 : n with
      | zero =>
        rw [hn0] at hl
        obtain rfl := List.eq_nil_of_length_eq_zero hl
        rw [(last_nil bi).1] at this
        omega
      | succ m =>
        have hx := List.getElem?_eq_getElem (show m < xs.length by omega)
        rw [(last_at (by omega) hx bi).1] at this
        have := hPU _ (by omega) (by rw [show p - 1 = m by omega]; exact hx)
        omega
  have HPA := Lib.hid hPA
  have HPU := Lib.hid hPU
  clear hPA hPU c3
  have k3 := k3.ext hb3
  have k6 := k6.ext hb3
  have hz3 := hb3.size
  have hb3 := hb2.trans (hb3.mono hb2.size)
  have c3 := k3.cell
  go_wp2_with fail
  refine (term_any bi bt A na ca B nb cb D nd cd O n c xs ix w3 (HC.out.below hb3) (by omega)).mono ?_
  rintro e w5 ⟨hb5, t, b, rfl, hT⟩
  have HT := Lib.hid hT
  have k3 := k3.ext hb5
  have k6 := k6.ext hb5
  have hz5 := hb5.size
  have hb5 := hb3.trans (hb5.mono hb3.size)
  clear hT c3
  have c3 := k3.cell
  have hs1 := run_slice_high (P := Try.prog) 29 47 i0 Try.underlying29 hi .i64 O n c (p + 1) (by omega)
  have hs2 := run_slice_low (P := Try.prog) 29 47 i0 6 Try.underlying29 hi hz1' .i64 O n c (p + 1) (by omega)
  simp only [Int.natCast_add, Int.cast_ofNat_Int] at hs1 hs2
  have HC := Lib.hid (HC.out.cut (p := p + 1) (by omega) hnc)
  have HTK := Lib.hid (show IsLog w A B D O na nb nd (p + 1) l k z (xs.take (p + 1)) from ⟨H.out.1, H.out.2.take (by omega)⟩)
  clear h1 h2
  go_wp2_with fail
  refine wp_region_held_drew (S := Ext w5) (by kernel_rfl) Ext.start (fun hS => ?_)
  simp only [List.size_toArray, List.length_cons, List.length_nil]
  refine take_at (i := 0) (oi := _) (dst := some 42) (v := ?_) rfl rfl (by kernel_rfl) (by kernel_rfl) (by kernel_rfl) (fun _ _ _ h => h) (Or.inl ⟨by rfl, by intro w hSw; (try dsimp only at hSw); go_simp; (try with_reducible rfl)⟩) (by assumption) ?_; (try simp only [Act.put, List.setIfInBounds_toArray, List.set_cons_zero, List.set_cons_succ])
  refine take_at (i := 1) (oi := _) (dst := some 43) (v := ?_) rfl rfl (by kernel_rfl) (by kernel_rfl) (by kernel_rfl) (fun _ _ _ h => h) (Or.inl ⟨by rfl, by intro w hSw; (try dsimp only at hSw); go_simp; (try with_reducible rfl)⟩) (by assumption) ?_; (try simp only [Act.put, List.setIfInBounds_toArray, List.set_cons_zero, List.set_cons_succ])
  refine take_at (i := 2) (oi := _) (dst := some 44) (v := ?_) rfl rfl (by kernel_rfl) (by kernel_rfl) (by kernel_rfl) (fun _ _ _ h => h) (Or.inl ⟨by rfl, by intro w hSw; (try dsimp only at hSw); go_simp; (try with_reducible rfl)⟩) (by assumption) ?_; (try simp only [Act.put, List.setIfInBounds_toArray, List.set_cons_zero, List.set_cons_succ])
  refine take_at (i := 3) (oi := _) (dst := some 45) (v := ?_) rfl rfl (by kernel_rfl) (by kernel_rfl) (by kernel_rfl) (fun _ _ _ h => h) (Or.inl ⟨by rfl, by intro w hSw; (try dsimp only at hSw); go_simp; (try with_reducible rfl)⟩) (by assumption) ?_; (try simp only [Act.put, List.setIfInBounds_toArray, List.set_cons_zero, List.set_cons_succ])
  refine take_at (i := 4) (oi := _) (dst := some 46) (v := ?_) rfl rfl (by kernel_rfl) (by kernel_rfl) (by kernel_rfl) (fun _ _ _ h => h) (Or.inl ⟨by rfl, by intro w hSw; (try dsimp only at hSw); go_simp; (try with_reducible rfl)⟩) (by assumption) ?_; (try simp only [Act.put, List.setIfInBounds_toArray, List.set_cons_zero, List.set_cons_succ])
  refine take_at (i := 5) (oi := _) (dst := some 47) (v := ?_) rfl rfl (by kernel_rfl) (by kernel_rfl) (by kernel_rfl) (fun _ _ _ h => h) (Or.inl ⟨by rfl, by intro w hSw; (try dsimp only at hSw); go_simp; (try with_reducible rfl)⟩) (by assumption) ?_; (try simp only [Act.put, List.setIfInBounds_toArray, List.set_cons_zero, List.set_cons_succ])
  refine take_at (i := 6) (oi := _) (dst := some 48) (v := ?_) rfl rfl (by kernel_rfl) (by kernel_rfl) (by kernel_rfl) (fun _ _ _ h => h) (Or.inl ⟨by rfl, by intro w hSw; (try dsimp only at hSw); go_simp; (try with_reducible rfl)⟩) (by assumption) ?_; (try simp only [Act.put, List.setIfInBounds_toArray, List.set_cons_zero, List.set_cons_succ])
  refine wpAnyH_ready (rs := [7, 11]) (by kernel_rfl) (by simp) ?_
  refine AllReadyH.cons (o := _) rfl (fun K hK => ?_) (AllReadyH.cons (o := _) rfl (fun K hK => ?_) AllReadyH.nil)
  · go_simp
    refine (lastConf_any bi bt A na ca B nb cb D nd cd O (p + 1) c l k z (xs.take (p + 1)) _ ((HTK.out).below (hb5.trans (hS.2.2.mono hb5.size))) (fun x hx => HF.out x (List.mem_of_mem_take hx)) hna hnb (by omega)).mono ?_
    rintro e w6 ⟨hb6, A6, n', a6, B6, m', b6, l', k', ix', rfl, ho6, hlc⟩
    have HLC := Lib.hid hlc
    clear hlc
    refine hK.out _ _ (Ext.below hS hb6) (fun hS6 => ?_)
    clear hK
    refine take_at (i := 8) (oi := _) (dst := some 41) (v := ?_) rfl rfl (by kernel_rfl) (by kernel_rfl) (by kernel_rfl) (fun _ _ _ h => h) (Or.inl ⟨by rfl, by intro w hSw; (try dsimp only at hSw); go_simp; (try with_reducible rfl)⟩) (by assumption) ?_; (try simp only [Act.put, List.setIfInBounds_toArray, List.set_cons_zero, List.set_cons_succ])
    refine take_at (i := 9) (oi := _) (dst := some 50) (v := ?_) rfl rfl (by kernel_rfl) (by kernel_rfl) (by kernel_rfl) (fun _ _ _ h => h) (Or.inl ⟨by rfl, by intro w hSw; (try dsimp only at hSw); go_simp; (try with_reducible rfl)⟩) (by assumption) ?_; (try simp only [Act.put, List.setIfInBounds_toArray, List.set_cons_zero, List.set_cons_succ])
    refine take_at (i := 10) (oi := _) (dst := some 51) (v := ?_) rfl rfl (by kernel_rfl) (by kernel_rfl) (by kernel_rfl) (fun _ _ _ h => h) (Or.inl ⟨by rfl, by intro w hSw; (try dsimp only at hSw); go_simp; (try with_reducible rfl)⟩) (by assumption) ?_; (try simp only [Act.put, List.setIfInBounds_toArray, List.set_cons_zero, List.set_cons_succ])
    refine wpAnyH_ready (rs := [11]) (by kernel_rfl) (by simp) ?_; refine AllReadyH.cons (o := _) rfl (fun K hK => ?_) AllReadyH.nil; go_simp
    refine hK.out _ _ (Ext.alloc hS6 _) (fun hS61 => ?_)
    clear hK
    have k13 : Blk (w6.alloc (.cells #[.slice none 0 0, .slice none 0 0] 25)) w6.heap.size [.slice none 0 0, .slice none 0 0] := Blk.new _ _ _ _ rfl
    have hz61 : (w6.alloc (.cells #[.slice none 0 0, .slice none 0 0] 25)).heap.size = w6.heap.size + 1 := by simp
    generalize hw61 : w6.alloc (.cells #[.slice none 0 0, .slice none 0 0] 25) = w61 at hS61 k13 hz61 ⊢
    refine wpAnyH_ready (rs := [12]) (by kernel_rfl) (by simp) ?_; refine AllReadyH.cons (o := _) rfl (fun K hK => ?_) AllReadyH.nil
    refine step_store_part rfl rfl 25 (.tmp 13) (.tmp 50) rfl (w6.heap.size) 0 _ [.slice A6 n' a6, .slice B6 m' b6] rfl rfl rfl _ k13 (by simp) (by kernel_rfl) rfl _ rfl ?_
    intro w7 k13' hg7 hz7
    have hzc := hS6.2.2.size
    have hS7 : Ext w5 w7 := Ext.of (below_grown hS61.2.2 hg7 (by first | omega | (dsimp only; omega) | (simp only [heap_drew, World.size_alloc, Gz.size_setCell]; omega)) (by omega))
    have hzq := hS7.2.2.size
    refine hK.out _ _ hS7 (fun _ => ?_)
    clear hK
    simp only [Act.put, List.setIfInBounds_toArray, List.set_cons_zero, List.set_cons_succ]
    refine take_at (i := 13) (oi := _) (dst := some 14) (v := ?_) rfl rfl (by kernel_rfl) (by kernel_rfl) (by kernel_rfl) (fun _ _ _ h => h) (Or.inl ⟨by rfl, by intro w hSw; (try dsimp only at hSw); go_simp; (try with_reducible rfl)⟩) (by assumption) ?_; (try simp only [Act.put, List.setIfInBounds_toArray, List.set_cons_zero, List.set_cons_succ])
    refine wpAnyH_done (by kernel_rfl) ?_ _
    have k13 := k13'
    simp only [List.take_succ_cons, List.take_zero, List.drop_succ_cons, List.drop_zero, List.cons_append, List.nil_append, List.length_cons, List.length_nil] at k13
    clear k13' c3
    have hb7 := hb5.trans (hS7.2.2.mono hb5.size)
    have k3 := k3.ext hS7.2.2
    have k6 := k6.ext hS7.2.2
    have c3 := k3.cell
    have c13 := k13.cell
    clear hS7
    have hb67 : Below w6.heap.size w6 w7 := by rw [← hw61] at hg7 hz7; exact below_grown (below_alloc_one _ _) hg7 (Nat.le_refl _) (by simp)
    have ho6 : OwnConf w7 (w.heap.size + 2) A6 B6 n' a6 m' b6 l' k' := (ho6.below hb67).lower (by simp only [heap_drew]; omega)
    clear hb67 hw61 hg7 hz7 hS61
    go_wp2_with fail
    refine wp_region_phase 12 (S := Ext w7) (by kernel_rfl) rfl (by kernel_rfl) (fun hS => ?_) Ext.start
    simp only [List.take_succ_cons, List.take_zero, List.drop_succ_cons, List.drop_zero]
    refine take_at (i := 0) (oi := _) (dst := some 52) (v := ?_) rfl rfl (by kernel_rfl) (by kernel_rfl) (by kernel_rfl) (fun _ _ _ h => h) (Or.inl ⟨by rfl, by intro w hSw; (try dsimp only at hSw); go_simp; (try with_reducible rfl)⟩) (by assumption) ?_; (try simp only [Act.put, List.setIfInBounds_toArray, List.set_cons_zero, List.set_cons_succ])
    refine take_at (i := 1) (oi := _) (dst := some 53) (v := ?_) rfl rfl (by kernel_rfl) (by kernel_rfl) (by kernel_rfl) (fun _ _ _ h => h) (Or.inl ⟨by rfl, by intro w hSw; (try dsimp only at hSw); go_simp; (try with_reducible rfl)⟩) (by assumption) ?_; (try simp only [Act.put, List.setIfInBounds_toArray, List.set_cons_zero, List.set_cons_succ])
    refine take_at (i := 2) (oi := _) (dst := some 54) (v := ?_) rfl rfl (by kernel_rfl) (by kernel_rfl) (by kernel_rfl) (fun _ _ _ h => h) (Or.inl ⟨by rfl, by intro w hSw; (try dsimp only at hSw); go_simp; (try with_reducible rfl)⟩) (by assumption) ?_; (try simp only [Act.put, List.setIfInBounds_toArray, List.set_cons_zero, List.set_cons_succ])
    refine take_at (i := 3) (oi := _) (dst := some 55) (v := ?_) rfl rfl (by kernel_rfl) (by kernel_rfl) (by kernel_rfl) (fun _ _ _ h => h) (Or.inl ⟨by rfl, by intro w hSw; (try dsimp only at hSw); go_simp; (try with_reducible rfl)⟩) (by assumption) ?_; (try simp only [Act.put, List.setIfInBounds_toArray, List.set_cons_zero, List.set_cons_succ])
    refine take_at (i := 6) (oi := _) (dst := some 58) (v := ?_) rfl rfl (by kernel_rfl) (by kernel_rfl) (by kernel_rfl) (fun _ _ _ h => h) (Or.inl ⟨by rfl, by intro w hSw; (try dsimp only at hSw); go_simp; (try with_reducible rfl)⟩) (by assumption) ?_; (try simp only [Act.put, List.setIfInBounds_toArray, List.set_cons_zero, List.set_cons_succ])
    refine take_at (i := 7) (oi := _) (dst := some 59) (v := ?_) rfl rfl (by kernel_rfl) (by kernel_rfl) (by kernel_rfl) (fun _ _ _ h => h) (Or.inl ⟨by rfl, by intro w hSw; (try dsimp only at hSw); go_simp; (try with_reducible rfl)⟩) (by assumption) ?_; (try simp only [Act.put, List.setIfInBounds_toArray, List.set_cons_zero, List.set_cons_succ])
    refine take_at (i := 8) (oi := _) (dst := some 60) (v := ?_) rfl rfl (by kernel_rfl) (by kernel_rfl) (by kernel_rfl) (fun _ _ _ h => h) (Or.inl ⟨by rfl, by intro w hSw; (try dsimp only at hSw); go_simp; (try with_reducible rfl)⟩) (by assumption) ?_; (try simp only [Act.put, List.setIfInBounds_toArray, List.set_cons_zero, List.set_cons_succ])
    refine take_at (i := 9) (oi := _) (dst := some 61) (v := ?_) rfl rfl (by kernel_rfl) (by kernel_rfl) (by kernel_rfl) (fun _ _ _ h => h) (Or.inl ⟨by rfl, by intro w hSw; (try dsimp only at hSw); go_simp; (try with_reducible rfl)⟩) (by assumption) ?_; (try simp only [Act.put, List.setIfInBounds_toArray, List.set_cons_zero, List.set_cons_succ])
    refine wpAnyH_ready (rs := [4]) (by kernel_rfl) (by simp) ?_; refine AllReadyH.cons (o := _) rfl (fun K hK => ?_) AllReadyH.nil; go_simp
    refine (clone_bytes E q qc dz _ ((HD.out).below (hb7.trans (hS.2.2.mono hb7.size))) hq).mono ?_
    rintro e w8 ⟨hb8, E8, e8, rfl, ho8⟩
    refine hK.out _ _ (Ext.below hS hb8) (fun hS8 => ?_)
    clear hK
    refine take_at (i := 5) (oi := _) (dst := some 57) (v := ?_) rfl rfl (by kernel_rfl) (by kernel_rfl) (by kernel_rfl) (fun _ _ _ h => h) (Or.inl ⟨by rfl, by intro w hSw; (try dsimp only at hSw); go_simp; (try with_reducible rfl)⟩) (by assumption) ?_; (try simp only [Act.put, List.setIfInBounds_toArray, List.set_cons_zero, List.set_cons_succ])
    refine wpAnyH_ready (rs := [10]) (by kernel_rfl) (by simp) ?_; refine AllReadyH.cons (o := _) rfl (fun K hK => ?_) AllReadyH.nil; go_simp
    refine (entries_any (cutA O c (p + 1) 6) (n - (p + 1)) (c - (p + 1)) (xs.drop (p + 1)) _ ((HC.out).below (hb7.trans (hS8.2.2.mono hb7.size))) (fun x hx => HF.out x (List.mem_of_mem_drop hx)) (by omega)).mono ?_
    rintro e w9 ⟨hb9, O9, c9, rfl, ho9⟩
    refine hK.out _ _ (Ext.below hS8 hb9) (fun hS9 => ?_)
    clear hK
    refine take_at (i := 11) (oi := _) (dst := some 63) (v := ?_) rfl rfl (by kernel_rfl) (by kernel_rfl) (by kernel_rfl) (fun _ _ _ h => h) (Or.inl ⟨by rfl, by intro w hSw; (try dsimp only at hSw); go_simp; (try with_reducible rfl)⟩) (by assumption) ?_; (try simp only [Act.put, List.setIfInBounds_toArray, List.set_cons_zero, List.set_cons_succ])
    refine wpAnyH_done (by kernel_rfl) ?_ _
    have hz7 := hb7.size
    have hz8 := hS8.2.2.size
    have hz9 := hS9.2.2.size
    have hbw9 := hb7.trans (hS9.2.2.mono hb7.size)
    have k6 := k6.below hS9.2.2 (by omega)
    have hoc : OwnConf w9 (w.heap.size + 2) A6 B6 n' a6 m' b6 l' k' := (ho6.below hS9.2.2)
    have hod : Gz.Own w9 (w.heap.size + 2) 5 1 E8 q e8 (nums .u8 dz) := (ho8.below hb9).lower (by simp only [heap_drew]; omega)
    have hoe : OwnEs w9 (w.heap.size + 2) O9 (n - (p + 1)) c9 (xs.drop (p + 1)) := ho9.lower (by omega)
    clear hS hS8 hS9 c3 c13 ho8 ho9 ho6
    go_wp2_with (with_reducible refine stop_store ?_)
    refine hide (wpList_store_blk rfl 31 (.tmp 6) (.tmp 63) rfl (w.heap.size + 1) [.int .u64 ix, .int .u64 t, .slice A6 n' a6, .slice B6 m' b6, .slice E8 q e8, .slice O9 (n - (p + 1)) c9] rfl rfl _ k6 rfl (by kernel_rfl) rfl ?_)
    intro wf kf hgf hzf
    have hr2 : ∀ k, some (w.heap.size + 1) = some k → k < w.heap.size + 2 := fun k hk => by injection hk with hk; omega
    have hoc : OwnConf wf (w.heap.size + 2) A6 B6 n' a6 m' b6 l' k' := ⟨hoc.1.grown hgf hr2, hoc.2.grown hgf hr2⟩
    have hod := hod.grown hgf hr2
    have hoe := hoe.grown hgf (by omega)
    go_wp2
    refine bodyPost_ret (v := .tuple #[lg ix t A6 n' a6 B6 m' b6 E8 q e8 O9 (n - (p + 1)) c9, .int .i64 0]) ?_ rfl ⟨below_grown hbw9 hgf (by omega) (by omega), .inr ⟨⟨by omega, by have := HLA.out; omega⟩, p, t, b, l', k', ix', n', m', _, hpn', HPA.out, HPU.out, HT.out, HLC.out, ⟨A6, a6, B6, b6, E8, e8, O9, c9, rfl, ⟨hoc.lower (by omega), hod.lower (by omega)⟩, hoe.lower (by omega)⟩, rfl⟩⟩
    simp [results, Try.results17, go_sem, kf.cell]
  · go_simp
    refine hK.out _ _ (Ext.alloc hS _) (fun hS61 => ?_)
    clear hK
    have k13 : Blk (w5.alloc (.cells #[.slice none 0 0, .slice none 0 0] 25)) w5.heap.size [.slice none 0 0, .slice none 0 0] := Blk.new _ _ _ _ rfl
    have hz61 : (w5.alloc (.cells #[.slice none 0 0, .slice none 0 0] 25)).heap.size = w5.heap.size + 1 := by simp
    generalize hw61 : w5.alloc (.cells #[.slice none 0 0, .slice none 0 0] 25) = w61 at hS61 k13 hz61 ⊢
    refine wpAnyH_ready (rs := [7]) (by kernel_rfl) (by simp) ?_; refine AllReadyH.cons (o := _) rfl (fun K hK => ?_) AllReadyH.nil; go_simp
    refine (lastConf_any bi bt A na ca B nb cb D nd cd O (p + 1) c l k z (xs.take (p + 1)) _ ((HTK.out).below (hb5.trans (hS61.2.2.mono hb5.size))) (fun x hx => HF.out x (List.mem_of_mem_take hx)) hna hnb (by omega)).mono ?_
    rintro e w6 ⟨hb6, A6, n', a6, B6, m', b6, l', k', ix', rfl, ho6, hlc⟩
    have HLC := Lib.hid hlc
    clear hlc
    refine hK.out _ _ (Ext.below hS61 hb6) (fun hS6 => ?_)
    clear hK
    refine take_at (i := 8) (oi := _) (dst := some 41) (v := ?_) rfl rfl (by kernel_rfl) (by kernel_rfl) (by kernel_rfl) (fun _ _ _ h => h) (Or.inl ⟨by rfl, by intro w hSw; (try dsimp only at hSw); go_simp; (try with_reducible rfl)⟩) (by assumption) ?_; (try simp only [Act.put, List.setIfInBounds_toArray, List.set_cons_zero, List.set_cons_succ])
    refine take_at (i := 9) (oi := _) (dst := some 50) (v := ?_) rfl rfl (by kernel_rfl) (by kernel_rfl) (by kernel_rfl) (fun _ _ _ h => h) (Or.inl ⟨by rfl, by intro w hSw; (try dsimp only at hSw); go_simp; (try with_reducible rfl)⟩) (by assumption) ?_; (try simp only [Act.put, List.setIfInBounds_toArray, List.set_cons_zero, List.set_cons_succ])
    refine take_at (i := 10) (oi := _) (dst := some 51) (v := ?_) rfl rfl (by kernel_rfl) (by kernel_rfl) (by kernel_rfl) (fun _ _ _ h => h) (Or.inl ⟨by rfl, by intro w hSw; (try dsimp only at hSw); go_simp; (try with_reducible rfl)⟩) (by assumption) ?_; (try simp only [Act.put, List.setIfInBounds_toArray, List.set_cons_zero, List.set_cons_succ])
    have hb6 := of_drew hb6
    have k13 := k13.ext hb6
    have hz62 := hb6.size
    refine wpAnyH_ready (rs := [12]) (by kernel_rfl) (by simp) ?_; refine AllReadyH.cons (o := _) rfl (fun K hK => ?_) AllReadyH.nil
    refine step_store_part rfl rfl 25 (.tmp 13) (.tmp 50) rfl (w5.heap.size) 0 _ [.slice A6 n' a6, .slice B6 m' b6] rfl rfl rfl _ k13 (by simp) (by kernel_rfl) rfl _ rfl ?_
    intro w7 k13' hg7 hz7
    have hzc := hS6.2.2.size
    have hS7 : Ext w5 w7 := Ext.of (below_grown hS6.2.2 hg7 (by first | omega | (dsimp only; omega) | (simp only [heap_drew, World.size_alloc, Gz.size_setCell]; omega)) (by omega))
    have hzq := hS7.2.2.size
    refine hK.out _ _ hS7 (fun _ => ?_)
    clear hK
    simp only [Act.put, List.setIfInBounds_toArray, List.set_cons_zero, List.set_cons_succ]
    refine take_at (i := 13) (oi := _) (dst := some 14) (v := ?_) rfl rfl (by kernel_rfl) (by kernel_rfl) (by kernel_rfl) (fun _ _ _ h => h) (Or.inl ⟨by rfl, by intro w hSw; (try dsimp only at hSw); go_simp; (try with_reducible rfl)⟩) (by assumption) ?_; (try simp only [Act.put, List.setIfInBounds_toArray, List.set_cons_zero, List.set_cons_succ])
    refine wpAnyH_done (by kernel_rfl) ?_ _
    have k13 := k13'
    simp only [List.take_succ_cons, List.take_zero, List.drop_succ_cons, List.drop_zero, List.cons_append, List.nil_append, List.length_cons, List.length_nil] at k13
    clear k13' c3
    have hb7 := hb5.trans (hS7.2.2.mono hb5.size)
    have k3 := k3.ext hS7.2.2
    have k6 := k6.ext hS7.2.2
    have c3 := k3.cell
    have c13 := k13.cell
    clear hS7
    have ho6 : OwnConf w7 (w.heap.size + 2) A6 B6 n' a6 m' b6 l' k' := (show OwnConf w7 w61.heap.size A6 B6 n' a6 m' b6 l' k' from ⟨(show Gz.Own w6 w61.heap.size 3 1 A6 n' a6 (nums .i64 l') from ho6.1).grown hg7 (fun k hk => by injection hk with hk; omega), (show Gz.Own w6 w61.heap.size 3 1 B6 m' b6 (nums .i64 k') from ho6.2).grown hg7 (fun k hk => by injection hk with hk; omega)⟩).lower (by first | omega | (dsimp only; omega) | (simp only [heap_drew, World.size_alloc, Gz.size_setCell]; omega))
    clear hw61 hg7 hz7 hS61
    go_wp2_with fail
    refine wp_region_phase 12 (S := Ext w7) (by kernel_rfl) rfl (by kernel_rfl) (fun hS => ?_) Ext.start
    simp only [List.take_succ_cons, List.take_zero, List.drop_succ_cons, List.drop_zero]
    refine take_at (i := 0) (oi := _) (dst := some 52) (v := ?_) rfl rfl (by kernel_rfl) (by kernel_rfl) (by kernel_rfl) (fun _ _ _ h => h) (Or.inl ⟨by rfl, by intro w hSw; (try dsimp only at hSw); go_simp; (try with_reducible rfl)⟩) (by assumption) ?_; (try simp only [Act.put, List.setIfInBounds_toArray, List.set_cons_zero, List.set_cons_succ])
    refine take_at (i := 1) (oi := _) (dst := some 53) (v := ?_) rfl rfl (by kernel_rfl) (by kernel_rfl) (by kernel_rfl) (fun _ _ _ h => h) (Or.inl ⟨by rfl, by intro w hSw; (try dsimp only at hSw); go_simp; (try with_reducible rfl)⟩) (by assumption) ?_; (try simp only [Act.put, List.setIfInBounds_toArray, List.set_cons_zero, List.set_cons_succ])
    refine take_at (i := 2) (oi := _) (dst := some 54) (v := ?_) rfl rfl (by kernel_rfl) (by kernel_rfl) (by kernel_rfl) (fun _ _ _ h => h) (Or.inl ⟨by rfl, by intro w hSw; (try dsimp only at hSw); go_simp; (try with_reducible rfl)⟩) (by assumption) ?_; (try simp only [Act.put, List.setIfInBounds_toArray, List.set_cons_zero, List.set_cons_succ])
    refine take_at (i := 3) (oi := _) (dst := some 55) (v := ?_) rfl rfl (by kernel_rfl) (by kernel_rfl) (by kernel_rfl) (fun _ _ _ h => h) (Or.inl ⟨by rfl, by intro w hSw; (try dsimp only at hSw); go_simp; (try with_reducible rfl)⟩) (by assumption) ?_; (try simp only [Act.put, List.setIfInBounds_toArray, List.set_cons_zero, List.set_cons_succ])
    refine take_at (i := 6) (oi := _) (dst := some 58) (v := ?_) rfl rfl (by kernel_rfl) (by kernel_rfl) (by kernel_rfl) (fun _ _ _ h => h) (Or.inl ⟨by rfl, by intro w hSw; (try dsimp only at hSw); go_simp; (try with_reducible rfl)⟩) (by assumption) ?_; (try simp only [Act.put, List.setIfInBounds_toArray, List.set_cons_zero, List.set_cons_succ])
    refine take_at (i := 7) (oi := _) (dst := some 59) (v := ?_) rfl rfl (by kernel_rfl) (by kernel_rfl) (by kernel_rfl) (fun _ _ _ h => h) (Or.inl ⟨by rfl, by intro w hSw; (try dsimp only at hSw); go_simp; (try with_reducible rfl)⟩) (by assumption) ?_; (try simp only [Act.put, List.setIfInBounds_toArray, List.set_cons_zero, List.set_cons_succ])
    refine take_at (i := 8) (oi := _) (dst := some 60) (v := ?_) rfl rfl (by kernel_rfl) (by kernel_rfl) (by kernel_rfl) (fun _ _ _ h => h) (Or.inl ⟨by rfl, by intro w hSw; (try dsimp only at hSw); go_simp; (try with_reducible rfl)⟩) (by assumption) ?_; (try simp only [Act.put, List.setIfInBounds_toArray, List.set_cons_zero, List.set_cons_succ])
    refine take_at (i := 9) (oi := _) (dst := some 61) (v := ?_) rfl rfl (by kernel_rfl) (by kernel_rfl) (by kernel_rfl) (fun _ _ _ h => h) (Or.inl ⟨by rfl, by intro w hSw; (try dsimp only at hSw); go_simp; (try with_reducible rfl)⟩) (by assumption) ?_; (try simp only [Act.put, List.setIfInBounds_toArray, List.set_cons_zero, List.set_cons_succ])
    refine wpAnyH_ready (rs := [4]) (by kernel_rfl) (by simp) ?_; refine AllReadyH.cons (o := _) rfl (fun K hK => ?_) AllReadyH.nil; go_simp
    refine (clone_bytes E q qc dz _ ((HD.out).below (hb7.trans (hS.2.2.mono hb7.size))) hq).mono ?_
    rintro e w8 ⟨hb8, E8, e8, rfl, ho8⟩
    refine hK.out _ _ (Ext.below hS hb8) (fun hS8 => ?_)
    clear hK
    refine take_at (i := 5) (oi := _) (dst := some 57) (v := ?_) rfl rfl (by kernel_rfl) (by kernel_rfl) (by kernel_rfl) (fun _ _ _ h => h) (Or.inl ⟨by rfl, by intro w hSw; (try dsimp only at hSw); go_simp; (try with_reducible rfl)⟩) (by assumption) ?_; (try simp only [Act.put, List.setIfInBounds_toArray, List.set_cons_zero, List.set_cons_succ])
    refine wpAnyH_ready (rs := [10]) (by kernel_rfl) (by simp) ?_; refine AllReadyH.cons (o := _) rfl (fun K hK => ?_) AllReadyH.nil; go_simp
    refine (entries_any (cutA O c (p + 1) 6) (n - (p + 1)) (c - (p + 1)) (xs.drop (p + 1)) _ ((HC.out).below (hb7.trans (hS8.2.2.mono hb7.size))) (fun x hx => HF.out x (List.mem_of_mem_drop hx)) (by omega)).mono ?_
    rintro e w9 ⟨hb9, O9, c9, rfl, ho9⟩
    refine hK.out _ _ (Ext.below hS8 hb9) (fun hS9 => ?_)
    clear hK
    refine take_at (i := 11) (oi := _) (dst := some 63) (v := ?_) rfl rfl (by kernel_rfl) (by kernel_rfl) (by kernel_rfl) (fun _ _ _ h => h) (Or.inl ⟨by rfl, by intro w hSw; (try dsimp only at hSw); go_simp; (try with_reducible rfl)⟩) (by assumption) ?_; (try simp only [Act.put, List.setIfInBounds_toArray, List.set_cons_zero, List.set_cons_succ])
    refine wpAnyH_done (by kernel_rfl) ?_ _
    have hz7 := hb7.size
    have hz8 := hS8.2.2.size
    have hz9 := hS9.2.2.size
    have hbw9 := hb7.trans (hS9.2.2.mono hb7.size)
    have k6 := k6.below hS9.2.2 (by omega)
    have hoc : OwnConf w9 (w.heap.size + 2) A6 B6 n' a6 m' b6 l' k' := (ho6.below hS9.2.2)
    have hod : Gz.Own w9 (w.heap.size + 2) 5 1 E8 q e8 (nums .u8 dz) := (ho8.below hb9).lower (by simp only [heap_drew]; omega)
    have hoe : OwnEs w9 (w.heap.size + 2) O9 (n - (p + 1)) c9 (xs.drop (p + 1)) := ho9.lower (by omega)
    clear hS hS8 hS9 c3 c13 ho8 ho9 ho6
    go_wp2_with (with_reducible refine stop_store ?_)
    refine hide (wpList_store_blk rfl 31 (.tmp 6) (.tmp 63) rfl (w.heap.size + 1) [.int .u64 ix, .int .u64 t, .slice A6 n' a6, .slice B6 m' b6, .slice E8 q e8, .slice O9 (n - (p + 1)) c9] rfl rfl _ k6 rfl (by kernel_rfl) rfl ?_)
    intro wf kf hgf hzf
    have hr2 : ∀ k, some (w.heap.size + 1) = some k → k < w.heap.size + 2 := fun k hk => by injection hk with hk; omega
    have hoc : OwnConf wf (w.heap.size + 2) A6 B6 n' a6 m' b6 l' k' := ⟨hoc.1.grown hgf hr2, hoc.2.grown hgf hr2⟩
    have hod := hod.grown hgf hr2
    have hoe := hoe.grown hgf (by omega)
    go_wp2
    refine bodyPost_ret (v := .tuple #[lg ix t A6 n' a6 B6 m' b6 E8 q e8 O9 (n - (p + 1)) c9, .int .i64 0]) ?_ rfl ⟨below_grown hbw9 hgf (by omega) (by omega), .inr ⟨⟨by omega, by have := HLA.out; omega⟩, p, t, b, l', k', ix', n', m', _, hpn', HPA.out, HPU.out, HT.out, HLC.out, ⟨A6, a6, B6, b6, E8, e8, O9, c9, rfl, ⟨hoc.lower (by omega), hod.lower (by omega)⟩, hoe.lower (by omega)⟩, rfl⟩⟩
    simp [results, Try.results17, go_sem, kf.cell]
end Go.Proofs.Ytglabhfmeinogaa

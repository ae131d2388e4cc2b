/- The live question of layer 6 answers true. -/
import Derived.Test.YtglabhfmeinogaaLRead
namespace Go.Proofs.Ytglabhfmeinogaa
open Go.RowKit Go.Gz
attribute [local go_sem] World.cell?_alloc_some frozen?_alloc_some

theorem empty_any (V L : Option Addr) (vc lc : Nat) (w : World) : Calls Try.prog 57 #[.agg #[.slice V 0 vc, .slice L 0 lc]] w fun e w' => e = .returned (.bool true) ∧ Below w.heap.size w w' := by
  go_enter Try.func57, Try.ntmps57
  go_wp2
  go_ret
  exact ⟨rfl, (by (repeat first | refine Below.setCell ?_ (by first | omega | (dsimp only; omega) | (simp only [heap_drew, World.size_alloc, Gz.size_setCell]; omega)) _ | refine Below.alloc ?_ (by first | omega | (dsimp only; omega) | (simp only [heap_drew, World.size_alloc, Gz.size_setCell]; omega)) _ | refine Below.drew ?_); exact Below.refl _ _)⟩

theorem follows_data (cs : List Value) (i t ix tm : Int) (w : World) (h : IsE w cs (i, t, 2, [], [], [])) (hi : i = ix + 1) (h0 : 0 ≤ ix) (h1 : ix < 4611686018427387904) (ht : tm ≤ t) (ht2 : t < 4611686018427387904) :
    Calls Try.prog 53 #[.agg cs.toArray, .int .u64 ix, .int .u64 tm] w fun e w' => e = .returned (.bool true) ∧ Below w.heap.size w w' := by
  obtain ⟨D, dc, V, vc, L, lc, rfl, _, _⟩ := h
  subst hi
  dsimp only [List.length_nil]
  have e1 : ¬ t < tm := by omega
  have e2 : ¬ 4611686018427387904 ≤ t := by omega
  go_enter Try.func53, Try.ntmps53
  go_wp2_with fail
  refine name_calls (fun w1 hw1 => ?_)
  have hb1 : Below w.heap.size w w1 := by rw [hw1]; exact (by (repeat first | refine Below.setCell ?_ (by first | omega | (dsimp only; omega) | (simp only [heap_drew, World.size_alloc, Gz.size_setCell]; omega)) _ | refine Below.alloc ?_ (by first | omega | (dsimp only; omega) | (simp only [heap_drew, World.size_alloc, Gz.size_setCell]; omega)) _ | refine Below.drew ?_); exact Below.refl _ _)
  clear hw1
  refine (empty_any V L vc lc w1).mono ?_
  rintro e w2 ⟨rfl, hb2⟩
  go_wp2
  go_ret
  exact ⟨rfl, hb1.trans (hb2.mono hb1.size)⟩

/-- The entries of the examples. -/
def two : List Ent := [(3, 1, 2, [], [], []), (4, 2, 2, [], [], [])]
def twoI (j : Nat) : Int := if j = 0 then 2 else if j = 1 then 3 else 4
def twoT (j : Nat) : Int := if j = 0 then 1 else if j = 1 then 1 else 2

set_option maxHeartbeats 1600000 in
theorem run_two (O : Option Addr) (c : Nat) (w : World) (h : IsEs w O 2 two) :
    Calls Try.prog 31 #[.int .u64 2, .int .u64 1, .slice O 2 c] w fun e w' => e = .returned (.bool true) ∧ Below w.heap.size w w' := by
  have H := Lib.hid h
  clear h
  cases O with
  | none => obtain ⟨zs, _, h2, h3, _⟩ := H.out; have := h3.2.1 rfl; omega
  | some ad =>
  go_enter Try.func31, Try.ntmps31
  go_wp2_with fail
  go_loopw [0, 1, 21] (fun s0 s1 s21 wr => ∃ j : Nat, s0 = .int .u64 (twoI j) ∧ s1 = .int .u64 (twoT j) ∧ s21 = .int .i64 j ∧ j ≤ 2 ∧ Below w.heap.size w wr) (fun _ _ s21 _ => (2 - intOf s21).toNat)
  case atStart => exact ⟨0, rfl, rfl, rfl, by omega, Below.refl _ _⟩
  case round =>
    obtain ⟨j, rfl, rfl, rfl, hj, hbr⟩ := hrel
    by_cases hlt : j < 2
    · have b1 : (j : Int) < 2 := by omega
      obtain ⟨x, D, dc, V, vc, L, lc, hx, hE, _, _, m0, m1, m2, m3, m4, m5⟩ := (H.out.below hbr).at hlt
      have hx' : x = (twoI (j + 1), twoT (j + 1), 2, [], [], []) := by
        rcases (show j = 0 ∨ j = 1 by omega) with rfl | rfl
        · simpa [two, twoI, twoT] using hx.symm
        · simpa [two, twoI, twoT] using hx.symm
      subst hx'
      dsimp only [List.length_nil] at hE m0 m1 m2 m3 m4 m5
      have hi : twoI (j + 1) = twoI j + 1 := by rcases (show j = 0 ∨ j = 1 by omega) with rfl | rfl <;> rfl
      have hi0 : 0 ≤ twoI j ∧ twoI j < 4611686018427387904 := by rcases (show j = 0 ∨ j = 1 by omega) with rfl | rfl <;> decide
      have ht : twoT j ≤ twoT (j + 1) ∧ twoT (j + 1) < 4611686018427387904 := by rcases (show j = 0 ∨ j = 1 by omega) with rfl | rfl <;> decide
      have HI := Lib.hid hi
      have HT := Lib.hid ht
      have HE := Lib.hid hE
      have HI0 := Lib.hid hi0
      clear hx hi ht hE hi0
      generalize hn1 : twoI (j + 1) = n1 at *
      generalize hn2 : twoT (j + 1) = n2 at *
      go_wp2_with fail
      refine name_calls (fun w2 hw2 => ?_)
      have k8 : Blk w2 wr.heap.size [.int .u64 n1, .int .u64 n2, .int .i64 2, .slice D 0 dc, .slice V 0 vc, .slice L 0 lc] := by rw [hw2]; exact Blk.new _ _ _ _ rfl
      have hb2 : Below wr.heap.size wr w2 := by rw [hw2]; exact below_alloc_one _ _
      clear hw2 m0 m1 m2 m3 m4 m5
      refine (follows_data _ n1 n2 (twoI j) (twoT j) w2 (HE.out.below hb2) HI.out HI0.out.1 HI0.out.2 HT.out.1 HT.out.2).mono ?_
      rintro e w3 ⟨rfl, hb3⟩
      have hbr3 := hbr.trans ((hb2.trans (hb3.mono hb2.size)).mono hbr.size)
      have c8 := (k8.ext hb3).cell
      go_wp2_with fail
      refine wp_region_held_drew (S := Ext w3) (by kernel_rfl) Ext.start (fun hS => ?_)
      simp only [List.size_toArray, List.length_cons, List.length_nil]
      refine take_at (i := 0) (oi := _) (dst := some 30) (v := ?_) rfl rfl (by kernel_rfl) (by kernel_rfl) (by kernel_rfl) (fun _ _ _ h => h) (Or.inl ⟨by rfl, by intro w hSw; (try dsimp only at hSw); go_simp; (try with_reducible rfl)⟩) (by assumption) ?_; (try simp only [Act.put, List.setIfInBounds_toArray, List.set_cons_zero, List.set_cons_succ])
      refine take_at (i := 1) (oi := _) (dst := some 31) (v := ?_) rfl rfl (by kernel_rfl) (by kernel_rfl) (by kernel_rfl) (fun _ _ _ h => h) (Or.inl ⟨by rfl, by intro w hSw; (try dsimp only at hSw); go_simp; (try with_reducible rfl)⟩) (by assumption) ?_; (try simp only [Act.put, List.setIfInBounds_toArray, List.set_cons_zero, List.set_cons_succ])
      refine take_at (i := 2) (oi := _) (dst := some 32) (v := ?_) rfl rfl (by kernel_rfl) (by kernel_rfl) (by kernel_rfl) (fun _ _ _ h => h) (Or.inl ⟨by rfl, by intro w hSw; (try dsimp only at hSw); go_simp; (try with_reducible rfl)⟩) (by assumption) ?_; (try simp only [Act.put, List.setIfInBounds_toArray, List.set_cons_zero, List.set_cons_succ])
      refine take_at (i := 3) (oi := _) (dst := some 33) (v := ?_) rfl rfl (by kernel_rfl) (by kernel_rfl) (by kernel_rfl) (fun _ _ _ h => h) (Or.inl ⟨by rfl, by intro w hSw; (try dsimp only at hSw); go_simp; (try with_reducible rfl)⟩) (by assumption) ?_; (try simp only [Act.put, List.setIfInBounds_toArray, List.set_cons_zero, List.set_cons_succ])
      refine take_at (i := 4) (oi := _) (dst := some 0) (v := ?_) rfl rfl (by kernel_rfl) (by kernel_rfl) (by kernel_rfl) (fun _ _ _ h => h) (Or.inl ⟨by rfl, by intro w hSw; (try dsimp only at hSw); go_simp; (try with_reducible rfl)⟩) (by assumption) ?_; (try simp only [Act.put, List.setIfInBounds_toArray, List.set_cons_zero, List.set_cons_succ])
      refine take_at (i := 5) (oi := _) (dst := some 1) (v := ?_) rfl rfl (by kernel_rfl) (by kernel_rfl) (by kernel_rfl) (fun _ _ _ h => h) (Or.inl ⟨by rfl, by intro w hSw; (try dsimp only at hSw); go_simp; (try with_reducible rfl)⟩) (by assumption) ?_; (try simp only [Act.put, List.setIfInBounds_toArray, List.set_cons_zero, List.set_cons_succ])
      refine wpAnyH_done (by kernel_rfl) ?_ _
      go_wp2
      go_roundw
      case rel => exact ⟨j + 1, by rw [hn1], by rw [hn2], by go_num, by omega, hbr3.drew⟩
      case measure => simp [intOf]; omega
    · obtain rfl : j = 2 := by omega
      have b1 : ¬ ((2 : Nat) : Int) < 2 := by omega
      go_wp2
      go_ret
      exact ⟨rfl, hbr⟩

theorem some_any (w : World) : Calls Try.prog 25 #[] w fun e w' => Below w.heap.size w w' ∧ ∃ O, e = .returned (lg 2 1 none 0 0 none 0 0 none 0 0 O 2 2) ∧ IsEs w' O 2 two := by
  go_enter Try.func25, Try.ntmps25
  go_wp2_with (with_reducible refine stop_store ?_)
  refine hide (name_list (fun w1 hw1 => ?_))
  have k0 : Blk w1 w.heap.size [.int .u64 0, .int .u64 0, .slice none 0 0, .slice none 0 0, .slice none 0 0, .slice none 0 0] := by rw [hw1]; exact (Blk.new _ _ _ _ rfl).alloc _
  have hs : SlA w1 6 (some ⟨w.heap.size + 1, 0, none⟩) 2 [.int .u64 3, .int .u64 1, .int .i64 2, .slice none 0 0, .slice none 0 0, .slice none 0 0, .int .u64 4, .int .u64 2, .int .i64 2, .slice none 0 0, .slice none 0 0, .slice none 0 0] := by rw [hw1]; exact sl_new _ _ _ (by simp) _ _ 6 2 rfl
  have hb1 : Below w.heap.size w w1 := by rw [hw1]; exact (by (repeat first | refine Below.setCell ?_ (by first | omega | (dsimp only; omega) | (simp only [heap_drew, World.size_alloc, Gz.size_setCell]; omega)) _ | refine Below.alloc ?_ (by first | omega | (dsimp only; omega) | (simp only [heap_drew, World.size_alloc, Gz.size_setCell]; omega)) _ | refine Below.drew ?_); exact Below.refl _ _)
  have hz1 : w1.heap.size = w.heap.size + 2 := by rw [hw1]; simp
  clear hw1
  refine hide (wpList_store_blk rfl 31 (.tmp 0) (.tmp 5) rfl w.heap.size [.int .u64 2, .int .u64 1, .slice none 0 0, .slice none 0 0, .slice none 0 0, .slice (some ⟨w.heap.size + 1, 0, none⟩) 2 2] rfl rfl _ k0 rfl (by kernel_rfl) rfl ?_)
  intro w2 k2 hg2 hz2
  go_wp2
  refine bodyPost_ret (v := lg 2 1 none 0 0 none 0 0 none 0 0 (some ⟨w.heap.size + 1, 0, none⟩) 2 2) ?_ rfl ⟨below_grown hb1 hg2 (Nat.le_refl _) (by omega), _, rfl, ?_⟩
  · simp [results, Try.results25, go_sem, k2.cell]
  · have hnil : ∀ (W : World) (k : IntKind), SlA W 1 none 0 (nums k []) := fun W k => ⟨rfl, fun _ => rfl, fun _ e => (by cases e)⟩
    refine ⟨[([.int .u64 3, .int .u64 1, .int .i64 2, .slice none 0 0, .slice none 0 0, .slice none 0 0], (3, 1, 2, [], [], [])), ([.int .u64 4, .int .u64 2, .int .i64 2, .slice none 0 0, .slice none 0 0, .slice none 0 0], (4, 2, 2, [], [], []))], rfl, rfl, ?_, fun z hz => ?_⟩
    · refine ⟨hs.1, hs.2.1, fun ad e j u hu => ?_⟩
      have := hs.2.2 ad e j u hu
      injection e with e
      subst e
      rw [← this]
      have hlt := World.block_lt_of_cell? _ _ this
      have hb : ((⟨w.heap.size + 1, 0, none⟩ : Addr).add j).block = w.heap.size + 1 := by rw [Addr.add_lit]
      exact World.cell?_of_block (hg2.block _ hlt (fun h => by rw [hb] at h; injection h with h; omega))
    · simp only [List.mem_cons, List.not_mem_nil, or_false] at hz
      rcases hz with rfl | rfl
      · exact ⟨none, 0, none, 0, none, 0, rfl, hnil _ _, hnil _ _, hnil _ _⟩
      · exact ⟨none, 0, none, 0, none, 0, rfl, hnil _ _, hnil _ _, hnil _ _⟩

theorem check_two (O : Option Addr) (w : World) (h : IsEs w O 2 two) : Calls Try.prog 15 #[lg 2 1 none 0 0 none 0 0 none 0 0 O 2 2] w fun e w' => e = .returned (.bool true) ∧ Below w.heap.size w w' := by
  have H := Lib.hid h
  clear h
  go_enter Try.func15, Try.ntmps15
  go_wp2_with fail
  refine name_calls (fun w1 hw1 => ?_)
  have hb1 : Below w.heap.size w w1 := by rw [hw1]; exact (by (repeat first | refine Below.setCell ?_ (by first | omega | (dsimp only; omega) | (simp only [heap_drew, World.size_alloc, Gz.size_setCell]; omega)) _ | refine Below.alloc ?_ (by first | omega | (dsimp only; omega) | (simp only [heap_drew, World.size_alloc, Gz.size_setCell]; omega)) _ | refine Below.drew ?_); exact Below.refl _ _)
  clear hw1
  refine (run_two O 2 w1 (H.out.below hb1)).mono ?_
  rintro e w2 ⟨rfl, hb2⟩
  go_wp2
  go_ret
  exact ⟨rfl, hb1.trans (hb2.mono hb1.size)⟩
theorem newer_two (O : Option Addr) (w : World) (h : IsEs w O 2 two) : Calls Try.prog 26 #[lg 2 1 none 0 0 none 0 0 none 0 0 O 2 2, .int .u64 9, .int .u64 1] w fun e w' => e = .returned (.bool false) ∧ Below w.heap.size w w' := by
  have H := Lib.hid h
  clear h
  have hl : lastI 2 two = 4 ∧ lastT 1 two = 2 := ⟨rfl, rfl⟩
  have HL := Lib.hid hl
  clear hl
  go_enter Try.func26, Try.ntmps26
  go_wp2_with fail
  refine name_calls (fun w1 hw1 => ?_)
  have hb1 : Below w.heap.size w w1 := by rw [hw1]; exact (by (repeat first | refine Below.setCell ?_ (by first | omega | (dsimp only; omega) | (simp only [heap_drew, World.size_alloc, Gz.size_setCell]; omega)) _ | refine Below.alloc ?_ (by first | omega | (dsimp only; omega) | (simp only [heap_drew, World.size_alloc, Gz.size_setCell]; omega)) _ | refine Below.drew ?_); exact Below.refl _ _)
  clear hw1
  refine (last_any 2 1 none 0 0 none 0 0 none 0 0 O 2 2 two w1 (H.out.below hb1) (by omega)).mono ?_
  rintro e w2 ⟨rfl, hb2⟩
  rw [HL.out.1, HL.out.2]
  go_wp2
  go_ret
  exact ⟨rfl, hb1.trans (hb2.mono hb1.size)⟩
theorem term_two (O : Option Addr) (w : World) : Calls Try.prog 16 #[lg 2 1 none 0 0 none 0 0 none 0 0 O 2 2, .int .u64 2] w fun e w' => e = .returned (.tuple #[.int .u64 1, .bool true]) ∧ Below w.heap.size w w' := by
  go_enter Try.func16, Try.ntmps16
  go_wp2
  refine bodyPost_ret (v := .tuple #[.int .u64 1, .bool true]) ?_ rfl ⟨rfl, (by (repeat first | refine Below.setCell ?_ (by first | omega | (dsimp only; omega) | (simp only [heap_drew, World.size_alloc, Gz.size_setCell]; omega)) _ | refine Below.alloc ?_ (by first | omega | (dsimp only; omega) | (simp only [heap_drew, World.size_alloc, Gz.size_setCell]; omega)) _ | refine Below.drew ?_); exact Below.refl _ _)⟩
  simp [results, Try.results16, go_sem]

set_option maxHeartbeats 1600000 in
theorem head_any (w : World) : Calls Try.prog 9 #[] w fun e w' => e = .returned (.bool true) ∧ Below w.heap.size w w' := by
  have HL := Lib.hid (show lastI 2 two = 4 ∧ lastT 1 two = 2 from ⟨rfl, rfl⟩)
  go_enter Try.func9, Try.ntmps9
  go_wp2_with fail
  refine (some_any w).mono ?_
  rintro e w1 ⟨hb1, O1, rfl, h1⟩
  go_wp2_with fail
  refine (last_any 2 1 none 0 0 none 0 0 none 0 0 O1 2 2 two w1 h1 (by omega)).mono ?_
  rintro e w2 ⟨rfl, hb2⟩
  rw [HL.out.1, HL.out.2]
  have hb2 := hb1.trans (hb2.mono hb1.size)
  clear h1
  go_wp2_with fail
  refine (some_any w2).mono ?_
  rintro e w3 ⟨hb3, O3, rfl, h3⟩
  have hb3 := hb2.trans (hb3.mono hb2.size)
  clear h3
  go_wp2_with fail
  refine (term_two O3 w3).mono ?_
  rintro e w4 ⟨rfl, hb4⟩
  have hb4 := hb3.trans (hb4.mono hb3.size)
  go_wp2_with fail
  refine (some_any w4).mono ?_
  rintro e w5 ⟨hb5, O5, rfl, h5⟩
  have hb5 := hb4.trans (hb5.mono hb4.size)
  have H5 := Lib.hid h5
  clear h5
  go_wp2_with fail
  refine (check_two O5 w5 H5.out).mono ?_
  rintro e w6 ⟨rfl, hb6⟩
  have hb6 := hb5.trans (hb6.mono hb5.size)
  go_wp2_with fail
  refine (some_any w6).mono ?_
  rintro e w7 ⟨hb7, O7, rfl, h7⟩
  have hb7 := hb6.trans (hb7.mono hb6.size)
  have H7 := Lib.hid h7
  clear h7
  go_wp2_with fail
  refine (newer_two O7 w7 H7.out).mono ?_
  rintro e w8 ⟨rfl, hb8⟩
  go_wp2
  go_ret
  exact ⟨rfl, hb7.trans (hb8.mono hb7.size)⟩
end Go.Proofs.Ytglabhfmeinogaa

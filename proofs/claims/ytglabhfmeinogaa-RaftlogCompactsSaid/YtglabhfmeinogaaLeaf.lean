/- Contracts of the small functions that clone and compare lists of numbers: slices.Clone, sameInts. -/
import Derived.Test.YtglabhfmeinogaaRows
import Derived.Test.YtglabhfmeinogaaBase
import Derived.Deep.QuietTactic
import Derived.BigQuiet
namespace Go.Proofs.Ytglabhfmeinogaa
open Go.RowKit Go.Gz
theorem infoInt : (Try.prog.info? 3).map (fun i => (i.zero, i.size, i.bytes)) = some (some (.int .i64 0), 1, 8) := by kernel_rfl
theorem infoU8 : (Try.prog.info? 5).map (fun i => (i.zero, i.size, i.bytes)) = some (some (.int .u8 0), 1, 1) := by kernel_rfl

set_option maxHeartbeats 400000 in
theorem clone_ints (A : Option Addr) (n c : Nat) (l : List Int) (w : World) (h : SlA w 1 A n (nums .i64 l)) (hb : n * 8 ≤ 140737488355328) :
    Calls Try.prog 55 #[.slice A n c] w fun e w' => Below w.heap.size w w' ∧ ∃ A' c', e = .returned (.slice A' n c') ∧ Own w' w.heap.size 3 1 A' n c' (nums .i64 l) := by
  obtain ⟨i0, hi, hz0, hz1, hz2⟩ := info_parts infoInt
  have q : ∀ (w : World) (a : Option Addr) (n c n' c' : Nat), (binOp .eql 23 (.slice a n c) (.slice none n' c')).run Try.prog w = .ok (.bool a.isNone) w := fun w a n c n' c' => Lib.run_eql_slice_nil w _ _ a n c n' c' Try.underlying23
  cases A with
  | none =>
    obtain ⟨hn, hl⟩ := h.nil_xs
    have hl : l = [] := nums_eq_nil hl
    clear h
    subst hn hl
    go_enter Try.func55, Try.ntmps55
    go_wp2
    go_ret
    exact ⟨Below.refl _ _, _, _, rfl, .inl ⟨rfl, rfl, rfl⟩⟩
  | some ad =>
    have H := Lib.hid h
    clear h
    go_enter Try.func55, Try.ntmps55
    go_wp2_with (at_builtin; refine wpList_append_empty rfl (.tmp 5) (.tmp 6) _ rfl 3 i0 (.int .i64 0) 1 8 Try.underlying23 hi hz0 hz1 hz2 rfl (some ⟨w.heap.size, 0, none⟩) rfl (some ad) n c (nums .i64 l) rfl (H.out.alloc _) (by omega) (by omega) ?_; intro A' c' w' hown hg)
    go_ret
    simp only [World.size_alloc] at hown hg
    exact ⟨((Below.refl _ _).alloc (Nat.le_refl _) _).trans (hg.mono (by omega)), A', c', by simp, hown.lower (by omega)⟩

set_option maxHeartbeats 400000 in
theorem clone_bytes (A : Option Addr) (n c : Nat) (l : List Int) (w : World) (h : SlA w 1 A n (nums .u8 l)) (hb : n ≤ 140737488355328) :
    Calls Try.prog 38 #[.slice A n c] w fun e w' => Below w.heap.size w w' ∧ ∃ A' c', e = .returned (.slice A' n c') ∧ Own w' w.heap.size 5 1 A' n c' (nums .u8 l) := by
  obtain ⟨i0, hi, hz0, hz1, hz2⟩ := info_parts infoU8
  have q : ∀ (w : World) (a : Option Addr) (n c n' c' : Nat), (binOp .eql 26 (.slice a n c) (.slice none n' c')).run Try.prog w = .ok (.bool a.isNone) w := fun w a n c n' c' => Lib.run_eql_slice_nil w _ _ a n c n' c' Try.underlying26
  cases A with
  | none =>
    obtain ⟨hn, hl⟩ := h.nil_xs
    have hl : l = [] := nums_eq_nil hl
    clear h
    subst hn hl
    go_enter Try.func38, Try.ntmps38
    go_wp2
    go_ret
    exact ⟨Below.refl _ _, _, _, rfl, .inl ⟨rfl, rfl, rfl⟩⟩
  | some ad =>
    have H := Lib.hid h
    clear h
    go_enter Try.func38, Try.ntmps38
    go_wp2_with (at_builtin; refine wpList_append_empty rfl (.tmp 5) (.tmp 6) _ rfl 5 i0 (.int .u8 0) 1 1 Try.underlying26 hi hz0 hz1 hz2 rfl (some ⟨w.heap.size, 0, none⟩) rfl (some ad) n c (nums .u8 l) rfl (H.out.alloc _) (by omega) (by omega) ?_; intro A' c' w' hown hg)
    go_ret
    simp only [World.size_alloc] at hown hg
    exact ⟨((Below.refl _ _).alloc (Nat.le_refl _) _).trans (hg.mono (by omega)), A', c', by simp, hown.lower (by omega)⟩

set_option maxHeartbeats 400000 in
theorem same_ints (A B : Option Addr) (n c d : Nat) (l : List Int) (w : World) (ha : SlA w 1 A n (nums .i64 l)) (hb : SlA w 1 B n (nums .i64 l)) (hn : n ≤ 140737488355328) :
    Calls Try.prog 41 #[.slice A n c, .slice B n d] w fun e w' => e = .returned (.bool true) ∧ Below w.heap.size w w' := by
  have HA := Lib.hid ha
  have HB := Lib.hid hb
  clear ha hb
  go_enter Try.func41, Try.ntmps41
  go_wp2
  go_loopw [5] (fun i wr => ∃ k : Nat, k ≤ n ∧ i = .int .i64 k ∧ Below w.heap.size w wr) (fun i _ => n - (intOf i).toNat)
  case atStart => exact ⟨0, Nat.zero_le _, rfl, Below.refl _ _⟩
  case round =>
    obtain ⟨k, hk, rfl, hbw⟩ := hrel
    by_cases hlt : k < n
    · cases A with
      | none => have := HA.out.2.1 rfl; omega
      | some ad =>
        cases B with
        | none => have := HB.out.2.1 rfl; omega
        | some bd =>
          have c1 := (HA.out.below hbw).cell (j := k) (by rw [HA.out.len]; exact hlt)
          have c2 := (HB.out.below hbw).cell (j := k) (by rw [HB.out.len]; exact hlt)
          go_wp2_with fail
          have b1 : (0 : Int) ≤ (k : Int) := by omega
          have b2 : (k : Int) < (n : Int) := by omega
          go_quiet (fail)
          go_wp2
          all_goals
            go_roundw
            case rel => exact ⟨k + 1, by omega, by go_num, below_drewN hbw _⟩
            case measure => simp [intOf]; omega
    · go_wp2
      go_ret
      exact ⟨rfl, hbw⟩
end Go.Proofs.Ytglabhfmeinogaa

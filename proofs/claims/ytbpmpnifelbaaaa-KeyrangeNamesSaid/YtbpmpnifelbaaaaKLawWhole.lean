/- KeyrangeWhole: the law's walk. -/
import Derived.Test.YtbpmpnifelbaaaaKLives
import Derived.Test.YtbpmpnifelbaaaaKFind
import Derived.Test.YtbpmpnifelbaaaaKOpen
import Derived.Test.YtbpmpnifelbaaaaKLawLists
namespace Go.Gz
theorem rcells_append (a b : List (ByteArray × ByteArray)) : rcells (a ++ b) = rcells a ++ rcells b := by simp [rcells]
theorem rcells_take : ∀ (l : List (ByteArray × ByteArray)) (m : Nat), (rcells l).take (m * 2) = rcells (l.take m)
  | [], m => by simp [rcells]
  | r :: l, 0 => by simp [rcells]
  | r :: l, m + 1 => by
    have e : ∀ l, rcells (r :: l) = .string r.1 :: .string r.2 :: rcells l := fun _ => rfl
    rw [e, show (m + 1) * 2 = m * 2 + 1 + 1 by omega, List.take_succ_cons, List.take_succ_cons, List.take_succ_cons, e, rcells_take l m]
theorem rcells_drop : ∀ (l : List (ByteArray × ByteArray)) (m : Nat), (rcells l).drop (m * 2) = rcells (l.drop m)
  | [], m => by simp [rcells]
  | r :: l, 0 => by simp
  | r :: l, m + 1 => by
    have e : ∀ l, rcells (r :: l) = .string r.1 :: .string r.2 :: rcells l := fun _ => rfl
    rw [e, show (m + 1) * 2 = m * 2 + 1 + 1 by omega, List.drop_succ_cons, List.drop_succ_cons, List.drop_succ_cons, rcells_drop l m]
theorem sl_new (w : World) (t : TypeId) (xs : List Value) (size n : Nat) (h : xs.length = n * size) : SlA (w.alloc (.cells xs.toArray t)) size (some ⟨w.heap.size, 0, none⟩) n xs :=
  ⟨h, fun e => (by cases e), fun ad e j u hu => by
    injection e with e
    subst e
    rw [Addr.add_lit, Nat.zero_add]
    exact ((Blk.new w t xs _ rfl).cell j).trans hu⟩
theorem rcells_one (l : List (ByteArray × ByteArray)) : ∀ u ∈ rcells l, u.oneCell' = true := by
  intro u hu
  simp only [rcells, List.mem_flatMap] at hu
  obtain ⟨r, _, hu⟩ := hu
  simp at hu
  rcases hu with rfl | rfl <;> rfl
end Go.Gz
namespace Go.Proofs.Ytbpmpnifelbaaaa
open Go.RowKit Go.Gz Go.Lib
attribute [local go_sem] World.cell?_alloc_some frozen?_alloc_some

set_option maxHeartbeats 1600000 in
theorem lawWhole_any (O : Option Addr) (n c : Nat) (l : List (ByteArray × ByteArray)) (key at' : ByteArray) (w : World) (h : SlA w 2 O n (rcells l)) (hnc : n ≤ c) (hn : (n + 1) * 32 ≤ 140737488355328) :
    Calls Try.prog 7 #[.slice O n c, .string key, .string at'] w fun e w' => e = .returned (.bool true) ∧ Below w.heap.size w w' := by
  obtain ⟨i0, hi, hz0, hz1', hz2'⟩ := info_parts infoRange
  have H := Lib.hid h
  clear h
  have hl := H.out.rlen
  go_enter Try.func7, Try.ntmps7
  go_wp2_with fail
  refine (lives_any w).mono ?_
  rintro e w2 ⟨rfl, hb2⟩
  go_wp2_with fail
  refine (whole_any O n c l w2 (H.out.below hb2) (by omega)).mono ?_
  rintro e w3 ⟨rfl, hb3⟩
  have hb3 := hb2.trans (hb3.mono hb2.size)
  have HW := Lib.hid (whole_chain l)
  obtain ⟨W, hW⟩ : ∃ W, W = wholeGo n es 0 l := ⟨_, rfl⟩
  have HW2 := Lib.hid (show W.1 = 0 → chain es l from fun h => HW.out.1 (by rw [hl, ← hW]; exact h))
  rw [← hW]
  clear hW
  by_cases g1 : W.1 = 0
  · have hch := HW2.out g1
    rw [g1]
    clear g1
    by_cases g2 : 32 < key.size
    · have i2 : (32 : Int) < (key.size : Int) := by omega
      go_wp2
      go_ret
      exact ⟨rfl, hb3⟩
    have i2 : ¬ (32 : Int) < (key.size : Int) := by omega
    obtain ⟨m, hm, hf, hall⟩ := chain_find (k := key) (by omega) l es 0 hch (not_lt_nil _)
    rw [Nat.zero_add] at hf
    have HV := Lib.hid (show findV key l = .tuple #[.int .i64 (m : Int), .bool true] by unfold findV; rw [hf])
    have HA := Lib.hid hall
    have HC := Lib.hid hch
    clear hf hall hch
    go_wp2_with fail
    refine (find_any key O n c l w3 (H.out.below hb3) (by omega)).mono ?_
    rintro e w4 ⟨rfl, hb4⟩
    rw [HV.out]
    have hb4 := hb3.trans (hb4.mono hb3.size)
    have i3 : ¬ (m : Int) < 0 := by omega
    have i4 : decide (n ≤ m) = false := decide_eq_false (by omega)
    go_wp2_with fail
    go_loopw [12] (fun iv wr => ∃ j : Nat, iv = .int .i64 j ∧ j ≤ n ∧ Below w4.heap.size w4 wr) (fun iv _ => (n - RowKit.intOf iv).toNat)
    case atStart => exact ⟨0, rfl, by omega, Below.refl _ _⟩
    case round =>
      obtain ⟨j, rfl, hj, hbr⟩ := hrel
      have hwr := hb4.trans (hbr.mono hb4.size)
      cases O with
      | none => have := H.out.2.1 rfl; omega
      | some ad =>
      by_cases hlt : j < n
      · have b1 : (j : Int) < (n : Int) := by omega
        obtain ⟨lo, hi', hr⟩ : ∃ lo hi, l[j]'(by omega) = (lo, hi) := ⟨_, _, rfl⟩
        have cc := (H.out.below hwr).rg (j := j) (by omega)
        have hh := HA.out j (by omega)
        rw [hr] at cc hh
        have cc1 := cc.1
        have cc2 := cc.2
        dsimp only at cc1 cc2 hh
        clear hr cc
        go_wp2_with fail
        refine (has_any lo hi' key wr).mono ?_
        rintro x w5 ⟨rfl, hb5⟩
        have hbr5 := hbr.trans (hb5.mono hbr.size)
        rw [hh]
        clear hh cc1 cc2
        by_cases g3 : j = m
        · subst g3
          rw [decide_eq_true rfl]
          go_wp2
          go_roundw
          case rel => exact ⟨j + 1, by go_num, by omega, hbr5⟩
          case measure => simp [RowKit.intOf]; omega
        · have e3 : ((j : Int) == (m : Int)) = false := by rw [beq_eq_false_iff_ne]; omega
          have e4 : decide (j = m) = false := decide_eq_false g3
          rw [e4]
          go_wp2
          go_roundw
          case rel => exact ⟨j + 1, by go_num, by omega, hbr5⟩
          case measure => simp [RowKit.intOf]; omega
      · have b1 : ¬ (j : Int) < (n : Int) := by omega
        obtain ⟨lo, hi', hr⟩ : ∃ lo hi, l[m]'(by omega) = (lo, hi) := ⟨_, _, rfl⟩
        have cc := (H.out.below hwr).rg (j := m) (by omega)
        have HS := Lib.hid (chain_cut (x := at') l es m hm HC.out)
        rw [hr] at cc
        have HS := Lib.hid (show splitE lo hi' at' = 0 → chain es (l.take m ++ [(lo, at'), (at', hi')] ++ l.drop (m + 1)) by have := HS.out; rw [hr] at this; exact this)
        have cc1 := cc.1
        have cc2 := cc.2
        dsimp only at cc1 cc2
        clear hr cc
        have b3 : (m : Int) < (n : Int) := by omega
        go_wp2_with fail
        refine (split_any lo hi' at' wr).mono ?_
        rintro x w5 ⟨rfl, hb5⟩
        have hb5 := hwr.trans (hb5.mono hwr.size)
        clear cc1 cc2
        have hz5 := hb5.size
        by_cases g3 : splitE lo hi' at' = 0
        · rw [splitV_ok g3]
          have hcut := HS.out g3
          have HC2 := Lib.hid ((whole_chain _).2 hcut)
          clear g3 hcut
          have s1 := run_slice_high (P := Try.prog) 38 23 i0 Try.underlying38 hi .i64 (some ad) n c m (by omega)
          have s2 : ∀ W, (Instr.slice 38 (.slice (some ad) n c) (some (.int .i64 ((m : Int) + 1))) none none).run Try.prog W = .ok (.slice (cutA (some ad) c (m + 1) 2) (n - (m + 1)) (c - (m + 1))) W := by
            intro W
            have := run_slice_low (P := Try.prog) 38 23 i0 2 Try.underlying38 hi hz1' .i64 (some ad) n c (m + 1) (by omega) W
            simpa using this
          go_wp2_with (with_reducible refine stop_at (d := 82) ?_)
          refine hide (name_list (fun w6 hw6 => ?_))
          have k14 : Blk w6 w5.heap.size [.string lo, .string at'] := by rw [hw6]; exact (Blk.new _ _ _ _ rfl).alloc _
          have k15 : Blk w6 (w5.heap.size + 1) [.string at', .string hi'] := by rw [hw6]; exact Blk.new _ _ _ _ (by simp)
          have hb6 : Below w.heap.size w w6 := by rw [hw6]; exact (by (repeat first | refine Below.setCell ?_ (by first | omega | (dsimp only; omega) | (simp only [heap_drew, World.size_alloc, Gz.size_setCell]; omega)) _ | refine Below.alloc ?_ (by first | omega | (dsimp only; omega) | (simp only [heap_drew, World.size_alloc, Gz.size_setCell]; omega)) _ | refine Below.drew ?_); exact hb5)
          clear hw6
          have hz6 := hb6.size
          go_wp2_with (at_builtin; refine wpList_append_empty rfl (.tmp 82) (.tmp 85) 38 rfl 23 i0 (.agg #[.string es, .string es]) 2 32 Try.underlying38 hi hz0 hz1' hz2' rfl _ rfl (some ad) m c ((rcells l).take (m * 2)) rfl ((H.out.below (hb6.alloc hb6.size _)).take (by omega)) (by omega) (by omega) ?_)
          intro A7 c7 w7 ho7 hb7
          rw [rcells_take] at ho7
          have k14 := (k14.alloc (.cells #[] 23)).below hb7 (by have := k14.lt; omega)
          have k15 := (k15.alloc (.cells #[] 23)).below hb7 (by have := k15.lt; omega)
          have hz67 : w6.heap.size + 1 ≤ w7.heap.size := by simpa using hb7.size
          have hb7 : Below w.heap.size w w7 := (hb6.alloc hb6.size _).trans (hb7.mono (by omega))
          have hz7 := hb7.size
          have c14 := k14.cell
          have c15 := k15.cell
          go_wp2_with (with_reducible refine stop_at (d := 91) ?_)
          refine hide (wpList_append_own_sl rfl (.tmp 87) (.tmp 90) 38 rfl (w6.heap.size + 1) 23 i0 (.agg #[.string es, .string es]) 2 32 Try.underlying38 hi hz0 hz1' hz2' rfl (by omega) A7 m c7 (rcells (l.take m)) rfl (ho7.alloc _) _ 2 2 (rcells [(lo, at'), (at', hi')]) rfl (sl_new w7 _ _ 2 2 rfl) (rcells_one _) (by omega) (by omega) (by simp; omega) ?_)
          intro A8 c8 w8 ho8 hb8 hg8
          rw [← rcells_append] at ho8
          have hb8 : Below w.heap.size w w8 := (hb7.alloc hb7.size _).trans (hb8.mono (by omega))
          have hz8 := hb8.size
          have hl8 : w6.heap.size + 1 ≤ w8.heap.size := by have := hg8.size; simp at this; omega
          clear hg8 ho7 k14 k15 c14 c15
          have hd := (H.out.below hb8).cut (c := c) (k := m + 1) (by omega) hnc
          rw [rcells_drop] at hd
          go_wp2_with (with_reducible refine stop_at (d := 97) ?_)
          refine hide (wpList_append_own_sl rfl (.tmp 92) (.tmp 96) 38 rfl (w6.heap.size + 1) 23 i0 (.agg #[.string es, .string es]) 2 32 Try.underlying38 hi hz0 hz1' hz2' rfl (by omega) A8 (m + 2) c8 _ rfl ho8 _ (n - (m + 1)) (c - (m + 1)) _ rfl hd (rcells_one _) (by omega) (by omega) hl8 ?_)
          intro A9 c9 w9 ho9 hb9 hg9
          rw [← rcells_append] at ho9
          have hb9 : Below w.heap.size w w9 := hb8.trans (hb9.mono (by omega))
          have ho9 := ho9.sl
          clear hg9 ho8 hd
          go_wp2_with fail
          refine (whole_any A9 _ c9 _ w9 ho9 (by omega)).mono ?_
          rintro e w10 ⟨rfl, hb10⟩
          have hb10 := hb9.trans (hb10.mono hb9.size)
          have hlen : (l.take m ++ [(lo, at'), (at', hi')] ++ l.drop (m + 1)).length = m + 2 + (n - (m + 1)) := by simp; omega
          have hc2 := HC2.out
          rw [hlen] at hc2
          obtain ⟨V, hV⟩ : ∃ V, V = wholeGo (m + 2 + (n - (m + 1))) es 0 (l.take m ++ [(lo, at'), (at', hi')] ++ l.drop (m + 1)) := ⟨_, rfl⟩
          rw [← hV] at hc2 ⊢
          rw [hc2]
          clear hV hc2 hlen
          go_wp2
          go_ret
          exact ⟨rfl, hb10⟩
        · have e0 : (splitE lo hi' at' == 0) = false := by simp [g3]
          have e0' : (splitE lo hi' at' != 0) = true := by simp [g3]
          rw [show splitV lo hi' at' = .tuple #[rg es es, rg es es, .int .i64 (splitE lo hi' at')] from splitV_no rfl g3]
          clear g3
          go_wp2
          go_ret
          exact ⟨rfl, (by (repeat first | refine Below.setCell ?_ (by first | omega | (dsimp only; omega) | (simp only [heap_drew, World.size_alloc, Gz.size_setCell]; omega)) _ | refine Below.alloc ?_ (by first | omega | (dsimp only; omega) | (simp only [heap_drew, World.size_alloc, Gz.size_setCell]; omega)) _ | refine Below.drew ?_); exact hb5)⟩
  · have e0 : (W.1 == 0) = false := by simp [g1]
    have e0' : (W.1 != 0) = true := by simp [g1]
    clear g1
    go_wp2
    go_ret
    exact ⟨rfl, hb3⟩
end Go.Proofs.Ytbpmpnifelbaaaa

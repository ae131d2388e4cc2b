/- KeyrangeLists: the law's walk. -/
import Derived.Test.YtbpmpnifelbaaaaKLives
import Derived.Test.YtbpmpnifelbaaaaKFind
import Derived.Test.YtbpmpnifelbaaaaKOpen
import Derived.Test.YtbpmpnifelbaaaaMany
import Derived.Deep.DeepCutAuto
namespace Go.Proofs.Ytbpmpnifelbaaaa
open Go.RowKit Go.Gz Go.Lib
attribute [local go_sem] World.cell?_alloc_some frozen?_alloc_some

theorem infoRange : (Try.prog.info? 23).map (fun i => (i.zero, i.size, i.bytes)) = some (some (.agg #[.string es, .string es]), 2, 32) := by kernel_rfl

set_option maxHeartbeats 1600000 in
theorem lawLists_any (O K : Option Addr) (n c no co : Nat) (l : List (ByteArray × ByteArray)) (ks : List ByteArray) (w : World) (h : SlA w 2 O n (rcells l)) (hn : n * 32 ≤ 140737488355328) (ho : SlA w 1 K no (kstrs ks)) (hno : no ≤ 140737488355328) :
    Calls Try.prog 6 #[.slice O n c, .slice K no co] w fun e w' => e = .returned (.bool true) ∧ Below w.heap.size w w' := by
  obtain ⟨i0, hi, hz0, hz1', hz2'⟩ := info_parts infoRange
  have H := Lib.hid h
  have HO := Lib.hid ho
  clear h ho
  have hl := H.out.rlen
  have hkl := HO.out.slen
  go_enter Try.func6, Try.ntmps6
  go_wp2_with fail
  refine (lives_any w).mono ?_
  rintro e w2 ⟨rfl, hb2⟩
  by_cases g1 : 500 < n
  · have i1 : (500 : Int) < (n : Int) := by omega
    go_wp2
    go_ret
    exact ⟨rfl, hb2⟩
  have i1 : ¬ (500 : Int) < (n : Int) := by omega
  by_cases g2 : 500 < no
  · have i2 : (500 : Int) < (no : Int) := by omega
    go_wp2
    go_ret
    exact ⟨rfl, hb2⟩
  have i2 : ¬ (500 : Int) < (no : Int) := by omega
  go_wp2_with (at_builtin; refine wpList_append_empty rfl (.tmp 27) (.tmp 28) 38 rfl 23 i0 (.agg #[.string es, .string es]) 2 32 Try.underlying38 hi hz0 hz1' hz2' rfl _ rfl O n c (rcells l) rfl (H.out.below (hb2.alloc hb2.size _)) (by omega) (by omega) ?_)
  intro A6 c6 w6 ho6 hb6
  have hz2 := hb2.size
  have hb6 : Below w.heap.size w w6 := (hb2.alloc hb2.size _).trans (hb6.mono (by omega))
  have ho6 := ho6.sl
  go_wp2_with fail
  refine (whole_any A6 n c6 l w6 ho6 (by omega)).mono ?_
  rintro e w7 ⟨rfl, hb7⟩
  have ho7 := ho6.below hb7
  have hb7 := hb6.trans (hb7.mono hb6.size)
  clear ho6
  go_wp2_with fail
  refine (wholeRef_any O n c l w7 (H.out.below hb7) (by omega)).mono ?_
  rintro e w8 ⟨rfl, hb8⟩
  have ho8 := ho7.below hb8
  have hb8 := hb7.trans (hb8.mono hb7.size)
  clear ho7
  generalize wholeGo n es 0 l = W
  have HA := Lib.hid ho8
  clear ho8
  go_wp2_with fail
  go_loopw [11] (fun iv wr => ∃ j : Nat, iv = .int .i64 j ∧ j ≤ no ∧ Below w8.heap.size w8 wr) (fun iv _ => (no - RowKit.intOf iv).toNat)
  case atStart => exact ⟨0, rfl, by omega, Below.refl _ _⟩
  case round =>
    obtain ⟨j, rfl, hj, hbr⟩ := hrel
    have hwr := hb8.trans (hbr.mono hb8.size)
    by_cases hlt : j < no
    · have b1 : (j : Int) < (no : Int) := by omega
      cases K with
      | none => have := HO.out.2.1 rfl; omega
      | some ad =>
      obtain ⟨key, hkey⟩ : ∃ key, key = ks.getD j ⟨#[]⟩ := ⟨_, rfl⟩
      have HKEY := hide hkey
      have HS := Lib.hid (fun (wz : World) (hbz : Below wr.heap.size wr wz) => ((HO.out.below (hwr.trans (hbz.mono hwr.size))).str (j := j) (by rw [hkl]; exact hlt)).trans (by rw [← hkey]))
      clear hkey
      have ck := HS.out wr (Below.refl _ _)
      obtain ⟨m, b, hv⟩ : ∃ (m : Nat) (b : Bool), findV key l = .tuple #[.int .i64 m, .bool b] := ⟨_, _, rfl⟩
      have HV := Lib.hid hv
      clear hv
      go_wp2_with fail
      refine (find_any key A6 n c6 l wr (HA.out.below hbr) (by omega)).mono ?_
      rintro e w9 ⟨rfl, hb9⟩
      rw [HV.out]
      clear ck
      have ck := HS.out w9 hb9
      have hr9 := hbr.trans (hb9.mono hbr.size)
      go_wp2_with fail
      refine (findRef_any key O n c l w9 (H.out.below (hb8.trans (hr9.mono hb8.size))) (by omega)).mono ?_
      rintro e w10 ⟨rfl, hb10⟩
      rw [HV.out]
      have hr10 := hr9.trans (hb10.mono hr9.size)
      go_wp2
      go_roundw
      case rel => exact ⟨j + 1, by go_num, by omega, hr10⟩
      case measure => simp [RowKit.intOf]; omega
    · have b1 : ¬ (j : Int) < (no : Int) := by omega
      go_wp2_with fail
      go_loopw [16] (fun iv wx => ∃ j : Nat, iv = .int .i64 j ∧ j ≤ n ∧ Below w8.heap.size w8 wx) (fun iv _ => (n - RowKit.intOf iv).toNat)
      case atStart => exact ⟨0, rfl, by omega, hbr⟩
      case round =>
        obtain ⟨i, rfl, hi', hbx⟩ := hrel
        have hwx := hb8.trans (hbx.mono hb8.size)
        by_cases hlx : i < n
        · have b2 : (i : Int) < (n : Int) := by omega
          cases O with
          | none => have := H.out.2.1 rfl; omega
          | some ad =>
          cases A6 with
          | none => have := HA.out.2.1 rfl; omega
          | some bd =>
          obtain ⟨lo, hi, hr⟩ : ∃ lo hi, l[i]'(by omega) = (lo, hi) := ⟨_, _, rfl⟩
          have cc := (H.out.below hwx).rg (j := i) (by omega)
          have dd := (HA.out.below hbx).rg (j := i) (by omega)
          rw [hr] at cc dd
          have cc1 := cc.1
          have cc2 := cc.2
          have dd1 := dd.1
          have dd2 := dd.2
          dsimp only at cc1 cc2 dd1 dd2
          clear cc dd hr
          go_wp2_with fail
          refine wp_region_held_drew (S := Ext wr) (by kernel_rfl) Ext.start (fun hS => ?_)
          simp only [List.size_toArray, List.length_cons, List.length_nil]
          refine take_at (i := 0) (oi := _) (dst := some 86) (v := ?_) rfl rfl (by kernel_rfl) (by kernel_rfl) (by kernel_rfl) (fun _ _ _ h => h) (Or.inl ⟨by rfl, by intro w hSw; (try dsimp only at hSw); go_simp; (try with_reducible rfl)⟩) (by assumption) ?_; (try simp only [Act.put, List.setIfInBounds_toArray, List.set_cons_zero, List.set_cons_succ])
          refine take_at (i := 1) (oi := _) (dst := some 87) (v := ?_) rfl rfl (by kernel_rfl) (by kernel_rfl) (by kernel_rfl) (fun _ _ _ h => h) (Or.inl ⟨by rfl, by intro w hSw; (try dsimp only at hSw); go_simp; (try with_reducible rfl)⟩) (by assumption) ?_; (try simp only [Act.put, List.setIfInBounds_toArray, List.set_cons_zero, List.set_cons_succ])
          refine take_at (i := 2) (oi := _) (dst := some 88) (v := ?_) rfl rfl (by kernel_rfl) (by kernel_rfl) (by kernel_rfl) (fun _ _ _ h => h) (Or.inl ⟨by rfl, by intro w hSw; (try dsimp only at hSw); go_simp; (try with_reducible rfl)⟩) (by assumption) ?_; (try simp only [Act.put, List.setIfInBounds_toArray, List.set_cons_zero, List.set_cons_succ])
          refine take_at (i := 3) (oi := _) (dst := some 89) (v := ?_) rfl rfl (by kernel_rfl) (by kernel_rfl) (by kernel_rfl) (fun _ _ _ h => h) (Or.inl ⟨by rfl, by intro w hSw; (try dsimp only at hSw); go_simp; (try with_reducible rfl)⟩) (by assumption) ?_; (try simp only [Act.put, List.setIfInBounds_toArray, List.set_cons_zero, List.set_cons_succ])
          refine take_at (i := 4) (oi := _) (dst := some 90) (v := ?_) rfl rfl (by kernel_rfl) (by kernel_rfl) (by kernel_rfl) (fun _ _ _ h => h) (Or.inl ⟨by rfl, by intro w hSw; (try dsimp only at hSw); go_simp; (try with_reducible rfl)⟩) (by assumption) ?_; (try simp only [Act.put, List.setIfInBounds_toArray, List.set_cons_zero, List.set_cons_succ])
          refine take_at (i := 5) (oi := _) (dst := some 91) (v := ?_) rfl rfl (by kernel_rfl) (by kernel_rfl) (by kernel_rfl) (fun _ _ _ h => h) (Or.inl ⟨by rfl, by intro w hSw; (try dsimp only at hSw); go_simp; (try with_reducible rfl)⟩) (by assumption) ?_; (try simp only [Act.put, List.setIfInBounds_toArray, List.set_cons_zero, List.set_cons_succ])
          refine take_at (i := 6) (oi := _) (dst := some 92) (v := ?_) rfl rfl (by kernel_rfl) (by kernel_rfl) (by kernel_rfl) (fun _ _ _ h => h) (Or.inl ⟨by rfl, by intro w hSw; (try dsimp only at hSw); go_simp; (try with_reducible rfl)⟩) (by assumption) ?_; (try simp only [Act.put, List.setIfInBounds_toArray, List.set_cons_zero, List.set_cons_succ])
          refine take_at (i := 7) (oi := _) (dst := some 93) (v := ?_) rfl rfl (by kernel_rfl) (by kernel_rfl) (by kernel_rfl) (fun _ _ _ h => h) (Or.inl ⟨by rfl, by intro w hSw; (try dsimp only at hSw); go_simp; (try with_reducible rfl)⟩) (by assumption) ?_; (try simp only [Act.put, List.setIfInBounds_toArray, List.set_cons_zero, List.set_cons_succ])
          refine take_at (i := 8) (oi := _) (dst := some 94) (v := ?_) rfl rfl (by kernel_rfl) (by kernel_rfl) (by kernel_rfl) (fun _ _ _ h => h) (Or.inl ⟨by rfl, by intro w hSw; (try dsimp only at hSw); go_simp; (try with_reducible rfl)⟩) (by assumption) ?_; (try simp only [Act.put, List.setIfInBounds_toArray, List.set_cons_zero, List.set_cons_succ])
          refine wpAnyH_done (by kernel_rfl) ?_ _
          go_wp2
          go_roundw
          case rel => exact ⟨i + 1, by go_num, by omega, hbx.drew⟩
          case measure => simp [RowKit.intOf]; omega
        · have b2 : ¬ (i : Int) < (n : Int) := by omega
          go_wp2
          go_ret
          exact ⟨rfl, hwx⟩
end Go.Proofs.Ytbpmpnifelbaaaa

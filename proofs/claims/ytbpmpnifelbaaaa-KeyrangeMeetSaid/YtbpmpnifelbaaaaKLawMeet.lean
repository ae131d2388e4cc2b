/- KeyrangeMeet: the law's walk. -/
import Derived.Test.YtbpmpnifelbaaaaKLives
import Derived.Test.YtbpmpnifelbaaaaKOpen
import Derived.Deep.LoopGhost
import Derived.Deep.DeepCutAuto
namespace Go.Proofs.Ytbpmpnifelbaaaa
open Go.RowKit Go.Gz Go.Lib
attribute [local go_sem] World.cell?_alloc_some frozen?_alloc_some

set_option maxHeartbeats 1600000 in
theorem lawMeet_any (a b c d : ByteArray) (O : Option Addr) (no co : Nat) (ks : List ByteArray) (w : World) (ho : SlA w 1 O no (kstrs ks)) (hno : no ≤ 140737488355328) :
    Calls Try.prog 3 #[rg a b, rg c d, .slice O no co] w fun e w' => e = .returned (.bool true) ∧ Below w.heap.size w w' := by
  obtain ⟨m1, m2, ok, hm⟩ : ∃ m1 m2 ok, meet a b c d = (m1, m2, ok) := ⟨_, _, _, rfl⟩
  have HV := Lib.hid (show meetV a b c d = .tuple #[rg m1 m2, .bool ok] by unfold meetV; rw [hm])
  have HV2 := Lib.hid (show meetV c d a b = .tuple #[rg m1 m2, .bool ok] by unfold meetV; rw [meet_comm, hm])
  have HH := Lib.hid (show ∀ k, (ok && has m1 m2 k) = (has a b k && has c d k) from fun k => by have := meet_has a b c d k; rw [hm] at this; exact this)
  have HN := Lib.hid (show ok = false → m1 = es ∧ m2 = es from fun h => by have := meet_none a b c d (by rw [hm]; exact h); rw [hm] at this; simp at this; exact ⟨this.1, this.2.1⟩)
  clear hm
  have HO := Lib.hid ho
  clear ho
  have hkl : ks.length = no := HO.out.slen
  go_enter Try.func3, Try.ntmps3
  go_wp2_with fail
  refine name_calls (fun w1 hw1 => ?_)
  have k3 : Blk w1 w.heap.size [.string a, .string b] := by rw [hw1]; exact (Blk.new _ _ _ _ rfl).alloc _
  have k4 : Blk w1 (w.heap.size + 1) [.string c, .string d] := by rw [hw1]; exact Blk.new _ _ _ _ (by simp)
  have hb1 : Below w.heap.size w w1 := by rw [hw1]; exact (by (repeat first | refine Below.setCell ?_ (by first | omega | (dsimp only; omega) | (simp only [heap_drew, World.size_alloc, Gz.size_setCell]; omega)) _ | refine Below.alloc ?_ (by first | omega | (dsimp only; omega) | (simp only [heap_drew, World.size_alloc, Gz.size_setCell]; omega)) _ | refine Below.drew ?_); exact Below.refl _ _)
  clear hw1
  refine (lives_any w1).mono ?_
  rintro e w2 ⟨rfl, hb2⟩
  have k3 := k3.ext hb2
  have k4 := k4.ext hb2
  have c3 := k3.cell
  have c4 := k4.cell
  have hb2 := hb1.trans (hb2.mono hb1.size)
  go_wp2_with fail
  refine (meet_any a b c d w2).mono ?_
  rintro e w3 ⟨rfl, hb3⟩
  rw [HV.out]
  have k3 := k3.ext hb3
  have k4 := k4.ext hb3
  have hb3 := hb2.trans (hb3.mono hb2.size)
  clear c3 c4
  have c3 := k3.cell
  have c4 := k4.cell
  go_wp2_with fail
  refine name_calls (fun w4 hw4 => ?_)
  have k3 : Blk w4 w.heap.size [.string a, .string b] := by rw [hw4]; exact k3.alloc _
  have k4 : Blk w4 (w.heap.size + 1) [.string c, .string d] := by rw [hw4]; exact k4.alloc _
  have k8 : Blk w4 w3.heap.size [.string m1, .string m2] := by rw [hw4]; exact Blk.new _ _ _ _ rfl
  have hb4 : Below w.heap.size w w4 := by rw [hw4]; exact hb3.alloc hb3.size _
  clear hw4 c3 c4
  refine (meet_any c d a b w4).mono ?_
  rintro e w5 ⟨rfl, hb5⟩
  rw [HV2.out]
  have k3 := k3.ext hb5
  have k4 := k4.ext hb5
  have k8 := k8.ext hb5
  have hb5 := hb4.trans (hb5.mono hb4.size)
  have c8 := k8.cell
  go_upto_region 4 with fail
  refine name_world (fun w6 hw6 => ?_)
  have k3 : Blk w6 w.heap.size [.string a, .string b] := by rw [hw6]; exact k3.alloc _
  have k4 : Blk w6 (w.heap.size + 1) [.string c, .string d] := by rw [hw6]; exact k4.alloc _
  have k8 : Blk w6 w3.heap.size [.string m1, .string m2] := by rw [hw6]; exact k8.alloc _
  have k10 : Blk w6 w5.heap.size [.string m1, .string m2] := by rw [hw6]; exact Blk.new _ _ _ _ rfl
  have hb6 : Below w.heap.size w w6 := by rw [hw6]; exact hb5.alloc hb5.size _
  clear hw6 c8
  have K3 := hide k3
  have K4 := hide k4
  have K8 := hide k8
  clear k3 k4
  have c8 := k8.cell
  have c10 := k10.cell
  go_cut [45] (fun c wx => c = .bool false ∧ w6 = wx)
  case first =>
    cases ok with
    | false =>
      obtain ⟨rfl, rfl⟩ := HN.out rfl
      go_wp2_with fail
      go_meet
      exact ⟨rfl, rfl⟩
    | true =>
      go_wp2_with fail
      go_meet
      exact ⟨rfl, rfl⟩
  case rest =>
    obtain ⟨rfl, rfl⟩ := hcut
    clear c8 c10 k8 k10
    go_wp2_with fail
    go_loopw [12] (fun iv wr => ∃ j : Nat, iv = .int .i64 j ∧ j ≤ no ∧ Below w6.heap.size w6 wr) (fun iv _ => (no - RowKit.intOf iv).toNat)
    case atStart => exact ⟨0, rfl, by omega, Below.refl _ _⟩
    case round =>
      obtain ⟨j, rfl, hj, hbr⟩ := hrel
      have hwr := hb6.trans (hbr.mono hb6.size)
      by_cases hlt : j < no
      · have b1 : (j : Int) < (no : Int) := by omega
        cases O with
        | none => have := HO.out.2.1 rfl; omega
        | some ad =>
        obtain ⟨key, hkey⟩ : ∃ key, key = ks.getD j ⟨#[]⟩ := ⟨_, rfl⟩
        have HKEY := hide hkey
        have HS := Lib.hid (fun (wz : World) (hbz : Below wr.heap.size wr wz) => ((HO.out.below (hwr.trans (hbz.mono hwr.size))).str (j := j) (by rw [hkl]; exact hlt)).trans (by rw [← hkey]))
        clear hkey
        have c3 := (K3.out.ext hbr).cell
        have ck := HS.out wr (Below.refl _ _)
        go_wp2_with fail
        refine wp_region_held_drew (S := Ext wr) (by kernel_rfl) Ext.start (fun hS => ?_)
        simp only [List.size_toArray, List.length_cons, List.length_nil]
        refine take_at (i := 0) (oi := _) (dst := some 52) (v := ?_) rfl rfl (by kernel_rfl) (by kernel_rfl) (by kernel_rfl) (fun _ _ _ h => h) (Or.inl ⟨by rfl, by intro w hSw; (try dsimp only at hSw); go_simp; (try with_reducible rfl)⟩) (by assumption) ?_; (try simp only [Act.put, List.setIfInBounds_toArray, List.set_cons_zero, List.set_cons_succ])
        refine take_at (i := 1) (oi := _) (dst := some 53) (v := ?_) rfl rfl (by kernel_rfl) (by kernel_rfl) (by kernel_rfl) (fun _ _ _ h => h) (Or.inl ⟨by rfl, by intro w hSw; (try dsimp only at hSw); go_simp; (try with_reducible rfl)⟩) (by assumption) ?_; (try simp only [Act.put, List.setIfInBounds_toArray, List.set_cons_zero, List.set_cons_succ])
        refine take_at (i := 2) (oi := _) (dst := some 54) (v := ?_) rfl rfl (by kernel_rfl) (by kernel_rfl) (by kernel_rfl) (fun _ _ _ h => h) (Or.inl ⟨by rfl, by intro w hSw; (try dsimp only at hSw); go_simp; (try with_reducible rfl)⟩) (by assumption) ?_; (try simp only [Act.put, List.setIfInBounds_toArray, List.set_cons_zero, List.set_cons_succ])
        refine take_at (i := 3) (oi := _) (dst := some 55) (v := ?_) rfl rfl (by kernel_rfl) (by kernel_rfl) (by kernel_rfl) (fun _ _ _ h => h) (Or.inl ⟨by rfl, by intro w hSw; (try dsimp only at hSw); go_simp; (try with_reducible rfl)⟩) (by assumption) ?_; (try simp only [Act.put, List.setIfInBounds_toArray, List.set_cons_zero, List.set_cons_succ])
        refine take_at (i := 4) (oi := _) (dst := some 56) (v := ?_) rfl rfl (by kernel_rfl) (by kernel_rfl) (by kernel_rfl) (fun _ _ _ h => h) (Or.inl ⟨by rfl, by intro w hSw; (try dsimp only at hSw); go_simp; (try with_reducible rfl)⟩) (by assumption) ?_; (try simp only [Act.put, List.setIfInBounds_toArray, List.set_cons_zero, List.set_cons_succ])
        refine wpAnyH_ready (rs := [5]) (by kernel_rfl) (by simp) ?_; refine AllReadyH.cons (o := _) rfl (fun K hK => ?_) AllReadyH.nil; go_simp
        refine (has_any a b key _).mono ?_
        rintro e w7 ⟨rfl, hb5⟩
        refine hK.out _ _ (Ext.below hS hb5) (fun hS5 => ?_)
        clear hK
        refine take_at (i := 6) (oi := _) (dst := some 13) (v := ?_) rfl rfl (by kernel_rfl) (by kernel_rfl) (by kernel_rfl) (fun _ _ _ h => h) (Or.inl ⟨by rfl, by intro w hSw; (try dsimp only at hSw); go_simp; (try with_reducible rfl)⟩) (by assumption) ?_; (try simp only [Act.put, List.setIfInBounds_toArray, List.set_cons_zero, List.set_cons_succ])
        refine wpAnyH_done (by kernel_rfl) ?_ _
        have hr7 := hS5.2.2
        clear hS hS5 hb5 ck c3
        have c4 := (K4.out.ext (hbr.trans (hr7.mono hbr.size))).cell
        have ck := HS.out w7 hr7
        go_wp2_with fail
        refine wp_region_held_drew (S := Ext w7) (by kernel_rfl) Ext.start (fun hS => ?_)
        simp only [List.size_toArray, List.length_cons, List.length_nil]
        refine take_at (i := 0) (oi := _) (dst := some 58) (v := ?_) rfl rfl (by kernel_rfl) (by kernel_rfl) (by kernel_rfl) (fun _ _ _ h => h) (Or.inl ⟨by rfl, by intro w hSw; (try dsimp only at hSw); go_simp; (try with_reducible rfl)⟩) (by assumption) ?_; (try simp only [Act.put, List.setIfInBounds_toArray, List.set_cons_zero, List.set_cons_succ])
        refine take_at (i := 1) (oi := _) (dst := some 59) (v := ?_) rfl rfl (by kernel_rfl) (by kernel_rfl) (by kernel_rfl) (fun _ _ _ h => h) (Or.inl ⟨by rfl, by intro w hSw; (try dsimp only at hSw); go_simp; (try with_reducible rfl)⟩) (by assumption) ?_; (try simp only [Act.put, List.setIfInBounds_toArray, List.set_cons_zero, List.set_cons_succ])
        refine take_at (i := 2) (oi := _) (dst := some 60) (v := ?_) rfl rfl (by kernel_rfl) (by kernel_rfl) (by kernel_rfl) (fun _ _ _ h => h) (Or.inl ⟨by rfl, by intro w hSw; (try dsimp only at hSw); go_simp; (try with_reducible rfl)⟩) (by assumption) ?_; (try simp only [Act.put, List.setIfInBounds_toArray, List.set_cons_zero, List.set_cons_succ])
        refine take_at (i := 3) (oi := _) (dst := some 61) (v := ?_) rfl rfl (by kernel_rfl) (by kernel_rfl) (by kernel_rfl) (fun _ _ _ h => h) (Or.inl ⟨by rfl, by intro w hSw; (try dsimp only at hSw); go_simp; (try with_reducible rfl)⟩) (by assumption) ?_; (try simp only [Act.put, List.setIfInBounds_toArray, List.set_cons_zero, List.set_cons_succ])
        refine take_at (i := 4) (oi := _) (dst := some 62) (v := ?_) rfl rfl (by kernel_rfl) (by kernel_rfl) (by kernel_rfl) (fun _ _ _ h => h) (Or.inl ⟨by rfl, by intro w hSw; (try dsimp only at hSw); go_simp; (try with_reducible rfl)⟩) (by assumption) ?_; (try simp only [Act.put, List.setIfInBounds_toArray, List.set_cons_zero, List.set_cons_succ])
        refine wpAnyH_ready (rs := [5]) (by kernel_rfl) (by simp) ?_; refine AllReadyH.cons (o := _) rfl (fun K hK => ?_) AllReadyH.nil; go_simp
        refine (has_any c d key _).mono ?_
        rintro e w8 ⟨rfl, hb5⟩
        refine hK.out _ _ (Ext.below hS hb5) (fun hS5 => ?_)
        clear hK
        refine take_at (i := 6) (oi := _) (dst := some 14) (v := ?_) rfl rfl (by kernel_rfl) (by kernel_rfl) (by kernel_rfl) (fun _ _ _ h => h) (Or.inl ⟨by rfl, by intro w hSw; (try dsimp only at hSw); go_simp; (try with_reducible rfl)⟩) (by assumption) ?_; (try simp only [Act.put, List.setIfInBounds_toArray, List.set_cons_zero, List.set_cons_succ])
        refine wpAnyH_done (by kernel_rfl) ?_ _
        have hr8 := hr7.trans (hS5.2.2.mono hr7.size)
        clear hS hS5 hb5 ck c4
        have c8 := (K8.out.ext (hbr.trans (hr8.mono hbr.size))).cell
        have ck := HS.out w8 hr8
        have hh := HH.out key
        go_wp2_with fail
        cases ok with
        | false =>
          refine wp_region_held_drew (S := Ext w8) (by kernel_rfl) Ext.start (fun hS => ?_)
          simp only [List.size_toArray, List.length_cons, List.length_nil]
          refine take_at (i := 0) (oi := _) (dst := some 64) (v := ?_) rfl rfl (by kernel_rfl) (by kernel_rfl) (by kernel_rfl) (fun _ _ _ h => h) (Or.inl ⟨by rfl, by intro w hSw; (try dsimp only at hSw); go_simp; (try with_reducible rfl)⟩) (by assumption) ?_; (try simp only [Act.put, List.setIfInBounds_toArray, List.set_cons_zero, List.set_cons_succ])
          refine take_at (i := 1) (oi := _) (dst := some 65) (v := ?_) rfl rfl (by kernel_rfl) (by kernel_rfl) (by kernel_rfl) (fun _ _ _ h => h) (Or.inl ⟨by rfl, by intro w hSw; (try dsimp only at hSw); go_simp; (try with_reducible rfl)⟩) (by assumption) ?_; (try simp only [Act.put, List.setIfInBounds_toArray, List.set_cons_zero, List.set_cons_succ])
          refine take_at (i := 2) (oi := _) (dst := some 66) (v := undef) rfl rfl (by kernel_rfl) (by kernel_rfl) (by kernel_rfl) (fun _ _ _ h => h) (Or.inr ⟨by rfl, rfl⟩) (by assumption) ?_; (try simp only [Act.put, List.setIfInBounds_toArray, List.set_cons_zero, List.set_cons_succ])
          refine take_at (i := 3) (oi := _) (dst := some 67) (v := undef) rfl rfl (by kernel_rfl) (by kernel_rfl) (by kernel_rfl) (fun _ _ _ h => h) (Or.inr ⟨by rfl, rfl⟩) (by assumption) ?_; (try simp only [Act.put, List.setIfInBounds_toArray, List.set_cons_zero, List.set_cons_succ])
          refine take_at (i := 4) (oi := _) (dst := some 68) (v := undef) rfl rfl (by kernel_rfl) (by kernel_rfl) (by kernel_rfl) (fun _ _ _ h => h) (Or.inr ⟨by rfl, rfl⟩) (by assumption) ?_; (try simp only [Act.put, List.setIfInBounds_toArray, List.set_cons_zero, List.set_cons_succ])
          refine take_at (i := 5) (oi := _) (dst := some 69) (v := undef) rfl rfl (by kernel_rfl) (by kernel_rfl) (by kernel_rfl) (fun _ _ _ h => h) (Or.inr ⟨by rfl, rfl⟩) (by assumption) ?_; (try simp only [Act.put, List.setIfInBounds_toArray, List.set_cons_zero, List.set_cons_succ])
          refine take_at (i := 6) (oi := _) (dst := some 70) (v := undef) rfl rfl (by kernel_rfl) (by kernel_rfl) (by kernel_rfl) (fun _ _ _ h => h) (Or.inr ⟨by rfl, rfl⟩) (by assumption) ?_; (try simp only [Act.put, List.setIfInBounds_toArray, List.set_cons_zero, List.set_cons_succ])
          refine take_at (i := 7) (oi := _) (dst := some 71) (v := undef) rfl rfl (by kernel_rfl) (by kernel_rfl) (by kernel_rfl) (fun _ _ _ h => h) (Or.inr ⟨by rfl, rfl⟩) (by assumption) ?_; (try simp only [Act.put, List.setIfInBounds_toArray, List.set_cons_zero, List.set_cons_succ])
          refine take_at (i := 8) (oi := _) (dst := some 72) (v := ?_) rfl rfl (by kernel_rfl) (by kernel_rfl) (by kernel_rfl) (fun _ _ _ h => h) (Or.inl ⟨by rfl, by intro w hSw; (try dsimp only at hSw); go_simp; (try with_reducible rfl)⟩) (by assumption) ?_; (try simp only [Act.put, List.setIfInBounds_toArray, List.set_cons_zero, List.set_cons_succ])
          refine take_at (i := 9) (oi := _) (dst := some 15) (v := ?_) rfl rfl (by kernel_rfl) (by kernel_rfl) (by kernel_rfl) (fun _ _ _ h => h) (Or.inl ⟨by rfl, by intro w hSw; (try dsimp only at hSw); go_simp; (try with_reducible rfl)⟩) (by assumption) ?_; (try simp only [Act.put, List.setIfInBounds_toArray, List.set_cons_zero, List.set_cons_succ])
          refine wpAnyH_done (by kernel_rfl) ?_ _
          have hr9 := hr8.drew
          rw [Bool.false_and] at hh
          have HHK := Lib.hid hh
          clear hh
          cases hx : has a b key with
          | false =>
            go_wp2
            go_roundw
            case rel => exact ⟨j + 1, by go_num, by omega, hbr.trans (hr9.mono hbr.size)⟩
            case measure => simp [RowKit.intOf]; omega
          | true =>
            cases hy : has c d key with
            | false =>
              go_wp2
              go_roundw
              case rel => exact ⟨j + 1, by go_num, by omega, hbr.trans (hr9.mono hbr.size)⟩
              case measure => simp [RowKit.intOf]; omega
            | true => have hh := HHK.out; rw [hx, hy] at hh; cases hh
        | true =>
          refine wp_region_held_drew (S := Ext w8) (by kernel_rfl) Ext.start (fun hS => ?_)
          simp only [List.size_toArray, List.length_cons, List.length_nil]
          refine take_at (i := 0) (oi := _) (dst := some 64) (v := ?_) rfl rfl (by kernel_rfl) (by kernel_rfl) (by kernel_rfl) (fun _ _ _ h => h) (Or.inl ⟨by rfl, by intro w hSw; (try dsimp only at hSw); go_simp; (try with_reducible rfl)⟩) (by assumption) ?_; (try simp only [Act.put, List.setIfInBounds_toArray, List.set_cons_zero, List.set_cons_succ])
          refine take_at (i := 1) (oi := _) (dst := some 65) (v := ?_) rfl rfl (by kernel_rfl) (by kernel_rfl) (by kernel_rfl) (fun _ _ _ h => h) (Or.inl ⟨by rfl, by intro w hSw; (try dsimp only at hSw); go_simp; (try with_reducible rfl)⟩) (by assumption) ?_; (try simp only [Act.put, List.setIfInBounds_toArray, List.set_cons_zero, List.set_cons_succ])
          refine take_at (i := 2) (oi := _) (dst := some 66) (v := ?_) rfl rfl (by kernel_rfl) (by kernel_rfl) (by kernel_rfl) (fun _ _ _ h => h) (Or.inl ⟨by rfl, by intro w hSw; (try dsimp only at hSw); go_simp; (try with_reducible rfl)⟩) (by assumption) ?_; (try simp only [Act.put, List.setIfInBounds_toArray, List.set_cons_zero, List.set_cons_succ])
          refine take_at (i := 3) (oi := _) (dst := some 67) (v := ?_) rfl rfl (by kernel_rfl) (by kernel_rfl) (by kernel_rfl) (fun _ _ _ h => h) (Or.inl ⟨by rfl, by intro w hSw; (try dsimp only at hSw); go_simp; (try with_reducible rfl)⟩) (by assumption) ?_; (try simp only [Act.put, List.setIfInBounds_toArray, List.set_cons_zero, List.set_cons_succ])
          refine take_at (i := 4) (oi := _) (dst := some 68) (v := ?_) rfl rfl (by kernel_rfl) (by kernel_rfl) (by kernel_rfl) (fun _ _ _ h => h) (Or.inl ⟨by rfl, by intro w hSw; (try dsimp only at hSw); go_simp; (try with_reducible rfl)⟩) (by assumption) ?_; (try simp only [Act.put, List.setIfInBounds_toArray, List.set_cons_zero, List.set_cons_succ])
          refine take_at (i := 5) (oi := _) (dst := some 69) (v := ?_) rfl rfl (by kernel_rfl) (by kernel_rfl) (by kernel_rfl) (fun _ _ _ h => h) (Or.inl ⟨by rfl, by intro w hSw; (try dsimp only at hSw); go_simp; (try with_reducible rfl)⟩) (by assumption) ?_; (try simp only [Act.put, List.setIfInBounds_toArray, List.set_cons_zero, List.set_cons_succ])
          refine take_at (i := 6) (oi := _) (dst := some 70) (v := ?_) rfl rfl (by kernel_rfl) (by kernel_rfl) (by kernel_rfl) (fun _ _ _ h => h) (Or.inl ⟨by rfl, by intro w hSw; (try dsimp only at hSw); go_simp; (try with_reducible rfl)⟩) (by assumption) ?_; (try simp only [Act.put, List.setIfInBounds_toArray, List.set_cons_zero, List.set_cons_succ])
          refine wpAnyH_ready (rs := [7]) (by kernel_rfl) (by simp) ?_; refine AllReadyH.cons (o := _) rfl (fun K hK => ?_) AllReadyH.nil; go_simp
          refine (has_any m1 m2 key _).mono ?_
          rintro e w9 ⟨rfl, hb5⟩
          refine hK.out _ _ (Ext.below hS hb5) (fun hS5 => ?_)
          clear hK
          refine take_at (i := 8) (oi := _) (dst := some 72) (v := ?_) rfl rfl (by kernel_rfl) (by kernel_rfl) (by kernel_rfl) (fun _ _ _ h => h) (Or.inl ⟨by rfl, by intro w hSw; (try dsimp only at hSw); go_simp; (try with_reducible rfl)⟩) (by assumption) ?_; (try simp only [Act.put, List.setIfInBounds_toArray, List.set_cons_zero, List.set_cons_succ])
          refine take_at (i := 9) (oi := _) (dst := some 15) (v := ?_) rfl rfl (by kernel_rfl) (by kernel_rfl) (by kernel_rfl) (fun _ _ _ h => h) (Or.inl ⟨by rfl, by intro w hSw; (try dsimp only at hSw); go_simp; (try with_reducible rfl)⟩) (by assumption) ?_; (try simp only [Act.put, List.setIfInBounds_toArray, List.set_cons_zero, List.set_cons_succ])
          refine wpAnyH_done (by kernel_rfl) ?_ _
          have hr9 := hr8.trans (hS5.2.2.mono hr8.size)
          rw [Bool.true_and] at hh
          clear hb5 hS hS5 c8 ck
          rw [hh]
          clear hh
          cases hx : has a b key with
          | false =>
            go_wp2
            go_roundw
            case rel => exact ⟨j + 1, by go_num, by omega, hbr.trans (hr9.mono hbr.size)⟩
            case measure => simp [RowKit.intOf]; omega
          | true =>
            cases hy : has c d key with
            | false =>
              go_wp2
              go_roundw
              case rel => exact ⟨j + 1, by go_num, by omega, hbr.trans (hr9.mono hbr.size)⟩
              case measure => simp [RowKit.intOf]; omega
            | true =>
              go_wp2
              go_roundw
              case rel => exact ⟨j + 1, by go_num, by omega, hbr.trans (hr9.mono hbr.size)⟩
              case measure => simp [RowKit.intOf]; omega
      · have b1 : ¬ (j : Int) < (no : Int) := by omega
        go_wp2
        go_ret
        exact ⟨rfl, hwr⟩
end Go.Proofs.Ytbpmpnifelbaaaa

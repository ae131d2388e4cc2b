/- KeyrangeCalls: the law's walk. -/
import Derived.Test.YtbpmpnifelbaaaaKLives
import Derived.Test.YtbpmpnifelbaaaaKCutRef
import Derived.Test.YtbpmpnifelbaaaaKMerge
import Derived.Deep.DeepCutAuto
namespace Go.Proofs.Ytbpmpnifelbaaaa
open Go.RowKit Go.Gz Go.Lib
attribute [local go_sem] World.cell?_alloc_some frozen?_alloc_some

set_option maxHeartbeats 1600000 in
theorem lawCalls_any (a b c d key : ByteArray) (w : World) :
    Calls Try.prog 4 #[rg a b, rg c d, .string key] w fun e w' => e = .returned (.bool true) ∧ Below w.heap.size w w' := by
  obtain ⟨s1, s2, s3, s4, se, hv⟩ : ∃ s1 s2 s3 s4 se, splitV a b key = .tuple #[rg s1 s2, rg s3 s4, .int .i64 se] := ⟨_, _, _, _, _, rfl⟩
  obtain ⟨m1, m2, me, hm⟩ : ∃ m1 m2 me, mergeV a b c d = .tuple #[rg m1 m2, .int .i64 me] := ⟨_, _, _, rfl⟩
  obtain ⟨t1, t2, ok, ht⟩ : ∃ t1 t2 ok, meetV a b c d = .tuple #[rg t1 t2, .bool ok] := ⟨_, _, _, rfl⟩
  have HV := Lib.hid hv
  have HM := Lib.hid hm
  have HT := Lib.hid ht
  clear hv hm ht
  go_enter Try.func4, Try.ntmps4
  have hb := Below.refl w.heap.size w
  have hz : w.heap.size ≤ w.heap.size := Nat.le_refl _
  go_wp2_with fail
  refine name_calls (fun w1 hw1 => ?_)
  have k3 : Blk w1 w.heap.size [.string a, .string b] := by rw [hw1]; exact (Blk.new _ _ _ _ rfl).alloc _
  have k4 : Blk w1 (w.heap.size + 1) [.string c, .string d] := by rw [hw1]; exact Blk.new _ _ _ _ (by simp)
  have hb : Below w.heap.size w w1 := by rw [hw1]; exact (by (repeat first | refine Below.setCell ?_ (by first | omega | (dsimp only; omega) | (simp only [heap_drew, World.size_alloc, Gz.size_setCell]; omega)) _ | refine Below.alloc ?_ (by first | omega | (dsimp only; omega) | (simp only [heap_drew, World.size_alloc, Gz.size_setCell]; omega)) _ | refine Below.drew ?_); exact Below.refl _ _)
  clear hw1
  have c3 := k3.cell
  have c4 := k4.cell
  refine (lives_any w1).mono ?_
  rintro e w2 ⟨rfl, hbn⟩
  have k3 := k3.ext hbn
  have k4 := k4.ext hbn
  have hb := hb.trans (hbn.mono hb.size)
  have hz := hb.size
  clear c3 c4
  have c3 := k3.cell
  have c4 := k4.cell
  go_wp2_with fail
  refine (split_any a b key w2).mono ?_
  rintro e w3 ⟨rfl, hbn⟩
  rw [HV.out]
  have k3 := k3.ext hbn
  have k4 := k4.ext hbn
  have hb := hb.trans (hbn.mono hb.size)
  have hz := hb.size
  clear c3 c4
  have c3 := k3.cell
  have c4 := k4.cell
  go_wp2_with fail
  refine name_calls (fun w4 hw4 => ?_)
  have k3 : Blk w4 w.heap.size [.string a, .string b] := by rw [hw4]; exact (by (repeat first | exact k3 | refine Blk.alloc ?_ _))
  have k4 : Blk w4 (w.heap.size + 1) [.string c, .string d] := by rw [hw4]; exact (by (repeat first | exact k4 | refine Blk.alloc ?_ _))
  have hb : Below w.heap.size w w4 := by rw [hw4]; exact (by (repeat first | refine Below.setCell ?_ (by first | omega | (dsimp only; omega) | (simp only [heap_drew, World.size_alloc, Gz.size_setCell]; omega)) _ | refine Below.alloc ?_ (by first | omega | (dsimp only; omega) | (simp only [heap_drew, World.size_alloc, Gz.size_setCell]; omega)) _ | refine Below.drew ?_); exact hb)
  have k8 : Blk w4 w3.heap.size [.string s1, .string s2] := by rw [hw4]; exact (Blk.new _ _ _ _ rfl).alloc _
  have k9 : Blk w4 (w3.heap.size + 1) [.string s3, .string s4] := by rw [hw4]; exact Blk.new _ _ _ _ (by simp)
  clear hw4
  refine (splitRef_any a b key w4).mono ?_
  rintro e w5 ⟨rfl, hbn⟩
  rw [HV.out]
  have k3 := k3.ext hbn
  have k4 := k4.ext hbn
  have hb := hb.trans (hbn.mono hb.size)
  have hz := hb.size
  clear c3 c4
  have c3 := k3.cell
  have c4 := k4.cell
  have k8 := k8.ext hbn
  have k9 := k9.ext hbn
  go_wp2_with fail
  refine name_calls (fun w6 hw6 => ?_)
  have k3 : Blk w6 w.heap.size [.string a, .string b] := by rw [hw6]; exact (by (repeat first | exact k3 | refine Blk.alloc ?_ _))
  have k4 : Blk w6 (w.heap.size + 1) [.string c, .string d] := by rw [hw6]; exact (by (repeat first | exact k4 | refine Blk.alloc ?_ _))
  have hb : Below w.heap.size w w6 := by rw [hw6]; exact (by (repeat first | refine Below.setCell ?_ (by first | omega | (dsimp only; omega) | (simp only [heap_drew, World.size_alloc, Gz.size_setCell]; omega)) _ | refine Below.alloc ?_ (by first | omega | (dsimp only; omega) | (simp only [heap_drew, World.size_alloc, Gz.size_setCell]; omega)) _ | refine Below.drew ?_); exact hb)
  have k8 : Blk w6 w3.heap.size [.string s1, .string s2] := by rw [hw6]; exact (k8.alloc _).alloc _
  have k9 : Blk w6 (w3.heap.size + 1) [.string s3, .string s4] := by rw [hw6]; exact (k9.alloc _).alloc _
  have k11 : Blk w6 w5.heap.size [.string s1, .string s2] := by rw [hw6]; exact (Blk.new _ _ _ _ rfl).alloc _
  have k12 : Blk w6 (w5.heap.size + 1) [.string s3, .string s4] := by rw [hw6]; exact Blk.new _ _ _ _ (by simp)
  clear hw6
  refine (merge_any a b c d w6).mono ?_
  rintro e w7 ⟨rfl, hbn⟩
  rw [HM.out]
  have k3 := k3.ext hbn
  have k4 := k4.ext hbn
  have hb := hb.trans (hbn.mono hb.size)
  have hz := hb.size
  clear c3 c4
  have c3 := k3.cell
  have c4 := k4.cell
  have k8 := k8.ext hbn
  have k9 := k9.ext hbn
  have k11 := k11.ext hbn
  have k12 := k12.ext hbn
  go_wp2_with fail
  refine name_calls (fun w8 hw8 => ?_)
  have k3 : Blk w8 w.heap.size [.string a, .string b] := by rw [hw8]; exact (by (repeat first | exact k3 | refine Blk.alloc ?_ _))
  have k4 : Blk w8 (w.heap.size + 1) [.string c, .string d] := by rw [hw8]; exact (by (repeat first | exact k4 | refine Blk.alloc ?_ _))
  have hb : Below w.heap.size w w8 := by rw [hw8]; exact (by (repeat first | refine Below.setCell ?_ (by first | omega | (dsimp only; omega) | (simp only [heap_drew, World.size_alloc, Gz.size_setCell]; omega)) _ | refine Below.alloc ?_ (by first | omega | (dsimp only; omega) | (simp only [heap_drew, World.size_alloc, Gz.size_setCell]; omega)) _ | refine Below.drew ?_); exact hb)
  have k8 : Blk w8 w3.heap.size [.string s1, .string s2] := by rw [hw8]; exact k8.alloc _
  have k9 : Blk w8 (w3.heap.size + 1) [.string s3, .string s4] := by rw [hw8]; exact k9.alloc _
  have k11 : Blk w8 w5.heap.size [.string s1, .string s2] := by rw [hw8]; exact k11.alloc _
  have k12 : Blk w8 (w5.heap.size + 1) [.string s3, .string s4] := by rw [hw8]; exact k12.alloc _
  have k14 : Blk w8 w7.heap.size [.string m1, .string m2] := by rw [hw8]; exact Blk.new _ _ _ _ rfl
  clear hw8
  refine (mergeRef_any a b c d w8).mono ?_
  rintro e w9 ⟨rfl, hbn⟩
  rw [HM.out]
  have k3 := k3.ext hbn
  have k4 := k4.ext hbn
  have hb := hb.trans (hbn.mono hb.size)
  have hz := hb.size
  clear c3 c4
  have c3 := k3.cell
  have c4 := k4.cell
  have k8 := k8.ext hbn
  have k9 := k9.ext hbn
  have k11 := k11.ext hbn
  have k12 := k12.ext hbn
  have k14 := k14.ext hbn
  go_wp2_with fail
  refine name_calls (fun w10 hw10 => ?_)
  have k3 : Blk w10 w.heap.size [.string a, .string b] := by rw [hw10]; exact (by (repeat first | exact k3 | refine Blk.alloc ?_ _))
  have k4 : Blk w10 (w.heap.size + 1) [.string c, .string d] := by rw [hw10]; exact (by (repeat first | exact k4 | refine Blk.alloc ?_ _))
  have hb : Below w.heap.size w w10 := by rw [hw10]; exact (by (repeat first | refine Below.setCell ?_ (by first | omega | (dsimp only; omega) | (simp only [heap_drew, World.size_alloc, Gz.size_setCell]; omega)) _ | refine Below.alloc ?_ (by first | omega | (dsimp only; omega) | (simp only [heap_drew, World.size_alloc, Gz.size_setCell]; omega)) _ | refine Below.drew ?_); exact hb)
  have k8 : Blk w10 w3.heap.size [.string s1, .string s2] := by rw [hw10]; exact k8.alloc _
  have k9 : Blk w10 (w3.heap.size + 1) [.string s3, .string s4] := by rw [hw10]; exact k9.alloc _
  have k11 : Blk w10 w5.heap.size [.string s1, .string s2] := by rw [hw10]; exact k11.alloc _
  have k12 : Blk w10 (w5.heap.size + 1) [.string s3, .string s4] := by rw [hw10]; exact k12.alloc _
  have k14 : Blk w10 w7.heap.size [.string m1, .string m2] := by rw [hw10]; exact k14.alloc _
  have k16 : Blk w10 w9.heap.size [.string m1, .string m2] := by rw [hw10]; exact Blk.new _ _ _ _ rfl
  clear hw10
  refine (meet_any a b c d w10).mono ?_
  rintro e w11 ⟨rfl, hbn⟩
  rw [HT.out]
  have k3 := k3.ext hbn
  have k4 := k4.ext hbn
  have hb := hb.trans (hbn.mono hb.size)
  have hz := hb.size
  clear c3 c4
  have c3 := k3.cell
  have c4 := k4.cell
  have k8 := k8.ext hbn
  have k9 := k9.ext hbn
  have k11 := k11.ext hbn
  have k12 := k12.ext hbn
  have k14 := k14.ext hbn
  have k16 := k16.ext hbn
  go_wp2_with fail
  refine name_calls (fun w12 hw12 => ?_)
  have k3 : Blk w12 w.heap.size [.string a, .string b] := by rw [hw12]; exact (by (repeat first | exact k3 | refine Blk.alloc ?_ _))
  have k4 : Blk w12 (w.heap.size + 1) [.string c, .string d] := by rw [hw12]; exact (by (repeat first | exact k4 | refine Blk.alloc ?_ _))
  have hb : Below w.heap.size w w12 := by rw [hw12]; exact (by (repeat first | refine Below.setCell ?_ (by first | omega | (dsimp only; omega) | (simp only [heap_drew, World.size_alloc, Gz.size_setCell]; omega)) _ | refine Below.alloc ?_ (by first | omega | (dsimp only; omega) | (simp only [heap_drew, World.size_alloc, Gz.size_setCell]; omega)) _ | refine Below.drew ?_); exact hb)
  have k8 : Blk w12 w3.heap.size [.string s1, .string s2] := by rw [hw12]; exact k8.alloc _
  have k9 : Blk w12 (w3.heap.size + 1) [.string s3, .string s4] := by rw [hw12]; exact k9.alloc _
  have k11 : Blk w12 w5.heap.size [.string s1, .string s2] := by rw [hw12]; exact k11.alloc _
  have k12 : Blk w12 (w5.heap.size + 1) [.string s3, .string s4] := by rw [hw12]; exact k12.alloc _
  have k14 : Blk w12 w7.heap.size [.string m1, .string m2] := by rw [hw12]; exact k14.alloc _
  have k16 : Blk w12 w9.heap.size [.string m1, .string m2] := by rw [hw12]; exact k16.alloc _
  have k18 : Blk w12 w11.heap.size [.string t1, .string t2] := by rw [hw12]; exact Blk.new _ _ _ _ rfl
  clear hw12
  refine (meetRef_any a b c d w12).mono ?_
  rintro e w13 ⟨rfl, hbn⟩
  rw [HT.out]
  have k3 := k3.ext hbn
  have k4 := k4.ext hbn
  have hb := hb.trans (hbn.mono hb.size)
  have hz := hb.size
  clear c3 c4
  have c3 := k3.cell
  have c4 := k4.cell
  have k8 := k8.ext hbn
  have k9 := k9.ext hbn
  have k11 := k11.ext hbn
  have k12 := k12.ext hbn
  have k14 := k14.ext hbn
  have k16 := k16.ext hbn
  have k18 := k18.ext hbn
  go_upto_region 8 with fail
  refine name_world (fun w14 hw14 => ?_)
  have k3 : Blk w14 w.heap.size [.string a, .string b] := by rw [hw14]; exact (by (repeat first | exact k3 | refine Blk.alloc ?_ _))
  have k4 : Blk w14 (w.heap.size + 1) [.string c, .string d] := by rw [hw14]; exact (by (repeat first | exact k4 | refine Blk.alloc ?_ _))
  have k8 : Blk w14 w3.heap.size [.string s1, .string s2] := by rw [hw14]; exact k8.alloc _
  have k9 : Blk w14 (w3.heap.size + 1) [.string s3, .string s4] := by rw [hw14]; exact k9.alloc _
  have k11 : Blk w14 w5.heap.size [.string s1, .string s2] := by rw [hw14]; exact k11.alloc _
  have k12 : Blk w14 (w5.heap.size + 1) [.string s3, .string s4] := by rw [hw14]; exact k12.alloc _
  have k14 : Blk w14 w7.heap.size [.string m1, .string m2] := by rw [hw14]; exact k14.alloc _
  have k16 : Blk w14 w9.heap.size [.string m1, .string m2] := by rw [hw14]; exact k16.alloc _
  have k18 : Blk w14 w11.heap.size [.string t1, .string t2] := by rw [hw14]; exact k18.alloc _
  have k20 : Blk w14 w13.heap.size [.string t1, .string t2] := by rw [hw14]; exact Blk.new _ _ _ _ rfl
  have hb : Below w.heap.size w w14 := by rw [hw14]; exact (by (repeat first | refine Below.setCell ?_ (by first | omega | (dsimp only; omega) | (simp only [heap_drew, World.size_alloc, Gz.size_setCell]; omega)) _ | refine Below.alloc ?_ (by first | omega | (dsimp only; omega) | (simp only [heap_drew, World.size_alloc, Gz.size_setCell]; omega)) _ | refine Below.drew ?_); exact hb)
  clear hw14 c3 c4
  have c3 := k3.cell
  have c8 := k8.cell
  have c9 := k9.cell
  have c11 := k11.cell
  have c12 := k12.cell
  have c14 := k14.cell
  have c16 := k16.cell
  have c18 := k18.cell
  have c20 := k20.cell
  go_wp2_with fail
  refine wp_region_held_drew (S := Ext w14) (by kernel_rfl) Ext.start (fun hS => ?_)
  simp only [List.size_toArray, List.length_cons, List.length_nil]
  refine take_at (i := 0) (oi := _) (dst := some 61) (v := ?_) rfl rfl (by kernel_rfl) (by kernel_rfl) (by kernel_rfl) (fun _ _ _ h => h) (Or.inl ⟨by rfl, by intro w hSw; (try dsimp only at hSw); go_simp; (try with_reducible rfl)⟩) (by assumption) ?_; (try simp only [Act.put, List.setIfInBounds_toArray, List.set_cons_zero, List.set_cons_succ])
  refine take_at (i := 1) (oi := _) (dst := some 62) (v := ?_) rfl rfl (by kernel_rfl) (by kernel_rfl) (by kernel_rfl) (fun _ _ _ h => h) (Or.inl ⟨by rfl, by intro w hSw; (try dsimp only at hSw); go_simp; (try with_reducible rfl)⟩) (by assumption) ?_; (try simp only [Act.put, List.setIfInBounds_toArray, List.set_cons_zero, List.set_cons_succ])
  refine take_at (i := 2) (oi := _) (dst := some 63) (v := ?_) rfl rfl (by kernel_rfl) (by kernel_rfl) (by kernel_rfl) (fun _ _ _ h => h) (Or.inl ⟨by rfl, by intro w hSw; (try dsimp only at hSw); go_simp; (try with_reducible rfl)⟩) (by assumption) ?_; (try simp only [Act.put, List.setIfInBounds_toArray, List.set_cons_zero, List.set_cons_succ])
  refine take_at (i := 4) (oi := _) (dst := some 65) (v := ?_) rfl rfl (by kernel_rfl) (by kernel_rfl) (by kernel_rfl) (fun _ _ _ h => h) (Or.inl ⟨by rfl, by intro w hSw; (try dsimp only at hSw); go_simp; (try with_reducible rfl)⟩) (by assumption) ?_; (try simp only [Act.put, List.setIfInBounds_toArray, List.set_cons_zero, List.set_cons_succ])
  refine wpAnyH_ready (rs := [3]) (by kernel_rfl) (by simp) ?_; refine AllReadyH.cons (o := _) rfl (fun K hK => ?_) AllReadyH.nil; go_simp
  refine (check_any a b _).mono ?_
  rintro e w15 ⟨rfl, hbn⟩
  refine hK.out _ _ (Ext.below hS hbn) (fun hS1 => ?_)
  clear hK
  refine wpAnyH_ready (rs := [5]) (by kernel_rfl) (by simp) ?_; refine AllReadyH.cons (o := _) rfl (fun K hK => ?_) AllReadyH.nil; go_simp
  refine (checkRef_any a b _).mono ?_
  rintro e w16 ⟨rfl, hbn⟩
  refine hK.out _ _ (Ext.below hS1 hbn) (fun hS2 => ?_)
  clear hK
  refine take_at (i := 6) (oi := _) (dst := some 67) (v := ?_) rfl rfl (by kernel_rfl) (by kernel_rfl) (by kernel_rfl) (fun _ _ _ h => h) (Or.inl ⟨by rfl, by intro w hSw; (try dsimp only at hSw); go_simp; (try with_reducible rfl)⟩) (by assumption) ?_; (try simp only [Act.put, List.setIfInBounds_toArray, List.set_cons_zero, List.set_cons_succ])
  refine take_at (i := 7) (oi := _) (dst := some 68) (v := ?_) rfl rfl (by kernel_rfl) (by kernel_rfl) (by kernel_rfl) (fun _ _ _ h => h) (Or.inl ⟨by rfl, by intro w hSw; (try dsimp only at hSw); go_simp; (try with_reducible rfl)⟩) (by assumption) ?_; (try simp only [Act.put, List.setIfInBounds_toArray, List.set_cons_zero, List.set_cons_succ])
  refine take_at (i := 8) (oi := _) (dst := some 69) (v := ?_) rfl rfl (by kernel_rfl) (by kernel_rfl) (by kernel_rfl) (fun _ _ _ h => h) (Or.inl ⟨by rfl, by intro w hSw; (try dsimp only at hSw); go_simp; (try with_reducible rfl)⟩) (by assumption) ?_; (try simp only [Act.put, List.setIfInBounds_toArray, List.set_cons_zero, List.set_cons_succ])
  refine take_at (i := 9) (oi := _) (dst := some 70) (v := ?_) rfl rfl (by kernel_rfl) (by kernel_rfl) (by kernel_rfl) (fun _ _ _ h => h) (Or.inl ⟨by rfl, by intro w hSw; (try dsimp only at hSw); go_simp; (try with_reducible rfl)⟩) (by assumption) ?_; (try simp only [Act.put, List.setIfInBounds_toArray, List.set_cons_zero, List.set_cons_succ])
  refine take_at (i := 10) (oi := _) (dst := some 71) (v := ?_) rfl rfl (by kernel_rfl) (by kernel_rfl) (by kernel_rfl) (fun _ _ _ h => h) (Or.inl ⟨by rfl, by intro w hSw; (try dsimp only at hSw); go_simp; (try with_reducible rfl)⟩) (by assumption) ?_; (try simp only [Act.put, List.setIfInBounds_toArray, List.set_cons_zero, List.set_cons_succ])
  refine take_at (i := 12) (oi := _) (dst := some 73) (v := ?_) rfl rfl (by kernel_rfl) (by kernel_rfl) (by kernel_rfl) (fun _ _ _ h => h) (Or.inl ⟨by rfl, by intro w hSw; (try dsimp only at hSw); go_simp; (try with_reducible rfl)⟩) (by assumption) ?_; (try simp only [Act.put, List.setIfInBounds_toArray, List.set_cons_zero, List.set_cons_succ])
  refine take_at (i := 13) (oi := _) (dst := some 74) (v := ?_) rfl rfl (by kernel_rfl) (by kernel_rfl) (by kernel_rfl) (fun _ _ _ h => h) (Or.inl ⟨by rfl, by intro w hSw; (try dsimp only at hSw); go_simp; (try with_reducible rfl)⟩) (by assumption) ?_; (try simp only [Act.put, List.setIfInBounds_toArray, List.set_cons_zero, List.set_cons_succ])
  refine wpAnyH_ready (rs := [11]) (by kernel_rfl) (by simp) ?_; refine AllReadyH.cons (o := _) rfl (fun K hK => ?_) AllReadyH.nil; go_simp
  refine (has_any a b key _).mono ?_
  rintro e w17 ⟨rfl, hbn⟩
  refine hK.out _ _ (Ext.below hS2 hbn) (fun hS3 => ?_)
  clear hK
  refine wpAnyH_ready (rs := [14]) (by kernel_rfl) (by simp) ?_; refine AllReadyH.cons (o := _) rfl (fun K hK => ?_) AllReadyH.nil; go_simp
  refine (hasRef_any a b key _).mono ?_
  rintro e w18 ⟨rfl, hbn⟩
  refine hK.out _ _ (Ext.below hS3 hbn) (fun hS4 => ?_)
  clear hK
  refine take_at (i := 15) (oi := _) (dst := some 76) (v := ?_) rfl rfl (by kernel_rfl) (by kernel_rfl) (by kernel_rfl) (fun _ _ _ h => h) (Or.inl ⟨by rfl, by intro w hSw; (try dsimp only at hSw); go_simp; (try with_reducible rfl)⟩) (by assumption) ?_; (try simp only [Act.put, List.setIfInBounds_toArray, List.set_cons_zero, List.set_cons_succ])
  refine take_at (i := 16) (oi := _) (dst := some 77) (v := ?_) rfl rfl (by kernel_rfl) (by kernel_rfl) (by kernel_rfl) (fun _ _ _ h => h) (Or.inl ⟨by rfl, by intro w hSw; (try dsimp only at hSw); go_simp; (try with_reducible rfl)⟩) (by assumption) ?_; (try simp only [Act.put, List.setIfInBounds_toArray, List.set_cons_zero, List.set_cons_succ])
  refine take_at (i := 17) (oi := _) (dst := some 78) (v := ?_) rfl rfl (by kernel_rfl) (by kernel_rfl) (by kernel_rfl) (fun _ _ _ h => h) (Or.inl ⟨by rfl, by intro w hSw; (try dsimp only at hSw); go_simp; (try with_reducible rfl)⟩) (by assumption) ?_; (try simp only [Act.put, List.setIfInBounds_toArray, List.set_cons_zero, List.set_cons_succ])
  refine take_at (i := 18) (oi := _) (dst := some 79) (v := ?_) rfl rfl (by kernel_rfl) (by kernel_rfl) (by kernel_rfl) (fun _ _ _ h => h) (Or.inl ⟨by rfl, by intro w hSw; (try dsimp only at hSw); go_simp; (try with_reducible rfl)⟩) (by assumption) ?_; (try simp only [Act.put, List.setIfInBounds_toArray, List.set_cons_zero, List.set_cons_succ])
  refine take_at (i := 19) (oi := _) (dst := some 80) (v := ?_) rfl rfl (by kernel_rfl) (by kernel_rfl) (by kernel_rfl) (fun _ _ _ h => h) (Or.inl ⟨by rfl, by intro w hSw; (try dsimp only at hSw); go_simp; (try with_reducible rfl)⟩) (by assumption) ?_; (try simp only [Act.put, List.setIfInBounds_toArray, List.set_cons_zero, List.set_cons_succ])
  refine take_at (i := 20) (oi := _) (dst := some 81) (v := ?_) rfl rfl (by kernel_rfl) (by kernel_rfl) (by kernel_rfl) (fun _ _ _ h => h) (Or.inl ⟨by rfl, by intro w hSw; (try dsimp only at hSw); go_simp; (try with_reducible rfl)⟩) (by assumption) ?_; (try simp only [Act.put, List.setIfInBounds_toArray, List.set_cons_zero, List.set_cons_succ])
  refine take_at (i := 21) (oi := _) (dst := some 82) (v := ?_) rfl rfl (by kernel_rfl) (by kernel_rfl) (by kernel_rfl) (fun _ _ _ h => h) (Or.inl ⟨by rfl, by intro w hSw; (try dsimp only at hSw); go_simp; (try with_reducible rfl)⟩) (by assumption) ?_; (try simp only [Act.put, List.setIfInBounds_toArray, List.set_cons_zero, List.set_cons_succ])
  refine take_at (i := 22) (oi := _) (dst := some 83) (v := ?_) rfl rfl (by kernel_rfl) (by kernel_rfl) (by kernel_rfl) (fun _ _ _ h => h) (Or.inl ⟨by rfl, by intro w hSw; (try dsimp only at hSw); go_simp; (try with_reducible rfl)⟩) (by assumption) ?_; (try simp only [Act.put, List.setIfInBounds_toArray, List.set_cons_zero, List.set_cons_succ])
  refine take_at (i := 23) (oi := _) (dst := some 84) (v := ?_) rfl rfl (by kernel_rfl) (by kernel_rfl) (by kernel_rfl) (fun _ _ _ h => h) (Or.inl ⟨by rfl, by intro w hSw; (try dsimp only at hSw); go_simp; (try with_reducible rfl)⟩) (by assumption) ?_; (try simp only [Act.put, List.setIfInBounds_toArray, List.set_cons_zero, List.set_cons_succ])
  refine take_at (i := 24) (oi := _) (dst := some 85) (v := ?_) rfl rfl (by kernel_rfl) (by kernel_rfl) (by kernel_rfl) (fun _ _ _ h => h) (Or.inl ⟨by rfl, by intro w hSw; (try dsimp only at hSw); go_simp; (try with_reducible rfl)⟩) (by assumption) ?_; (try simp only [Act.put, List.setIfInBounds_toArray, List.set_cons_zero, List.set_cons_succ])
  refine take_at (i := 25) (oi := _) (dst := some 86) (v := ?_) rfl rfl (by kernel_rfl) (by kernel_rfl) (by kernel_rfl) (fun _ _ _ h => h) (Or.inl ⟨by rfl, by intro w hSw; (try dsimp only at hSw); go_simp; (try with_reducible rfl)⟩) (by assumption) ?_; (try simp only [Act.put, List.setIfInBounds_toArray, List.set_cons_zero, List.set_cons_succ])
  refine take_at (i := 26) (oi := _) (dst := some 87) (v := ?_) rfl rfl (by kernel_rfl) (by kernel_rfl) (by kernel_rfl) (fun _ _ _ h => h) (Or.inl ⟨by rfl, by intro w hSw; (try dsimp only at hSw); go_simp; (try with_reducible rfl)⟩) (by assumption) ?_; (try simp only [Act.put, List.setIfInBounds_toArray, List.set_cons_zero, List.set_cons_succ])
  refine take_at (i := 27) (oi := _) (dst := some 88) (v := ?_) rfl rfl (by kernel_rfl) (by kernel_rfl) (by kernel_rfl) (fun _ _ _ h => h) (Or.inl ⟨by rfl, by intro w hSw; (try dsimp only at hSw); go_simp; (try with_reducible rfl)⟩) (by assumption) ?_; (try simp only [Act.put, List.setIfInBounds_toArray, List.set_cons_zero, List.set_cons_succ])
  refine take_at (i := 28) (oi := _) (dst := some 89) (v := ?_) rfl rfl (by kernel_rfl) (by kernel_rfl) (by kernel_rfl) (fun _ _ _ h => h) (Or.inl ⟨by rfl, by intro w hSw; (try dsimp only at hSw); go_simp; (try with_reducible rfl)⟩) (by assumption) ?_; (try simp only [Act.put, List.setIfInBounds_toArray, List.set_cons_zero, List.set_cons_succ])
  refine take_at (i := 29) (oi := _) (dst := some 90) (v := ?_) rfl rfl (by kernel_rfl) (by kernel_rfl) (by kernel_rfl) (fun _ _ _ h => h) (Or.inl ⟨by rfl, by intro w hSw; (try dsimp only at hSw); go_simp; (try with_reducible rfl)⟩) (by assumption) ?_; (try simp only [Act.put, List.setIfInBounds_toArray, List.set_cons_zero, List.set_cons_succ])
  refine take_at (i := 30) (oi := _) (dst := some 91) (v := ?_) rfl rfl (by kernel_rfl) (by kernel_rfl) (by kernel_rfl) (fun _ _ _ h => h) (Or.inl ⟨by rfl, by intro w hSw; (try dsimp only at hSw); go_simp; (try with_reducible rfl)⟩) (by assumption) ?_; (try simp only [Act.put, List.setIfInBounds_toArray, List.set_cons_zero, List.set_cons_succ])
  refine take_at (i := 31) (oi := _) (dst := some 92) (v := ?_) rfl rfl (by kernel_rfl) (by kernel_rfl) (by kernel_rfl) (fun _ _ _ h => h) (Or.inl ⟨by rfl, by intro w hSw; (try dsimp only at hSw); go_simp; (try with_reducible rfl)⟩) (by assumption) ?_; (try simp only [Act.put, List.setIfInBounds_toArray, List.set_cons_zero, List.set_cons_succ])
  refine take_at (i := 32) (oi := _) (dst := some 93) (v := ?_) rfl rfl (by kernel_rfl) (by kernel_rfl) (by kernel_rfl) (fun _ _ _ h => h) (Or.inl ⟨by rfl, by intro w hSw; (try dsimp only at hSw); go_simp; (try with_reducible rfl)⟩) (by assumption) ?_; (try simp only [Act.put, List.setIfInBounds_toArray, List.set_cons_zero, List.set_cons_succ])
  refine take_at (i := 33) (oi := _) (dst := some 94) (v := ?_) rfl rfl (by kernel_rfl) (by kernel_rfl) (by kernel_rfl) (fun _ _ _ h => h) (Or.inl ⟨by rfl, by intro w hSw; (try dsimp only at hSw); go_simp; (try with_reducible rfl)⟩) (by assumption) ?_; (try simp only [Act.put, List.setIfInBounds_toArray, List.set_cons_zero, List.set_cons_succ])
  refine take_at (i := 34) (oi := _) (dst := some 95) (v := ?_) rfl rfl (by kernel_rfl) (by kernel_rfl) (by kernel_rfl) (fun _ _ _ h => h) (Or.inl ⟨by rfl, by intro w hSw; (try dsimp only at hSw); go_simp; (try with_reducible rfl)⟩) (by assumption) ?_; (try simp only [Act.put, List.setIfInBounds_toArray, List.set_cons_zero, List.set_cons_succ])
  refine take_at (i := 35) (oi := _) (dst := some 96) (v := ?_) rfl rfl (by kernel_rfl) (by kernel_rfl) (by kernel_rfl) (fun _ _ _ h => h) (Or.inl ⟨by rfl, by intro w hSw; (try dsimp only at hSw); go_simp; (try with_reducible rfl)⟩) (by assumption) ?_; (try simp only [Act.put, List.setIfInBounds_toArray, List.set_cons_zero, List.set_cons_succ])
  refine take_at (i := 36) (oi := _) (dst := some 97) (v := ?_) rfl rfl (by kernel_rfl) (by kernel_rfl) (by kernel_rfl) (fun _ _ _ h => h) (Or.inl ⟨by rfl, by intro w hSw; (try dsimp only at hSw); go_simp; (try with_reducible rfl)⟩) (by assumption) ?_; (try simp only [Act.put, List.setIfInBounds_toArray, List.set_cons_zero, List.set_cons_succ])
  refine take_at (i := 37) (oi := _) (dst := some 98) (v := ?_) rfl rfl (by kernel_rfl) (by kernel_rfl) (by kernel_rfl) (fun _ _ _ h => h) (Or.inl ⟨by rfl, by intro w hSw; (try dsimp only at hSw); go_simp; (try with_reducible rfl)⟩) (by assumption) ?_; (try simp only [Act.put, List.setIfInBounds_toArray, List.set_cons_zero, List.set_cons_succ])
  refine take_at (i := 38) (oi := _) (dst := some 99) (v := ?_) rfl rfl (by kernel_rfl) (by kernel_rfl) (by kernel_rfl) (fun _ _ _ h => h) (Or.inl ⟨by rfl, by intro w hSw; (try dsimp only at hSw); go_simp; (try with_reducible rfl)⟩) (by assumption) ?_; (try simp only [Act.put, List.setIfInBounds_toArray, List.set_cons_zero, List.set_cons_succ])
  refine take_at (i := 39) (oi := _) (dst := some 100) (v := ?_) rfl rfl (by kernel_rfl) (by kernel_rfl) (by kernel_rfl) (fun _ _ _ h => h) (Or.inl ⟨by rfl, by intro w hSw; (try dsimp only at hSw); go_simp; (try with_reducible rfl)⟩) (by assumption) ?_; (try simp only [Act.put, List.setIfInBounds_toArray, List.set_cons_zero, List.set_cons_succ])
  refine take_at (i := 40) (oi := _) (dst := some 101) (v := ?_) rfl rfl (by kernel_rfl) (by kernel_rfl) (by kernel_rfl) (fun _ _ _ h => h) (Or.inl ⟨by rfl, by intro w hSw; (try dsimp only at hSw); go_simp; (try with_reducible rfl)⟩) (by assumption) ?_; (try simp only [Act.put, List.setIfInBounds_toArray, List.set_cons_zero, List.set_cons_succ])
  refine take_at (i := 41) (oi := _) (dst := some 102) (v := ?_) rfl rfl (by kernel_rfl) (by kernel_rfl) (by kernel_rfl) (fun _ _ _ h => h) (Or.inl ⟨by rfl, by intro w hSw; (try dsimp only at hSw); go_simp; (try with_reducible rfl)⟩) (by assumption) ?_; (try simp only [Act.put, List.setIfInBounds_toArray, List.set_cons_zero, List.set_cons_succ])
  refine take_at (i := 42) (oi := _) (dst := some 103) (v := ?_) rfl rfl (by kernel_rfl) (by kernel_rfl) (by kernel_rfl) (fun _ _ _ h => h) (Or.inl ⟨by rfl, by intro w hSw; (try dsimp only at hSw); go_simp; (try with_reducible rfl)⟩) (by assumption) ?_; (try simp only [Act.put, List.setIfInBounds_toArray, List.set_cons_zero, List.set_cons_succ])
  refine take_at (i := 43) (oi := _) (dst := some 104) (v := ?_) rfl rfl (by kernel_rfl) (by kernel_rfl) (by kernel_rfl) (fun _ _ _ h => h) (Or.inl ⟨by rfl, by intro w hSw; (try dsimp only at hSw); go_simp; (try with_reducible rfl)⟩) (by assumption) ?_; (try simp only [Act.put, List.setIfInBounds_toArray, List.set_cons_zero, List.set_cons_succ])
  refine take_at (i := 44) (oi := _) (dst := some 105) (v := ?_) rfl rfl (by kernel_rfl) (by kernel_rfl) (by kernel_rfl) (fun _ _ _ h => h) (Or.inl ⟨by rfl, by intro w hSw; (try dsimp only at hSw); go_simp; (try with_reducible rfl)⟩) (by assumption) ?_; (try simp only [Act.put, List.setIfInBounds_toArray, List.set_cons_zero, List.set_cons_succ])
  refine take_at (i := 45) (oi := _) (dst := some 106) (v := ?_) rfl rfl (by kernel_rfl) (by kernel_rfl) (by kernel_rfl) (fun _ _ _ h => h) (Or.inl ⟨by rfl, by intro w hSw; (try dsimp only at hSw); go_simp; (try with_reducible rfl)⟩) (by assumption) ?_; (try simp only [Act.put, List.setIfInBounds_toArray, List.set_cons_zero, List.set_cons_succ])
  refine take_at (i := 46) (oi := _) (dst := some 107) (v := ?_) rfl rfl (by kernel_rfl) (by kernel_rfl) (by kernel_rfl) (fun _ _ _ h => h) (Or.inl ⟨by rfl, by intro w hSw; (try dsimp only at hSw); go_simp; (try with_reducible rfl)⟩) (by assumption) ?_; (try simp only [Act.put, List.setIfInBounds_toArray, List.set_cons_zero, List.set_cons_succ])
  refine take_at (i := 47) (oi := _) (dst := some 108) (v := ?_) rfl rfl (by kernel_rfl) (by kernel_rfl) (by kernel_rfl) (fun _ _ _ h => h) (Or.inl ⟨by rfl, by intro w hSw; (try dsimp only at hSw); go_simp; (try with_reducible rfl)⟩) (by assumption) ?_; (try simp only [Act.put, List.setIfInBounds_toArray, List.set_cons_zero, List.set_cons_succ])
  refine take_at (i := 48) (oi := _) (dst := some 109) (v := ?_) rfl rfl (by kernel_rfl) (by kernel_rfl) (by kernel_rfl) (fun _ _ _ h => h) (Or.inl ⟨by rfl, by intro w hSw; (try dsimp only at hSw); go_simp; (try with_reducible rfl)⟩) (by assumption) ?_; (try simp only [Act.put, List.setIfInBounds_toArray, List.set_cons_zero, List.set_cons_succ])
  refine take_at (i := 49) (oi := _) (dst := some 110) (v := ?_) rfl rfl (by kernel_rfl) (by kernel_rfl) (by kernel_rfl) (fun _ _ _ h => h) (Or.inl ⟨by rfl, by intro w hSw; (try dsimp only at hSw); go_simp; (try with_reducible rfl)⟩) (by assumption) ?_; (try simp only [Act.put, List.setIfInBounds_toArray, List.set_cons_zero, List.set_cons_succ])
  refine take_at (i := 50) (oi := _) (dst := some 111) (v := ?_) rfl rfl (by kernel_rfl) (by kernel_rfl) (by kernel_rfl) (fun _ _ _ h => h) (Or.inl ⟨by rfl, by intro w hSw; (try dsimp only at hSw); go_simp; (try with_reducible rfl)⟩) (by assumption) ?_; (try simp only [Act.put, List.setIfInBounds_toArray, List.set_cons_zero, List.set_cons_succ])
  refine take_at (i := 51) (oi := _) (dst := some 112) (v := ?_) rfl rfl (by kernel_rfl) (by kernel_rfl) (by kernel_rfl) (fun _ _ _ h => h) (Or.inl ⟨by rfl, by intro w hSw; (try dsimp only at hSw); go_simp; (try with_reducible rfl)⟩) (by assumption) ?_; (try simp only [Act.put, List.setIfInBounds_toArray, List.set_cons_zero, List.set_cons_succ])
  refine take_at (i := 52) (oi := _) (dst := some 6) (v := ?_) rfl rfl (by kernel_rfl) (by kernel_rfl) (by kernel_rfl) (fun _ _ _ h => h) (Or.inl ⟨by rfl, by intro w hSw; (try dsimp only at hSw); go_simp; (try with_reducible rfl)⟩) (by assumption) ?_; (try simp only [Act.put, List.setIfInBounds_toArray, List.set_cons_zero, List.set_cons_succ])
  refine wpAnyH_done (by kernel_rfl) ?_ _
  go_wp2
  go_ret
  exact ⟨rfl, hb.trans (hS4.2.2.mono hb.size)⟩
end Go.Proofs.Ytbpmpnifelbaaaa

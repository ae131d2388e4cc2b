/- Contracts of Same, SameEntries, SameLog (of equal ones) and of CloneLog. -/
import Derived.Test.YtglabhfmeinogaaLRead
namespace Go.Proofs.Ytglabhfmeinogaa
open Go.RowKit Go.Gz
attribute [local go_sem] World.cell?_alloc_some frozen?_alloc_some

set_option maxHeartbeats 1600000 in
theorem sameEnt_any (cs cs' : List Value) (x : Ent) (w : World) (h : IsE w cs x) (h' : IsE w cs' x) (hf : Fits x) :
    Calls Try.prog 46 #[.agg cs.toArray, .agg cs'.toArray] w fun e w' => e = .returned (.bool true) ∧ Below w.heap.size w w' := by
  obtain ⟨i, t, k, ds, vs, ls⟩ := x
  obtain ⟨D, dc, V, vc, L, lc, rfl, hs, hc⟩ := h
  obtain ⟨D', dc', V', vc', L', lc', rfl, hs', hc'⟩ := h'
  obtain ⟨hf1, hf2, hf3⟩ := hf
  dsimp only at hs hc hs' hc' hf1 hf2 hf3
  have HS := Lib.hid hs
  have HC := Lib.hid hc
  have HS' := Lib.hid hs'
  have HC' := Lib.hid hc'
  clear hs hc hs' hc'
  dsimp only
  go_enter Try.func46, Try.ntmps46
  go_wp2_with fail
  refine name_calls (fun w1 hw1 => ?_)
  have k2 : Blk w1 w.heap.size [.int .u64 i, .int .u64 t, .int .i64 k, .slice D ds.length dc, .slice V vs.length vc, .slice L ls.length lc] := by rw [hw1]; exact (Blk.new _ _ _ _ rfl).alloc _
  have k3 : Blk w1 (w.heap.size + 1) [.int .u64 i, .int .u64 t, .int .i64 k, .slice D' ds.length dc', .slice V' vs.length vc', .slice L' ls.length lc'] := by rw [hw1]; exact Blk.new _ _ _ _ (by simp)
  have hb1 : Below w.heap.size w w1 := by rw [hw1]; exact (by (repeat first | refine Below.setCell ?_ (by first | omega | (dsimp only; omega) | (simp only [heap_drew, World.size_alloc, Gz.size_setCell]; omega)) _ | refine Below.alloc ?_ (by first | omega | (dsimp only; omega) | (simp only [heap_drew, World.size_alloc, Gz.size_setCell]; omega)) _ | refine Below.drew ?_); exact Below.refl _ _)
  clear hw1
  refine (sameConf_any V L V' L' vs.length vc vc' ls.length lc lc' vs ls w1 (HC.out.below hb1) (HC'.out.below hb1) (by omega) (by omega)).mono ?_
  rintro e w2 ⟨rfl, hb2⟩
  have c2 := (k2.ext hb2).cell
  have c3 := (k3.ext hb2).cell
  have hb2 := hb1.trans (hb2.mono hb1.size)
  have v1 := run_convert_sl (P := Try.prog) 26 5 9 Try.underlying26 Try.underlying5 Try.underlying9 (HS.out.below hb2)
  have v2 := run_convert_sl (P := Try.prog) 26 5 9 Try.underlying26 Try.underlying5 Try.underlying9 (HS'.out.below hb2)
  go_wp2
  go_ret
  exact ⟨rfl, hb2⟩

set_option maxHeartbeats 1600000 in
theorem sameEnts_any (O O' : Option Addr) (n c c' : Nat) (xs : List Ent) (w : World) (h : IsEs w O n xs) (h' : IsEs w O' n xs) (hf : ∀ x ∈ xs, Fits x) (hn : n ≤ 140737488355328) :
    Calls Try.prog 22 #[.slice O n c, .slice O' n c'] w fun e w' => e = .returned (.bool true) ∧ Below w.heap.size w w' := by
  have H := Lib.hid h
  have H' := Lib.hid h'
  have HF := Lib.hid hf
  have hxl := h.len
  clear h h' hf
  go_enter Try.func22, Try.ntmps22
  go_wp2_with fail
  go_loopw [5] (fun s5 wr => ∃ j : Nat, s5 = .int .i64 j ∧ j ≤ n ∧ Below w.heap.size w wr) (fun s5 _ => (n - intOf s5).toNat)
  case atStart => exact ⟨0, rfl, by omega, Below.refl _ _⟩
  case round =>
    obtain ⟨j, rfl, hj, hbr⟩ := hrel
    by_cases hlt : j < n
    · have b1 : (j : Int) < (n : Int) := by omega
      cases O with
      | none => obtain ⟨zs, _, h2, h3, _⟩ := H.out; have := h3.2.1 rfl; omega
      | some ad =>
      cases O' with
      | none => obtain ⟨zs, _, h2, h3, _⟩ := H'.out; have := h3.2.1 rfl; omega
      | some bd =>
      obtain ⟨x, D, dc, V, vc, L, lc, hx, hE, _, _, m0, m1, m2, m3, m4, m5⟩ := (H.out.below hbr).at hlt
      obtain ⟨x', D', dc', V', vc', L', lc', hx', hE', _, _, q0, q1, q2, q3, q4, q5⟩ := (H'.out.below hbr).at hlt
      obtain rfl : x = x' := by rw [hx] at hx'; exact Option.some.inj hx'
      have hxm : x ∈ xs := List.mem_of_getElem? hx
      have HE := Lib.hid hE
      have HE' := Lib.hid hE'
      clear hx hx' hE hE'
      go_wp2_with fail
      refine wp_region_held_drew (S := Ext wr) (by kernel_rfl) Ext.start (fun hS => ?_)
      simp only [List.size_toArray, List.length_cons, List.length_nil]
      refine take_at (i := 0) (oi := _) (dst := some 18) (v := ?_) rfl rfl (by kernel_rfl) (by kernel_rfl) (by kernel_rfl) (fun _ _ _ h => h) (Or.inl ⟨by rfl, by intro w hSw; (try dsimp only at hSw); go_simp; (try with_reducible rfl)⟩) (by assumption) ?_; (try simp only [Act.put, List.setIfInBounds_toArray, List.set_cons_zero, List.set_cons_succ])
      refine take_at (i := 1) (oi := _) (dst := some 19) (v := ?_) rfl rfl (by kernel_rfl) (by kernel_rfl) (by kernel_rfl) (fun _ _ _ h => h) (Or.inl ⟨by rfl, by intro w hSw; (try dsimp only at hSw); go_simp; (try with_reducible rfl)⟩) (by assumption) ?_; (try simp only [Act.put, List.setIfInBounds_toArray, List.set_cons_zero, List.set_cons_succ])
      refine take_at (i := 2) (oi := _) (dst := some 20) (v := ?_) rfl rfl (by kernel_rfl) (by kernel_rfl) (by kernel_rfl) (fun _ _ _ h => h) (Or.inl ⟨by rfl, by intro w hSw; (try dsimp only at hSw); go_simp; (try with_reducible rfl)⟩) (by assumption) ?_; (try simp only [Act.put, List.setIfInBounds_toArray, List.set_cons_zero, List.set_cons_succ])
      refine take_at (i := 3) (oi := _) (dst := some 21) (v := ?_) rfl rfl (by kernel_rfl) (by kernel_rfl) (by kernel_rfl) (fun _ _ _ h => h) (Or.inl ⟨by rfl, by intro w hSw; (try dsimp only at hSw); go_simp; (try with_reducible rfl)⟩) (by assumption) ?_; (try simp only [Act.put, List.setIfInBounds_toArray, List.set_cons_zero, List.set_cons_succ])
      refine take_at (i := 4) (oi := _) (dst := some 22) (v := ?_) rfl rfl (by kernel_rfl) (by kernel_rfl) (by kernel_rfl) (fun _ _ _ h => h) (Or.inl ⟨by rfl, by intro w hSw; (try dsimp only at hSw); go_simp; (try with_reducible rfl)⟩) (by assumption) ?_; (try simp only [Act.put, List.setIfInBounds_toArray, List.set_cons_zero, List.set_cons_succ])
      refine take_at (i := 5) (oi := _) (dst := some 23) (v := ?_) rfl rfl (by kernel_rfl) (by kernel_rfl) (by kernel_rfl) (fun _ _ _ h => h) (Or.inl ⟨by rfl, by intro w hSw; (try dsimp only at hSw); go_simp; (try with_reducible rfl)⟩) (by assumption) ?_; (try simp only [Act.put, List.setIfInBounds_toArray, List.set_cons_zero, List.set_cons_succ])
      refine take_at (i := 6) (oi := _) (dst := some 24) (v := ?_) rfl rfl (by kernel_rfl) (by kernel_rfl) (by kernel_rfl) (fun _ _ _ h => h) (Or.inl ⟨by rfl, by intro w hSw; (try dsimp only at hSw); go_simp; (try with_reducible rfl)⟩) (by assumption) ?_; (try simp only [Act.put, List.setIfInBounds_toArray, List.set_cons_zero, List.set_cons_succ])
      refine take_at (i := 7) (oi := _) (dst := some 25) (v := ?_) rfl rfl (by kernel_rfl) (by kernel_rfl) (by kernel_rfl) (fun _ _ _ h => h) (Or.inl ⟨by rfl, by intro w hSw; (try dsimp only at hSw); go_simp; (try with_reducible rfl)⟩) (by assumption) ?_; (try simp only [Act.put, List.setIfInBounds_toArray, List.set_cons_zero, List.set_cons_succ])
      refine wpAnyH_ready (rs := [8]) (by kernel_rfl) (by simp) ?_; refine AllReadyH.cons (o := _) rfl (fun K hK => ?_) AllReadyH.nil; go_simp
      refine (sameEnt_any _ _ x _ (HE.out.below hS.2.2) (HE'.out.below hS.2.2) (HF.out x hxm)).mono ?_
      rintro e w3 ⟨rfl, hb3⟩
      refine hK.out _ _ (Ext.below hS hb3) (fun hS3 => ?_)
      clear hK
      refine take_at (i := 9) (oi := _) (dst := some 6) (v := ?_) rfl rfl (by kernel_rfl) (by kernel_rfl) (by kernel_rfl) (fun _ _ _ h => h) (Or.inl ⟨by rfl, by intro w hSw; (try dsimp only at hSw); go_simp; (try with_reducible rfl)⟩) (by assumption) ?_; (try simp only [Act.put, List.setIfInBounds_toArray, List.set_cons_zero, List.set_cons_succ])
      refine wpAnyH_done (by kernel_rfl) ?_ _
      have hbr3 := hbr.trans (hS3.2.2.mono hbr.size)
      clear m0 m1 m2 m3 m4 m5 q0 q1 q2 q3 q4 q5
      go_wp2
      go_roundw
      case rel => exact ⟨j + 1, by go_num, by omega, hbr3⟩
      case measure => simp [intOf]; omega
    · obtain rfl : j = n := by omega
      have b1 : ¬ (j : Int) < (j : Int) := by omega
      go_wp2
      go_ret
      exact ⟨rfl, hbr⟩

/-- A log. -/
def IsLog (w : World) (A B D O : Option Addr) (na nb nd n : Nat) (l k z : List Int) (xs : List Ent) : Prop := IsSnap w A B D na nb nd l k z ∧ IsEs w O n xs
theorem IsLog.below {w w' : World} {A B D O : Option Addr} {na nb nd n : Nat} {l k z : List Int} {xs : List Ent} (h : IsLog w A B D O na nb nd n l k z xs) (hb : Below w.heap.size w w') : IsLog w' A B D O na nb nd n l k z xs := ⟨h.1.below hb, h.2.below hb⟩

set_option maxHeartbeats 1600000 in
theorem sameLog_any (bi bt : Int) (A : Option Addr) (na ca : Nat) (B : Option Addr) (nb cb : Nat) (D : Option Addr) (nd cd : Nat) (O : Option Addr) (n c : Nat) (A' : Option Addr) (ca' : Nat) (B' : Option Addr) (cb' : Nat) (D' : Option Addr) (cd' : Nat) (O' : Option Addr) (c' : Nat) (l k z : List Int) (xs : List Ent) (w : World)
    (h : IsLog w A B D O na nb nd n l k z xs) (h' : IsLog w A' B' D' O' na nb nd n l k z xs) (hf : ∀ x ∈ xs, Fits x) (hn : n ≤ 140737488355328) (hna : na ≤ 140737488355328) (hnb : nb ≤ 140737488355328) :
    Calls Try.prog 12 #[lg bi bt A na ca B nb cb D nd cd O n c, lg bi bt A' na ca' B' nb cb' D' nd cd' O' n c'] w fun e w' => e = .returned (.bool true) ∧ Below w.heap.size w w' := by
  have H := Lib.hid h
  have H' := Lib.hid h'
  clear h h'
  go_enter Try.func12, Try.ntmps12
  go_wp2_with fail
  refine name_calls (fun w1 hw1 => ?_)
  have k2 : Blk w1 w.heap.size [.int .u64 bi, .int .u64 bt, .slice A na ca, .slice B nb cb, .slice D nd cd, .slice O n c] := by rw [hw1]; exact (Blk.new _ _ _ _ rfl).alloc _
  have k3 : Blk w1 (w.heap.size + 1) [.int .u64 bi, .int .u64 bt, .slice A' na ca', .slice B' nb cb', .slice D' nd cd', .slice O' n c'] := by rw [hw1]; exact Blk.new _ _ _ _ (by simp)
  have hb1 : Below w.heap.size w w1 := by rw [hw1]; exact (by (repeat first | refine Below.setCell ?_ (by first | omega | (dsimp only; omega) | (simp only [heap_drew, World.size_alloc, Gz.size_setCell]; omega)) _ | refine Below.alloc ?_ (by first | omega | (dsimp only; omega) | (simp only [heap_drew, World.size_alloc, Gz.size_setCell]; omega)) _ | refine Below.drew ?_); exact Below.refl _ _)
  clear hw1
  refine (sameSnap_any bi bt A B A' B' D D' na ca ca' nb cb cb' nd cd cd' l k z w1 (H.out.1.below hb1) (H'.out.1.below hb1) hna hnb).mono ?_
  rintro e w2 ⟨rfl, hb2⟩
  have c2 := (k2.ext hb2).cell
  have c3 := (k3.ext hb2).cell
  have hb2 := hb1.trans (hb2.mono hb1.size)
  go_wp2_with fail
  refine (sameEnts_any O O' n c c' xs w2 (H.out.2.below hb2) (H'.out.2.below hb2) hf hn).mono ?_
  rintro e w3 ⟨rfl, hb3⟩
  go_wp2
  go_ret
  exact ⟨rfl, hb2.trans (hb3.mono hb2.size)⟩

set_option maxHeartbeats 1600000 in
theorem cloneLog_any (bi bt : Int) (A : Option Addr) (na ca : Nat) (B : Option Addr) (nb cb : Nat) (D : Option Addr) (nd cd : Nat) (O : Option Addr) (n c : Nat) (l k z : List Int) (xs : List Ent) (w : World)
    (h : IsLog w A B D O na nb nd n l k z xs) (hf : ∀ x ∈ xs, Fits x) (hn : n * 96 ≤ 140737488355328) (hna : na * 8 ≤ 140737488355328) (hnb : nb * 8 ≤ 140737488355328) (hnd : nd ≤ 140737488355328) :
    Calls Try.prog 20 #[lg bi bt A na ca B nb cb D nd cd O n c] w fun e w' => Below w.heap.size w w' ∧
      ∃ A' ca' B' cb' D' cd' O' c', e = .returned (lg bi bt A' na ca' B' nb cb' D' nd cd' O' n c') ∧ OwnSnap w' w.heap.size A' B' D' na ca' nb cb' nd cd' l k z ∧ OwnEs w' w.heap.size O' n c' xs := by
  have H := Lib.hid h
  clear h
  go_enter Try.func20, Try.ntmps20
  go_wp2_with fail
  refine name_world (fun w1 hw1 => ?_)
  have k1 : Blk w1 w.heap.size [.int .u64 bi, .int .u64 bt, .slice A na ca, .slice B nb cb, .slice D nd cd, .slice O n c] := by rw [hw1]; exact (Blk.new _ _ _ _ rfl).alloc _
  have k2 : Blk w1 (w.heap.size + 1) [.int .u64 0, .int .u64 0, .slice none 0 0, .slice none 0 0, .slice none 0 0, .slice none 0 0] := by rw [hw1]; exact Blk.new _ _ _ _ (by simp)
  have hb1 : Below w.heap.size w w1 := by rw [hw1]; exact (by (repeat first | refine Below.setCell ?_ (by first | omega | (dsimp only; omega) | (simp only [heap_drew, World.size_alloc, Gz.size_setCell]; omega)) _ | refine Below.alloc ?_ (by first | omega | (dsimp only; omega) | (simp only [heap_drew, World.size_alloc, Gz.size_setCell]; omega)) _ | refine Below.drew ?_); exact Below.refl _ _)
  have hz1 : w1.heap.size = w.heap.size + 2 := by rw [hw1]; simp
  clear hw1
  have c1 := k1.cell
  refine wp_region_phase 7 (S := Ext w1) (by kernel_rfl) rfl (by kernel_rfl) (fun hS => ?_) Ext.start
  simp only [List.take_succ_cons, List.take_zero, List.drop_succ_cons, List.drop_zero]
  refine take_at (i := 0) (oi := _) (dst := some 3) (v := ?_) rfl rfl (by kernel_rfl) (by kernel_rfl) (by kernel_rfl) (fun _ _ _ h => h) (Or.inl ⟨by rfl, by intro w hSw; (try dsimp only at hSw); go_simp; (try with_reducible rfl)⟩) (by assumption) ?_; (try simp only [Act.put, List.setIfInBounds_toArray, List.set_cons_zero, List.set_cons_succ])
  refine take_at (i := 1) (oi := _) (dst := some 4) (v := ?_) rfl rfl (by kernel_rfl) (by kernel_rfl) (by kernel_rfl) (fun _ _ _ h => h) (Or.inl ⟨by rfl, by intro w hSw; (try dsimp only at hSw); go_simp; (try with_reducible rfl)⟩) (by assumption) ?_; (try simp only [Act.put, List.setIfInBounds_toArray, List.set_cons_zero, List.set_cons_succ])
  refine take_at (i := 3) (oi := _) (dst := some 6) (v := ?_) rfl rfl (by kernel_rfl) (by kernel_rfl) (by kernel_rfl) (fun _ _ _ h => h) (Or.inl ⟨by rfl, by intro w hSw; (try dsimp only at hSw); go_simp; (try with_reducible rfl)⟩) (by assumption) ?_; (try simp only [Act.put, List.setIfInBounds_toArray, List.set_cons_zero, List.set_cons_succ])
  refine take_at (i := 4) (oi := _) (dst := some 7) (v := ?_) rfl rfl (by kernel_rfl) (by kernel_rfl) (by kernel_rfl) (fun _ _ _ h => h) (Or.inl ⟨by rfl, by intro w hSw; (try dsimp only at hSw); go_simp; (try with_reducible rfl)⟩) (by assumption) ?_; (try simp only [Act.put, List.setIfInBounds_toArray, List.set_cons_zero, List.set_cons_succ])
  refine wpAnyH_ready (rs := [2]) (by kernel_rfl) (by simp) ?_; refine AllReadyH.cons (o := _) rfl (fun K hK => ?_) AllReadyH.nil; go_simp
  refine (cloneSnap_any bi bt A B D na ca nb cb nd cd l k z _ (H.out.1.below (hb1.trans (hS.2.2.mono hb1.size))) hna hnb hnd).mono ?_
  rintro e w2 ⟨hb2, A2, a2, B2, b2, D2, d2, rfl, ho2⟩
  refine hK.out _ _ (Ext.below hS hb2) (fun hS2 => ?_)
  clear hK
  refine wpAnyH_ready (rs := [5]) (by kernel_rfl) (by simp) ?_; refine AllReadyH.cons (o := _) rfl (fun K hK => ?_) AllReadyH.nil; go_simp
  refine (clones_any O n c xs _ (H.out.2.below (hb1.trans (hS2.2.2.mono hb1.size))) hf hn).mono ?_
  rintro e w3 ⟨hb3, O3, c3, rfl, ho3⟩
  refine hK.out _ _ (Ext.below hS2 hb3) (fun hS3 => ?_)
  clear hK
  refine take_at (i := 6) (oi := _) (dst := some 9) (v := ?_) rfl rfl (by kernel_rfl) (by kernel_rfl) (by kernel_rfl) (fun _ _ _ h => h) (Or.inl ⟨by rfl, by intro w hSw; (try dsimp only at hSw); go_simp; (try with_reducible rfl)⟩) (by assumption) ?_; (try simp only [Act.put, List.setIfInBounds_toArray, List.set_cons_zero, List.set_cons_succ])
  refine wpAnyH_done (by kernel_rfl) ?_ _
  have k2 := k2.below hS3.2.2 (by omega)
  have hb3' : Below w.heap.size w w3 := hb1.trans (hS3.2.2.mono hb1.size)
  have hz3 := hS3.2.2.size
  have hz2 := hS2.2.2.size
  have ho2 := ho2.below hb3
  go_wp2_with (with_reducible refine stop_store ?_)
  refine hide (wpList_store_blk rfl 31 (.tmp 2) (.tmp 9) rfl (w.heap.size + 1) [.int .u64 bi, .int .u64 bt, .slice A2 na a2, .slice B2 nb b2, .slice D2 nd d2, .slice O3 n c3] rfl rfl _ k2 rfl (by kernel_rfl) rfl ?_)
  intro w4 k4 hg4 hz4
  go_wp2
  refine bodyPost_ret (v := lg bi bt A2 na a2 B2 nb b2 D2 nd d2 O3 n c3) ?_ rfl ⟨below_grown hb3' hg4 (by omega) (by omega), A2, a2, B2, b2, D2, d2, O3, c3, rfl, ?_, ?_⟩
  · simp [results, Try.results20, go_sem, k4.cell]
  · have hb : ∀ k, some (w.heap.size + 1) = some k → k < w1.drew.heap.size := fun k hk => by injection hk with hk; simp only [heap_drew]; omega
    exact ⟨⟨(ho2.1.1.grown hg4 hb).lower (by simp only [heap_drew]; omega), (ho2.1.2.grown hg4 hb).lower (by simp only [heap_drew]; omega)⟩, (ho2.2.grown hg4 hb).lower (by simp only [heap_drew]; omega)⟩
  · obtain ⟨zs, q1, q2, q3, q4⟩ := ho3
    exact ⟨zs, q1, q2, (q3.grown hg4 (fun k hk => by injection hk with hk; omega)).lower (by omega), fun z hz => ((q4 z hz).grown hg4 (by omega)).lower (by omega)⟩
end Go.Proofs.Ytglabhfmeinogaa

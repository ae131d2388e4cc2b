/- The document's net: take, Deliver, Drop. -/
import Derived.Test.YtjihiohmemmabaaNRefS
namespace Go.Proofs.Ytjihiohmemmabaa
open Go.RowKit Go.Gz
attribute [local go_sem] World.cell?_alloc_some frozen?_alloc_some

def RTakeIs (w w' : World) (G : Nat → Prop) (r n : Nat) (f : Int → Int → List Pkt) (S : Int → Bool) (a b k : Int) (e : Ending) : Prop := Beside G w w' ∧
  ∃ (cs : List Value) (E : Int) (f' : Int → Int → List Pkt), (cs.length = 4 ∧ ∀ v ∈ cs, v.oneCell' = true) ∧ e = .returned (.tuple #[.agg cs.toArray, .int .i64 E]) ∧ DelF n w' (grow G w w') f a b k cs E f' ∧ (¬ E = 0 → cs = [.int .i64 0, .int .i64 0, .int .i64 0, .slice none 0 0]) ∧ RefIs w' (grow G w w') r n f' S
theorem blkT_row {w : World} {g : Nat} {t : TypeId} (h : BlkT w g t []) (size : Nat) : w.ownsRow 0 t size (.slice (some ⟨g, 0, none⟩) 0 0) 0 [] :=
  ⟨by simp, .inr ⟨g, 0, #[], rfl, Nat.zero_le _, h, Nat.le_refl _, Nat.zero_le _, by simp, by simp⟩⟩
set_option maxHeartbeats 8000000 in
theorem rtake_any (w : World) (G : Nat → Prop) (r n : Nat) (f : Int → Int → List Pkt) (S : Int → Bool) (a b k : Int) (h : RefIs w G r n f S) (hG : ∀ b, G b → b < w.heap.size) (hn : n ≤ 7) (hlen : (f a b).length ≤ 1000) :
    Calls Try.prog 42 #[.pointer (some ⟨r, 0, none⟩), .int .i64 a, .int .i64 b, .int .i64 k] w fun e w' => RTakeIs w w' G r n f S a b k e := by
  obtain ⟨i0, hi, hz0, hz1', hz2'⟩ := info_parts infoPkt
  have H := Lib.hid h
  clear h
  go_enter Try.func42, Try.ntmps42
  go_wp2_with fail
  refine name_calls (fun w1 hw1 => ?_)
  have k8 : Blk w1 w.heap.size [.int .i64 0, .int .i64 0, .int .i64 0, .slice none 0 0] := by rw [hw1]; exact Blk.new _ _ _ _ rfl
  have hb1 : Below w.heap.size w w1 := by rw [hw1]; exact (by (repeat first | refine Below.setCell ?_ (by first | omega | (dsimp only; omega) | (simp only [heap_drew, World.size_alloc, Gz.size_setCell]; omega)) _ | refine Below.alloc ?_ (by first | omega | (dsimp only; omega) | (simp only [heap_drew, World.size_alloc, Gz.size_setCell]; omega)) _ | refine Below.drew ?_); exact Below.refl _ _)
  clear hw1
  refine (link_any w1 G r n f S a b (H.out.below hb1) hn).mono ?_
  rintro e w2 ⟨hb2, hlink⟩
  have k8 := k8.ext hb2
  have k8lt := k8.lt
  have hb2 := hb1.trans (hb2.mono hb1.size)
  rcases hlink with ⟨hok, p, rfl, hp, ha, hb⟩ | ⟨hno, rfl⟩
  rotate_left 1
  · have HNO := Lib.hid hno
    clear hno
    go_wp2_with (with_reducible refine stop_store ?_)
    refine hide (wpList_store_blk rfl 29 (.tmp 8) (.tmp 23) rfl w.heap.size [.int .i64 0, .int .i64 0, .int .i64 0, .slice none 0 0] rfl rfl _ k8 rfl (by kernel_rfl) rfl ?_)
    intro wf k8' hgf hzf
    have hbf := below_grown hb2 hgf (Nat.le_refl _) k8lt
    go_wp2
    refine bodyPost_ret (v := .tuple #[.agg #[.int .i64 0, .int .i64 0, .int .i64 0, .slice none 0 0], .int .i64 31]) ?_ rfl ⟨Beside.of_below hbf, [.int .i64 0, .int .i64 0, .int .i64 0, .slice none 0 0], 31, f, ⟨rfl, zero_one⟩, rfl, .inl ⟨HNO.out, rfl, rfl⟩, (fun _ => rfl), (H.out.below hbf).mono (fun b hb => .inl hb)⟩
    simp [results, Try.results42, go_sem, k8'.cell]
  have HOK := Lib.hid hok
  obtain ⟨B, sd, sl, hr⟩ := H.out
  have hr2 := hr.below hb2
  obtain ⟨kr, kB, ksd, hGs, hsll, hrows, hap⟩ := hr2
  obtain ⟨nn, hnn⟩ : ∃ nn, nn = n * n := ⟨_, rfl⟩
  have hnn49 : n * n ≤ 49 := Nat.mul_le_mul hn hn
  have HP := Lib.hid hp
  rw [← hnn] at kr hp hsll hnn49
  have q3 : (p : Int) < (nn : Int) := by omega
  have HNN := Lib.hid hnn
  clear hnn
  have cr := kr.blk.cell
  have hrow := hrows p HP.out
  rw [← ha, ← hb] at hrow
  obtain ⟨A, c, hsl⟩ := hrow.slice
  obtain ⟨nb, hm⟩ : ∃ m, m = (f a b).length := ⟨_, rfl⟩
  rw [← hm] at hsl hlen
  rw [hsl] at hrow
  have HROW := Lib.hid hrow
  have HSL := Lib.hid hsl
  have HM := Lib.hid hm
  have HA := Lib.hid ha
  have HB := Lib.hid hb
  have cB : w2.cell? ⟨B, p, none⟩ = some (.slice A nb c) := by
    rw [kB.blk.cell p, ← hsl]
    have : p < sl.length := by omega
    simp [this]
  have HR := Lib.hid hr
  clear hok hrows hap hr ha hb hrow hsl hm
  by_cases hk : k < 0
  · have HK := Lib.hid hk
    go_wp2_with (with_reducible refine stop_store ?_)
    refine hide (wpList_store_blk rfl 29 (.tmp 8) (.tmp 38) rfl w.heap.size [.int .i64 0, .int .i64 0, .int .i64 0, .slice none 0 0] rfl rfl _ k8 rfl (by kernel_rfl) rfl ?_)
    intro wf k8' hgf hzf
    have hbf := below_grown hb2 hgf (Nat.le_refl _) k8lt
    go_wp2
    refine bodyPost_ret (v := .tuple #[.agg #[.int .i64 0, .int .i64 0, .int .i64 0, .slice none 0 0], .int .i64 33]) ?_ rfl ⟨Beside.of_below hbf, [.int .i64 0, .int .i64 0, .int .i64 0, .slice none 0 0], 33, f, ⟨rfl, zero_one⟩, rfl, .inr (.inl ⟨HOK.out, .inl HK.out, rfl, rfl⟩), (fun _ => rfl), (H.out.below hbf).mono (fun b hb => .inl hb)⟩
    simp [results, Try.results42, go_sem, k8'.cell]
  by_cases hge : (nb : Int) ≤ k
  · have HGE := Lib.hid hge
    go_wp2_with (with_reducible refine stop_store ?_)
    refine hide (wpList_store_blk rfl 29 (.tmp 8) (.tmp 38) rfl w.heap.size [.int .i64 0, .int .i64 0, .int .i64 0, .slice none 0 0] rfl rfl _ k8 rfl (by kernel_rfl) rfl ?_)
    intro wf k8' hgf hzf
    have hbf := below_grown hb2 hgf (Nat.le_refl _) k8lt
    go_wp2
    refine bodyPost_ret (v := .tuple #[.agg #[.int .i64 0, .int .i64 0, .int .i64 0, .slice none 0 0], .int .i64 33]) ?_ rfl ⟨Beside.of_below hbf, [.int .i64 0, .int .i64 0, .int .i64 0, .slice none 0 0], 33, f, ⟨rfl, zero_one⟩, rfl, .inr (.inl ⟨HOK.out, .inr (by rw [← HM.out]; exact HGE.out), rfl, rfl⟩), (fun _ => rfl), (H.out.below hbf).mono (fun b hb => .inl hb)⟩
    simp [results, Try.results42, go_sem, k8'.cell]
  have hlt : k < (nb : Int) := by omega
  obtain ⟨m, rfl⟩ : ∃ m : Nat, k = m := ⟨k.toNat, by omega⟩
  have hmn : m < nb := by omega
  cases A with
  | none =>
    obtain ⟨zs, h1, h2, _⟩ := HROW.out
    rcases h2.2 with ⟨_, h0⟩ | ⟨gg, cap, cur, hv, _⟩
    · have := HM.out
      rw [← h1, List.length_map] at this
      omega
    · cases hv
  | some ad =>
  obtain ⟨x, D, dc, hx, hrd, p0, p1, p2, p3⟩ := HROW.out.at (j := m) (by rw [← HM.out]; exact hmn)
  have HX := Lib.hid hx
  have HRD := Lib.hid hrd
  clear hx hrd
  go_wp2_with (with_reducible refine stop_store ?_)
  refine hide (name_list (fun w3 hw3 => ?_))
  have hb23 : Below w2.heap.size w2 w3 := by rw [hw3]; exact (by (repeat first | refine Below.setCell ?_ (by first | omega | (dsimp only; omega) | (simp only [heap_drew, World.size_alloc, Gz.size_setCell]; omega)) _ | refine Below.alloc ?_ (by first | omega | (dsimp only; omega) | (simp only [heap_drew, World.size_alloc, Gz.size_setCell]; omega)) _ | refine Below.drew ?_); exact Below.refl _ _)
  have k12 : Blk w3 w2.heap.size [.int .i64 0, .int .i64 0, .int .i64 0, .slice none 0 0] := by rw [hw3]; exact Blk.new _ _ _ _ rfl
  have hz3 : w3.heap.size = w2.heap.size + 1 := by rw [hw3]; simp
  clear hw3
  refine hide (wpList_store_blk rfl 29 (.tmp 12) (.tmp 48) rfl w2.heap.size [.int .i64 x.1, .int .i64 x.2.1, .int .i64 x.2.2.1, .slice D x.2.2.2.length dc] rfl rfl _ k12 rfl (by kernel_rfl) rfl ?_)
  intro w4 k12 hg4 hz4
  have hb24 := below_grown hb23 hg4 (Nat.le_refl _) (by omega)
  have k8 := k8.ext hb24
  have hb4 := hb2.trans (hb24.mono hb2.size)
  have kr := kr.below hb24
  have kB := kB.below hb24
  have HR4 := Lib.hid (HR.out.below hb4)
  have hsz4 := hb4.size
  have hsz24 := hb24.size
  have hsz25 : w2.heap.size < w4.heap.size := by omega
  clear cr cB hg4 hz4 hb23 p0 p1 p2 p3
  have cr := kr.blk.cell
  have cB : w4.cell? ⟨B, p, none⟩ = some (.slice (some ad) nb c) := by
    rw [kB.blk.cell p, ← HSL.out]
    have : p < sl.length := by omega
    simp [this]
  have hcap : nb ≤ c := by
    obtain ⟨zs, _, h2, _⟩ := HROW.out
    rcases h2.2 with ⟨hv, h0⟩ | ⟨g, cap, cur, hv, _, _, hc, _⟩
    · cases hv
    · injection hv with _ h3 h4
      omega
  have hs1 := run_slice_high (P := Try.prog) 40 29 i0 Try.underlying40 hi .i64 (some ad) nb c m (by omega)
  go_wp2_with (with_reducible refine stop_at (d := 59) ?_)
  refine hide (name_list (fun w5 hw5 => ?_))
  have hb45 : Below w4.heap.size w4 w5 := by rw [hw5]; exact below_alloc_one _ _
  have k7 : BlkT w5 w4.heap.size 29 [] := by rw [hw5]; exact BlkT.new _ _ _
  have hz5 : w5.heap.size = w4.heap.size + 1 := by rw [hw5]; simp
  clear hw5 cr cB hs1
  obtain ⟨zs, q1, q2, q3', q4⟩ := HR4.out.2.2.2.2.2.1 p HP.out
  have hzl : zs.length = nb := by
    have h1 : zs.length = (f ((p / n : Nat) + 1) ((p % n : Nat) + 1)).length := by rw [← q1, List.length_map]
    rw [h1, HM.out, HA.out, HB.out]
  rw [hzl, HSL.out] at q2
  have hk4 : ∀ z ∈ zs, z.1.length = 4 := fun z hz => (q4 z hz).len
  have hq5 := row_blocks (w' := w5) q2 (fun g e => hb45.block g (by
    have := hG g (q3' g (by rw [HSL.out]; exact e)); omega))
  have hst := (ownsRow_sl hq5).take (k := m) (by omega)
  rw [flat_take _ 4 zs hk4] at hst
  have Q1 := Lib.hid q1
  have Q2 := Lib.hid q2
  have Q3 := Lib.hid q3'
  have Q4 := Lib.hid q4
  have K4 := Lib.hid hk4
  clear q1 q2 q3' q4 hk4 hq5
  refine hide (wpList_append_at rfl (.tmp 49) (.tmp 58) 40 rfl 29 i0 _ 4 48 Try.underlying40 hi hz0 hz1' hz2' rfl (by omega) (some ⟨w4.heap.size, 0, none⟩) 0 0 [] rfl (blkT_row k7 4) ad m c _ rfl hst (fun u hu => by obtain ⟨z, hz, hu⟩ := List.mem_flatMap.1 hu; exact (Q4.out z (List.mem_of_mem_take hz)).one u hu) (by omega) (by omega) ?_)
  intro A8 c8 w8 ho8 hg8 hv8
  rw [Nat.zero_add, List.nil_append] at ho8
  rw [Nat.zero_add] at hv8 ⊢
  have hb48 := below_grown hb45 hg8 (Nat.le_refl _) k7.lt
  have hz8 := hb48.size
  have k8 := k8.ext hb48
  have k12 := k12.ext hb48
  have kr := kr.below hb48
  have kB := kB.below hb48
  have hv8' : ∀ q, (Value.slice A8 m c8).ownBlock = some q → w4.heap.size ≤ q := fun q e => by
    rcases hv8 with h | h
    · rw [h] at e
      simp only [Value.ownBlock, Option.some.injEq] at e
      omega
    · rw [h] at e
      injection e with e
      omega
  have HV8 := Lib.hid hv8'
  clear hg8 hv8 hv8' hst k7
  have hs2 := run_slice_low (P := Try.prog) 40 29 i0 4 Try.underlying40 hi hz1' .i64 (some ad) nb c (m + 1) (by omega)
  obtain ⟨sd2, hsd2⟩ : ∃ sd2, cutA (some ad) c (m + 1) 4 = some sd2 := by unfold cutA; split <;> exact ⟨_, rfl⟩
  rw [hsd2] at hs2
  simp only [Int.natCast_add, Int.cast_ofNat_Int] at hs2
  have hw1 : IntKind.i64.wrap ((m : Int) + 1) = (m : Int) + 1 := IntWalk.i64_in _ ⟨by omega, by omega⟩
  have hr8 := row_blocks (w' := w8) Q2.out (fun g e => hb48.block g (by
    have := hG g (Q3.out g (by rw [HSL.out]; exact e)); omega))
  have hct := (ownsRow_sl hr8).cut (c := c) (k := m + 1) (by omega) hcap
  rw [flat_drop _ 4 zs K4.out, hsd2] at hct
  have HCT := Lib.hid hct
  clear hr8 hct hsd2
  have MKS := Lib.hid (show ∀ W, BlkT W r 72 [.int .i64 n, .slice (some ⟨B, 0, none⟩) nn nn, .slice (some ⟨sd, 0, none⟩) n n] → BlkT W B 40 sl →
      (∀ q, W.cell? ⟨r, q, none⟩ = ([.int .i64 n, .slice (some ⟨B, 0, none⟩) nn nn, .slice (some ⟨sd, 0, none⟩) n n] : List Value)[q]?) ∧ W.cell? ⟨B, p, none⟩ = some (.slice (some ad) nb c) from fun W a b => ⟨a.blk.cell, by
        rw [b.blk.cell p, ← HSL.out]
        have : p < sl.length := by omega
        simp [this]⟩)
  go_wp2_with fail
  refine wp_region_phase 17 (S := fun W => (∀ q, W.cell? ⟨r, q, none⟩ = ([.int .i64 n, .slice (some ⟨B, 0, none⟩) nn nn, .slice (some ⟨sd, 0, none⟩) n n] : List Value)[q]?) ∧ W.cell? ⟨B, p, none⟩ = some (.slice (some ad) nb c)) (by kernel_rfl) rfl (by kernel_rfl) (fun hS => ?_) (MKS.out _ (blkT_drew kr) (blkT_drew kB))
  simp only [List.take_succ_cons, List.take_zero, List.drop_succ_cons, List.drop_zero]
  refine take_at (i := 0) (oi := _) (dst := some 60) (v := ?_) rfl rfl (by kernel_rfl) (by kernel_rfl) (by kernel_rfl) (fun _ _ _ h => h) (Or.inl ⟨by rfl, by intro w hSw; (try dsimp only at hSw); go_simp; (try with_reducible rfl)⟩) (by assumption) ?_; (try simp only [Act.put, List.setIfInBounds_toArray, List.set_cons_zero, List.set_cons_succ])
  refine take_at (i := 1) (oi := _) (dst := some 61) (v := ?_) rfl rfl (by kernel_rfl) (by kernel_rfl) (by kernel_rfl) (fun _ _ _ h => h) (Or.inl ⟨by rfl, by intro w hSw; (try dsimp only at hSw); go_simp; (try with_reducible rfl)⟩) (by assumption) ?_; (try simp only [Act.put, List.setIfInBounds_toArray, List.set_cons_zero, List.set_cons_succ])
  refine take_at (i := 2) (oi := _) (dst := some 62) (v := ?_) rfl rfl (by kernel_rfl) (by kernel_rfl) (by kernel_rfl) (fun _ _ _ h => h) (Or.inl ⟨by rfl, by intro w hSw; (try dsimp only at hSw); go_simp; (try with_reducible rfl)⟩) (by assumption) ?_; (try simp only [Act.put, List.setIfInBounds_toArray, List.set_cons_zero, List.set_cons_succ])
  refine take_at (i := 3) (oi := _) (dst := some 63) (v := ?_) rfl rfl (by kernel_rfl) (by kernel_rfl) (by kernel_rfl) (fun _ _ _ h => h) (Or.inl ⟨by rfl, by intro w hSw; (try dsimp only at hSw); go_simp; (try with_reducible rfl)⟩) (by assumption) ?_; (try simp only [Act.put, List.setIfInBounds_toArray, List.set_cons_zero, List.set_cons_succ])
  refine take_at (i := 4) (oi := _) (dst := some 64) (v := ?_) rfl rfl (by kernel_rfl) (by kernel_rfl) (by kernel_rfl) (fun _ _ _ h => h) (Or.inl ⟨by rfl, by intro w hSw; (try dsimp only at hSw); go_simp; (try with_reducible rfl)⟩) (by assumption) ?_; (try simp only [Act.put, List.setIfInBounds_toArray, List.set_cons_zero, List.set_cons_succ])
  refine take_at (i := 5) (oi := _) (dst := some 65) (v := ?_) rfl rfl (by kernel_rfl) (by kernel_rfl) (by kernel_rfl) (fun _ _ _ h => h) (Or.inl ⟨by rfl, by intro w hSw; (try dsimp only at hSw); go_simp; (try with_reducible rfl)⟩) (by assumption) ?_; (try simp only [Act.put, List.setIfInBounds_toArray, List.set_cons_zero, List.set_cons_succ])
  refine take_at (i := 6) (oi := _) (dst := some 66) (v := ?_) rfl rfl (by kernel_rfl) (by kernel_rfl) (by kernel_rfl) (fun _ _ _ h => h) (Or.inl ⟨by rfl, by intro w hSw; (try dsimp only at hSw); go_simp; (try with_reducible rfl)⟩) (by assumption) ?_; (try simp only [Act.put, List.setIfInBounds_toArray, List.set_cons_zero, List.set_cons_succ])
  refine take_at (i := 7) (oi := _) (dst := some 67) (v := ?_) rfl rfl (by kernel_rfl) (by kernel_rfl) (by kernel_rfl) (fun _ _ _ h => h) (Or.inl ⟨by rfl, by intro w hSw; (try dsimp only at hSw); go_simp; (try with_reducible rfl)⟩) (by assumption) ?_; (try simp only [Act.put, List.setIfInBounds_toArray, List.set_cons_zero, List.set_cons_succ])
  refine take_at (i := 8) (oi := _) (dst := some 68) (v := ?_) rfl rfl (by kernel_rfl) (by kernel_rfl) (by kernel_rfl) (fun _ _ _ h => h) (Or.inl ⟨by rfl, by intro w hSw; (try dsimp only at hSw); go_simp; (try with_reducible rfl)⟩) (by assumption) ?_; (try simp only [Act.put, List.setIfInBounds_toArray, List.set_cons_zero, List.set_cons_succ])
  refine take_at (i := 9) (oi := _) (dst := some 69) (v := ?_) rfl rfl (by kernel_rfl) (by kernel_rfl) (by kernel_rfl) (fun _ _ _ h => h) (Or.inl ⟨by rfl, by intro w hSw; (try dsimp only at hSw); go_simp; (try with_reducible rfl)⟩) (by assumption) ?_; (try simp only [Act.put, List.setIfInBounds_toArray, List.set_cons_zero, List.set_cons_succ])
  refine take_at (i := 10) (oi := _) (dst := some 70) (v := ?_) rfl rfl (by kernel_rfl) (by kernel_rfl) (by kernel_rfl) (fun _ _ _ h => h) (Or.inl ⟨by rfl, by intro w hSw; (try dsimp only at hSw); go_simp; (try with_reducible rfl)⟩) (by assumption) ?_; (try simp only [Act.put, List.setIfInBounds_toArray, List.set_cons_zero, List.set_cons_succ])
  refine take_at (i := 11) (oi := _) (dst := some 71) (v := ?_) rfl rfl (by kernel_rfl) (by kernel_rfl) (by kernel_rfl) (fun _ _ _ h => h) (Or.inl ⟨by rfl, by intro w hSw; (try dsimp only at hSw); go_simp; (try with_reducible rfl)⟩) (by assumption) ?_; (try simp only [Act.put, List.setIfInBounds_toArray, List.set_cons_zero, List.set_cons_succ])
  refine take_at (i := 12) (oi := _) (dst := some 72) (v := ?_) rfl rfl (by kernel_rfl) (by kernel_rfl) (by kernel_rfl) (fun _ _ _ h => h) (Or.inl ⟨by rfl, by intro w hSw; (try dsimp only at hSw); go_simp; (try with_reducible rfl)⟩) (by assumption) ?_; (try simp only [Act.put, List.setIfInBounds_toArray, List.set_cons_zero, List.set_cons_succ])
  refine take_at (i := 13) (oi := _) (dst := some 73) (v := ?_) rfl rfl (by kernel_rfl) (by kernel_rfl) (by kernel_rfl) (fun _ _ _ h => h) (Or.inl ⟨by rfl, by intro w hSw; (try dsimp only at hSw); go_simp; (try with_reducible rfl)⟩) (by assumption) ?_; (try simp only [Act.put, List.setIfInBounds_toArray, List.set_cons_zero, List.set_cons_succ])
  refine take_at (i := 14) (oi := _) (dst := some 74) (v := ?_) rfl rfl (by kernel_rfl) (by kernel_rfl) (by kernel_rfl) (fun _ _ _ h => h) (Or.inl ⟨by rfl, by intro w hSw; (try dsimp only at hSw); go_simp; (try with_reducible rfl)⟩) (by assumption) ?_; (try simp only [Act.put, List.setIfInBounds_toArray, List.set_cons_zero, List.set_cons_succ])
  refine take_at (i := 15) (oi := _) (dst := some 75) (v := ?_) rfl rfl (by kernel_rfl) (by kernel_rfl) (by kernel_rfl) (fun _ _ _ h => h) (Or.inl ⟨by rfl, by intro w hSw; (try dsimp only at hSw); go_simp; (try with_reducible rfl)⟩) (by assumption) ?_; (try simp only [Act.put, List.setIfInBounds_toArray, List.set_cons_zero, List.set_cons_succ])
  refine wpAnyH_ready (rs := [16]) (by kernel_rfl) (by simp) ?_; refine AllReadyH.cons (o := _) rfl (fun K hK => ?_) AllReadyH.nil
  refine step_append_at (some 76) rfl rfl (.tmp 65) (.tmp 75) 40 rfl 29 i0 _ 4 48 Try.underlying40 hi hz0 hz1' hz2' rfl (by omega) A8 m c8 _ rfl (show w8.drew.ownsRow 0 29 4 (.slice A8 m c8) m _ from ho8) sd2 (nb - (m + 1)) (c - (m + 1)) _ rfl (show SlA w8.drew 4 _ _ _ from HCT.out) (fun u hu => by obtain ⟨z, hz, hu⟩ := List.mem_flatMap.1 hu; exact (Q4.out z (List.mem_of_mem_drop hz)).one u hu) (by omega) (by omega) ?_
  intro A9 c9 w9 ho9 hg9 hv9
  have hb89 : Below w4.heap.size w8 w9 := (Below.refl _ _).drew.grown hg9 (by simp only [heap_drew]; omega) (fun q e => HV8.out q e)
  have hb49 := hb48.trans (hb89)
  have hz9 := hb89.size
  have hGr := hG r hGs.1
  have hGB := hG B hGs.2.1
  have k8 := k8.below hb89 (by omega)
  have k12 := k12.below hb89 (by omega)
  have kr : BlkT w9 r _ _ := (hb89.block r (by omega)).trans kr
  have kB : BlkT w9 B _ _ := (hb89.block B (by omega)).trans kB
  refine hK.out _ _ (MKS.out _ kr kB) (fun hS6 => ?_)
  clear hK hS
  refine wpAnyH_done (by kernel_rfl) ?_ _
  go_wp2_with (with_reducible refine stop_store ?_)
  refine hide (wpList_store_partT rfl 40 (.tmp 77) (.tmp 76) rfl B p 40 _ [.slice A9 (m + (nb - (m + 1))) c9] rfl rfl rfl sl kB (by simp; omega) (by kernel_rfl) rfl _ (list_set_take (by omega)) ?_)
  intro w10 kB10 hg10 hz10
  clear hS6
  have k8 := blk_grown k8 hg10 (by omega)
  have k12 := blk_grown k12 hg10 (by omega)
  have c12 := k12.cell
  go_wp2_with (with_reducible refine stop_store ?_)
  refine hide (wpList_store_blk rfl 29 (.tmp 8) (.tmp 78) rfl w.heap.size [.int .i64 x.1, .int .i64 x.2.1, .int .i64 x.2.2.1, .slice D x.2.2.2.length dc] rfl rfl _ k8 rfl (by kernel_rfl) rfl ?_)
  intro w11 k8' hg11 hz11
  go_wp2
  have hbes : Beside G w w11 := by
    refine (Beside.of_below hb4).trans ((Beside.of_below hb49).trans ((Beside.of_grown hg10 (fun q e => ?_)).trans (Beside.of_grown hg11 (fun q e => ?_))))
    · injection e with e
      subst e
      exact .inl (.inl (.inl hGs.2.1))
    · injection e with e
      subst e
      exact .inl (.inl (.inl (.inr ⟨Nat.le_refl _, by omega⟩)))
  have hv' : ∀ q, (Value.slice A9 (m + (nb - (m + 1))) c9).ownBlock = some q → w4.heap.size ≤ q := fun q e => by
    rcases hv9 with h | h
    · exact HV8.out q (h ▸ e)
    · rw [h] at e
      injection e with e
      simp only [heap_drew] at e
      omega
  have hset := ref_set (w6 := w9) (w7 := w10) (G' := fun b => G b ∨ (w4.heap.size ≤ b ∧ b < w10.heap.size)) (v' := .slice A9 (m + (nb - (m + 1))) c9) (zs' := zs.take m ++ zs.drop (m + 1)) HR4.out HP.out (fun _ h => .inl h) (fun b hb => Nat.lt_of_lt_of_le (hG b hb) hsz4) ((below_grownBy hb49).but _) (by simpa [hzl, List.length_take, Nat.min_eq_left (Nat.le_of_lt hmn)] using ho9) (fun q e => ⟨.inr ⟨hv' q e, by have := (ho9.lt q e).2; omega⟩, .inr (hv' q e)⟩) (fun z hz => ?_) hg10 kB10
  · refine bodyPost_ret (v := .tuple #[.agg #[.int .i64 x.1, .int .i64 x.2.1, .int .i64 x.2.2.1, .slice D x.2.2.2.length dc], .int .i64 0]) ?_ rfl ⟨hbes, [.int .i64 x.1, .int .i64 x.2.1, .int .i64 x.2.2.1, .slice D x.2.2.2.length dc], 0, _, ⟨rfl, HRD.out.one⟩, rfl, .inr (.inr ⟨HOK.out, m, x, rfl, HX.out, ?_, rfl, rfl⟩), (fun h => absurd rfl h), ?_⟩
    · simp [results, Try.results42, go_sem, k8'.cell]
    · exact ((((HRD.out.grown (Spared.of_below hb24)).grown (Spared.of_below hb49)).same (same_of_cells hg10 kB) (by decide)).grown ⟨_, hg11, fun q e hh => by injection e with e; subst e; exact Nat.lt_irrefl _ (hG _ hh)⟩).mono (fun _ h => .inl h)
    · have e1 : updF f ((p / n : Nat) + 1) ((p % n : Nat) + 1) ((zs.take m ++ zs.drop (m + 1)).map (·.2)) = updF f a b ((f a b).eraseIdx m) := by
        rw [List.map_append, List.map_take, List.map_drop, Q1.out, ← HA.out, ← HB.out, List.eraseIdx_eq_take_drop_succ]
      rw [e1] at hset
      refine RefIs.mono (G := fun b => G b ∨ (w4.heap.size ≤ b ∧ b < w10.heap.size)) ⟨B, sd, _, hset.grown ⟨_, hg11, fun q e hh => ?_⟩⟩ (fun q hh => hh.imp id (fun hh => ⟨by omega, by omega⟩))
      injection e with e
      subst e
      rcases hh with hh | hh
      · exact Nat.lt_irrefl _ (hG _ hh)
      · omega
  · have hz4 : RdP w4 G z.1 z.2 := by
      rcases List.mem_append.1 hz with h | h
      · exact Q4.out z (List.mem_of_mem_take h)
      · exact Q4.out z (List.mem_of_mem_drop h)
    exact (hz4.grown (Spared.of_below hb49)).mono (fun _ h => .inl h)

set_option maxHeartbeats 1600000 in
theorem rdeliver_any (w : World) (G : Nat → Prop) (r n : Nat) (f : Int → Int → List Pkt) (S : Int → Bool) (a b k : Int) (h : RefIs w G r n f S) (hG : ∀ b, G b → b < w.heap.size) (hn : n ≤ 7) (hlen : (f a b).length ≤ 1000) :
    Calls Try.prog 30 #[.pointer (some ⟨r, 0, none⟩), .int .i64 a, .int .i64 b, .int .i64 k] w fun e w' => RTakeIs w w' G r n f S a b k e := by
  have H := Lib.hid h
  clear h
  go_enter Try.func30, Try.ntmps30
  go_wp2_with fail
  refine name_calls (fun w1 hw1 => ?_)
  have k8 : Blk w1 w.heap.size [.int .i64 0, .int .i64 0, .int .i64 0, .slice none 0 0] := by rw [hw1]; exact Blk.new _ _ _ _ rfl
  have hb1 : Below w.heap.size w w1 := by rw [hw1]; exact (by (repeat first | refine Below.setCell ?_ (by first | omega | (dsimp only; omega) | (simp only [heap_drew, World.size_alloc, Gz.size_setCell]; omega)) _ | refine Below.alloc ?_ (by first | omega | (dsimp only; omega) | (simp only [heap_drew, World.size_alloc, Gz.size_setCell]; omega)) _ | refine Below.drew ?_); exact Below.refl _ _)
  have hz1 : w1.heap.size = w.heap.size + 1 := by rw [hw1]; simp
  clear hw1
  refine (rtake_any w1 G r n f S a b k (H.out.below hb1) (fun q hq => Nat.lt_of_lt_of_le (hG q hq) hb1.size) hn hlen).mono ?_
  rintro e w2 ⟨hbes, cs, E, f', ⟨hl, hone⟩, rfl, hdel, hzz, hnet⟩
  have HZZ := Lib.hid hzz
  clear hzz
  have k8 := hbes.blk k8 (fun hh => Nat.lt_irrefl _ (hG _ hh))
  have hz2 := hbes.size
  have HD := Lib.hid hdel
  have HNT := Lib.hid hnet
  have HONE := Lib.hid hone
  clear hdel hnet hone
  match cs, hl with
  | [c0, c1, c2, c3], _ =>
  go_wp2_with (with_reducible refine stop_store ?_)
  refine hide (wpList_store_blk rfl 29 (.tmp 8) (.tmp 15) rfl w.heap.size [c0, c1, c2, c3] rfl rfl _ k8 rfl (by kernel_rfl) (List.all_eq_true.2 HONE.out) ?_)
  intro w3 k8' hg3 hz3
  go_wp2
  have hsp : Spared (grow G w1 w2) w2 w3 := ⟨_, hg3, fun q e hh => by
    injection e with e
    subst e
    rcases hh with hh | hh
    · exact Nat.lt_irrefl _ (hG _ hh)
    · omega⟩
  have hup : ∀ q, grow G w1 w2 q → grow G w w3 q := fun q hh => hh.imp id (fun hh => ⟨by omega, by omega⟩)
  refine bodyPost_ret (v := .tuple #[.agg #[c0, c1, c2, c3], .int .i64 E]) ?_ rfl ⟨?_, [c0, c1, c2, c3], E, f', ⟨rfl, HONE.out⟩, rfl, ?_, HZZ.out, (HNT.out.grown hsp).mono hup⟩
  · simp [results, Try.results30, go_sem, k8'.cell]
  · refine (Beside.after hb1 hbes).trans (Beside.of_grown hg3 (fun q e => ?_))
    injection e with e
    subst e
    exact .inl (.inr ⟨Nat.le_refl _, by omega⟩)
  · rcases HD.out with h | h | ⟨h1, m, x, h2, h3, h4, h5, h6⟩
    · exact .inl h
    · exact .inr (.inl h)
    · exact .inr (.inr ⟨h1, m, x, h2, h3, (h4.grown hsp).mono hup, h5, h6⟩)
def RDropIs (w w' : World) (G : Nat → Prop) (r n : Nat) (f : Int → Int → List Pkt) (S : Int → Bool) (a b k : Int) (e : Ending) : Prop := Beside G w w' ∧
  ∃ (E : Int) (f' : Int → Int → List Pkt), e = .returned (.int .i64 E) ∧ DropF n f a b k E f' ∧ RefIs w' (grow G w w') r n f' S
set_option maxHeartbeats 1600000 in
theorem rdrop_any (w : World) (G : Nat → Prop) (r n : Nat) (f : Int → Int → List Pkt) (S : Int → Bool) (a b k : Int) (h : RefIs w G r n f S) (hG : ∀ b, G b → b < w.heap.size) (hn : n ≤ 7) (hlen : (f a b).length ≤ 1000) :
    Calls Try.prog 31 #[.pointer (some ⟨r, 0, none⟩), .int .i64 a, .int .i64 b, .int .i64 k] w fun e w' => RDropIs w w' G r n f S a b k e := by
  have H := Lib.hid h
  clear h
  go_enter Try.func31, Try.ntmps31
  go_wp2_with fail
  refine (rtake_any w G r n f S a b k H.out hG hn hlen).mono ?_
  rintro e w1 ⟨hbes, cs, E, f', ⟨hl, hone⟩, rfl, hdel, _, hnet⟩
  have HD := Lib.hid hdel
  have HNT := Lib.hid hnet
  have HONE := Lib.hid hone
  clear hdel hnet hone
  match cs, hl with
  | [c0, c1, c2, c3], _ =>
  go_wp2_with (with_reducible refine stop_store ?_)
  refine hide (name_list (fun w2 hw2 => ?_))
  have hb12 : Below w1.heap.size w1 w2 := by rw [hw2]; exact (by (repeat first | refine Below.setCell ?_ (by first | omega | (dsimp only; omega) | (simp only [heap_drew, World.size_alloc, Gz.size_setCell]; omega)) _ | refine Below.alloc ?_ (by first | omega | (dsimp only; omega) | (simp only [heap_drew, World.size_alloc, Gz.size_setCell]; omega)) _ | refine Below.drew ?_); exact Below.refl _ _)
  have k9 : Blk w2 w1.heap.size [.int .i64 0, .int .i64 0, .int .i64 0, .slice none 0 0] := by rw [hw2]; exact Blk.new _ _ _ _ rfl
  have hz2 : w2.heap.size = w1.heap.size + 1 := by rw [hw2]; simp
  clear hw2
  refine hide (wpList_store_blk rfl 29 (.tmp 9) (.tmp 17) rfl w1.heap.size [c0, c1, c2, c3] rfl rfl _ k9 rfl (by kernel_rfl) (List.all_eq_true.2 HONE.out) ?_)
  intro w3 k9' hg3 hz3
  have hb13 := below_grown hb12 hg3 (Nat.le_refl _) (by omega)
  have hz13 := hb13.size
  clear hg3 hz3 k9 k9'
  go_wp2
  go_ret
  have hmono : ∀ q, grow G w w1 q → grow G w w3 q := fun q hq => hq.imp id (fun hh => ⟨hh.1, by omega⟩)
  refine ⟨hbes.trans (Beside.of_below hb13), E, f', rfl, ?_, (HNT.out.below hb13).mono hmono⟩
  rcases HD.out with h | h | ⟨h1, m, x, h2, h3, _, h4, h5⟩
  · exact .inl h
  · exact .inr (.inl h)
  · exact .inr (.inr ⟨h1, m, h2, (List.getElem?_eq_some_iff.1 h3).1, h4, h5⟩)
end Go.Proofs.Ytjihiohmemmabaa

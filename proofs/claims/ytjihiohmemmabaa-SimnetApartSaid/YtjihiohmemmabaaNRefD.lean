/- The document's net: Double. -/
import Derived.Test.YtjihiohmemmabaaNRefT
namespace Go.Proofs.Ytjihiohmemmabaa
open Go.RowKit Go.Gz
attribute [local go_sem] World.cell?_alloc_some frozen?_alloc_some

def RDoubIs (w w' : World) (G : Nat → Prop) (r n : Nat) (f : Int → Int → List Pkt) (S : Int → Bool) (a b k : Int) (e : Ending) : Prop := Beside G w w' ∧
  ∃ (E : Int) (f' : Int → Int → List Pkt), e = .returned (.int .i64 E) ∧ DoubF n f a b k E f' ∧ RefIs w' (grow G w w') r n f' S
set_option maxHeartbeats 8000000 in
theorem rdouble_any (w : World) (G : Nat → Prop) (r n : Nat) (f : Int → Int → List Pkt) (S : Int → Bool) (a b k : Int) (h : RefIs w G r n f S) (hG : ∀ b, G b → b < w.heap.size) (hn : n ≤ 7) (hlen : (f a b).length ≤ 1000) (hfit : ∀ x ∈ f a b, x.2.2.2.length ≤ 140737488355328) :
    Calls Try.prog 32 #[.pointer (some ⟨r, 0, none⟩), .int .i64 a, .int .i64 b, .int .i64 k] w fun e w' => RDoubIs w w' G r n f S a b k e := by
  obtain ⟨i0, hi, hz0, hz1', hz2'⟩ := info_parts infoPkt
  have H := Lib.hid h
  have HFIT := Lib.hid hfit
  clear h hfit
  go_enter Try.func32, Try.ntmps32
  go_wp2_with fail
  refine (link_any w G r n f S a b H.out hn).mono ?_
  rintro e w2 ⟨hb2, hlink⟩
  rcases hlink with ⟨hok, p, rfl, hp, ha, hb⟩ | ⟨hno, rfl⟩
  rotate_left 1
  · have HNO := Lib.hid hno
    clear hno
    go_wp2
    go_ret
    exact ⟨Beside.of_below hb2, 31, f, rfl, .inl ⟨HNO.out, rfl, rfl⟩, (H.out.below hb2).mono (fun b hb => .inl hb)⟩
  have HOK := Lib.hid hok
  obtain ⟨B, sd, sl, hr⟩ := H.out
  have hr2 := hr.below hb2
  obtain ⟨kr, kB, ksd, hGs, hsll, hrows, hap⟩ := hr2
  obtain ⟨nn, hnn⟩ : ∃ nn, nn = n * n := ⟨_, rfl⟩
  have hnn49 : n * n ≤ 49 := Nat.mul_le_mul hn hn
  have HP := Lib.hid hp
  rw [← hnn] at kr hp hsll hnn49
  have q3 : (p : Int) < (nn : Int) := by omega
  have HNN := Lib.hid hnn
  clear hnn
  have cr := kr.blk.cell
  have hrow := hrows p HP.out
  rw [← ha, ← hb] at hrow
  obtain ⟨A, c, hsl⟩ := hrow.slice
  obtain ⟨nb, hm⟩ : ∃ m, m = (f a b).length := ⟨_, rfl⟩
  rw [← hm] at hsl hlen
  rw [hsl] at hrow
  have HROW := Lib.hid hrow
  have HSL := Lib.hid hsl
  have HM := Lib.hid hm
  have HA := Lib.hid ha
  have HB := Lib.hid hb
  have cB : w2.cell? ⟨B, p, none⟩ = some (.slice A nb c) := by
    rw [kB.blk.cell p, ← hsl]
    have : p < sl.length := by omega
    simp [this]
  have HR := Lib.hid hr
  clear hok hrows hap hr ha hb hrow hsl hm
  by_cases hk : k < 0
  · have HK := Lib.hid hk
    go_wp2
    go_ret
    exact ⟨Beside.of_below hb2, 33, f, rfl, .inr (.inl ⟨HOK.out, .inl HK.out, rfl, rfl⟩), (H.out.below hb2).mono (fun b hb => .inl hb)⟩
  by_cases hge : (nb : Int) ≤ k
  · have HGE := Lib.hid hge
    go_wp2
    go_ret
    exact ⟨Beside.of_below hb2, 33, f, rfl, .inr (.inl ⟨HOK.out, .inr (by rw [← HM.out]; exact HGE.out), rfl, rfl⟩), (H.out.below hb2).mono (fun b hb => .inl hb)⟩
  have hlt : k < (nb : Int) := by omega
  obtain ⟨m, rfl⟩ : ∃ m : Nat, k = m := ⟨k.toNat, by omega⟩
  have hmn : m < nb := by omega
  cases A with
  | none =>
    obtain ⟨zs, h1, h2, _⟩ := HROW.out
    rcases h2.2 with ⟨_, h0⟩ | ⟨gg, cap, cur, hv, _⟩
    · have := HM.out
      rw [← h1, List.length_map] at this
      omega
    · cases hv
  | some ad =>
  obtain ⟨x, D, dc, hx, hrd, p0, p1, p2, p3⟩ := HROW.out.at (j := m) (by rw [← HM.out]; exact hmn)
  have HX := Lib.hid hx
  have HRD := Lib.hid hrd
  clear hx hrd
  by_cases h64 : 64 ≤ nb
  · have b64 : (64 : Int) ≤ (nb : Int) := by omega
    have HGE := Lib.hid (show 64 ≤ (f a b).length by rw [← HM.out]; exact h64)
    clear p0 p1 p2 p3
    go_wp2
    go_ret
    exact ⟨Beside.of_below hb2, 32, f, rfl, .inr (.inr ⟨HOK.out, m, x, rfl, HX.out, .inl ⟨HGE.out, rfl, rfl⟩⟩), (H.out.below hb2).mono (fun b hb => .inl hb)⟩
  have b64 : ¬ (64 : Int) ≤ (nb : Int) := by omega
  go_wp2_with fail
  clear cr cB q3 b64
  have hGr := hG r hGs.1
  have hGB := hG B hGs.2.1
  have hwz := hb2.size
  have MKS := Lib.hid (show ∀ W, BlkT W r 72 [.int .i64 n, .slice (some ⟨B, 0, none⟩) nn nn, .slice (some ⟨sd, 0, none⟩) n n] → BlkT W B 40 sl →
      (∀ q, W.cell? ⟨r, q, none⟩ = ([.int .i64 n, .slice (some ⟨B, 0, none⟩) nn nn, .slice (some ⟨sd, 0, none⟩) n n] : List Value)[q]?) ∧ W.cell? ⟨B, p, none⟩ = some (.slice (some ad) nb c) from fun W a b => ⟨a.blk.cell, by
        rw [b.blk.cell p, ← HSL.out]
        have : p < sl.length := by omega
        simp [this]⟩)
  refine wp_region_phase 25 (S := fun W => (∀ q, W.cell? ⟨r, q, none⟩ = ([.int .i64 n, .slice (some ⟨B, 0, none⟩) nn nn, .slice (some ⟨sd, 0, none⟩) n n] : List Value)[q]?) ∧ W.cell? ⟨B, p, none⟩ = some (.slice (some ad) nb c)) (by kernel_rfl) rfl (by kernel_rfl) (fun hS => ?_) (MKS.out _ (blkT_drew kr) (blkT_drew kB))
  simp only [List.take_succ_cons, List.take_zero, List.drop_succ_cons, List.drop_zero]
  refine take_at (i := 0) (oi := _) (dst := some 46) (v := ?_) rfl rfl (by kernel_rfl) (by kernel_rfl) (by kernel_rfl) (fun _ _ _ h => h) (Or.inl ⟨by rfl, by intro w hSw; (try dsimp only at hSw); go_simp; (try with_reducible rfl)⟩) (by assumption) ?_; (try simp only [Act.put, List.setIfInBounds_toArray, List.set_cons_zero, List.set_cons_succ])
  refine take_at (i := 1) (oi := _) (dst := some 47) (v := ?_) rfl rfl (by kernel_rfl) (by kernel_rfl) (by kernel_rfl) (fun _ _ _ h => h) (Or.inl ⟨by rfl, by intro w hSw; (try dsimp only at hSw); go_simp; (try with_reducible rfl)⟩) (by assumption) ?_; (try simp only [Act.put, List.setIfInBounds_toArray, List.set_cons_zero, List.set_cons_succ])
  refine take_at (i := 2) (oi := _) (dst := some 48) (v := ?_) rfl rfl (by kernel_rfl) (by kernel_rfl) (by kernel_rfl) (fun _ _ _ h => h) (Or.inl ⟨by rfl, by intro w hSw; (try dsimp only at hSw); go_simp; (try with_reducible rfl)⟩) (by assumption) ?_; (try simp only [Act.put, List.setIfInBounds_toArray, List.set_cons_zero, List.set_cons_succ])
  refine take_at (i := 3) (oi := _) (dst := some 49) (v := ?_) rfl rfl (by kernel_rfl) (by kernel_rfl) (by kernel_rfl) (fun _ _ _ h => h) (Or.inl ⟨by rfl, by intro w hSw; (try dsimp only at hSw); go_simp; (try with_reducible rfl)⟩) (by assumption) ?_; (try simp only [Act.put, List.setIfInBounds_toArray, List.set_cons_zero, List.set_cons_succ])
  refine take_at (i := 4) (oi := _) (dst := some 50) (v := ?_) rfl rfl (by kernel_rfl) (by kernel_rfl) (by kernel_rfl) (fun _ _ _ h => h) (Or.inl ⟨by rfl, by intro w hSw; (try dsimp only at hSw); go_simp; (try with_reducible rfl)⟩) (by assumption) ?_; (try simp only [Act.put, List.setIfInBounds_toArray, List.set_cons_zero, List.set_cons_succ])
  refine take_at (i := 5) (oi := _) (dst := some 51) (v := ?_) rfl rfl (by kernel_rfl) (by kernel_rfl) (by kernel_rfl) (fun _ _ _ h => h) (Or.inl ⟨by rfl, by intro w hSw; (try dsimp only at hSw); go_simp; (try with_reducible rfl)⟩) (by assumption) ?_; (try simp only [Act.put, List.setIfInBounds_toArray, List.set_cons_zero, List.set_cons_succ])
  refine take_at (i := 6) (oi := _) (dst := some 52) (v := ?_) rfl rfl (by kernel_rfl) (by kernel_rfl) (by kernel_rfl) (fun _ _ _ h => h) (Or.inl ⟨by rfl, by intro w hSw; (try dsimp only at hSw); go_simp; (try with_reducible rfl)⟩) (by assumption) ?_; (try simp only [Act.put, List.setIfInBounds_toArray, List.set_cons_zero, List.set_cons_succ])
  refine take_at (i := 7) (oi := _) (dst := some 53) (v := ?_) rfl rfl (by kernel_rfl) (by kernel_rfl) (by kernel_rfl) (fun _ _ _ h => h) (Or.inl ⟨by rfl, by intro w hSw; (try dsimp only at hSw); go_simp; (try with_reducible rfl)⟩) (by assumption) ?_; (try simp only [Act.put, List.setIfInBounds_toArray, List.set_cons_zero, List.set_cons_succ])
  refine take_at (i := 8) (oi := _) (dst := some 54) (v := ?_) rfl rfl (by kernel_rfl) (by kernel_rfl) (by kernel_rfl) (fun _ _ _ h => h) (Or.inl ⟨by rfl, by intro w hSw; (try dsimp only at hSw); go_simp; (try with_reducible rfl)⟩) (by assumption) ?_; (try simp only [Act.put, List.setIfInBounds_toArray, List.set_cons_zero, List.set_cons_succ])
  refine take_at (i := 9) (oi := _) (dst := some 55) (v := ?_) rfl rfl (by kernel_rfl) (by kernel_rfl) (by kernel_rfl) (fun _ _ _ h => h) (Or.inl ⟨by rfl, by intro w hSw; (try dsimp only at hSw); go_simp; (try with_reducible rfl)⟩) (by assumption) ?_; (try simp only [Act.put, List.setIfInBounds_toArray, List.set_cons_zero, List.set_cons_succ])
  refine take_at (i := 10) (oi := _) (dst := some 56) (v := ?_) rfl rfl (by kernel_rfl) (by kernel_rfl) (by kernel_rfl) (fun _ _ _ h => h) (Or.inl ⟨by rfl, by intro w hSw; (try dsimp only at hSw); go_simp; (try with_reducible rfl)⟩) (by assumption) ?_; (try simp only [Act.put, List.setIfInBounds_toArray, List.set_cons_zero, List.set_cons_succ])
  refine take_at (i := 11) (oi := _) (dst := some 57) (v := ?_) rfl rfl (by kernel_rfl) (by kernel_rfl) (by kernel_rfl) (fun _ _ _ h => h) (Or.inl ⟨by rfl, by intro w hSw; (try dsimp only at hSw); go_simp; (try with_reducible rfl)⟩) (by assumption) ?_; (try simp only [Act.put, List.setIfInBounds_toArray, List.set_cons_zero, List.set_cons_succ])
  refine take_at (i := 12) (oi := _) (dst := some 58) (v := ?_) rfl rfl (by kernel_rfl) (by kernel_rfl) (by kernel_rfl) (fun _ _ _ h => h) (Or.inl ⟨by rfl, by intro w hSw; (try dsimp only at hSw); go_simp; (try with_reducible rfl)⟩) (by assumption) ?_; (try simp only [Act.put, List.setIfInBounds_toArray, List.set_cons_zero, List.set_cons_succ])
  refine take_at (i := 13) (oi := _) (dst := some 59) (v := ?_) rfl rfl (by kernel_rfl) (by kernel_rfl) (by kernel_rfl) (fun _ _ _ h => h) (Or.inl ⟨by rfl, by intro w hSw; (try dsimp only at hSw); go_simp; (try with_reducible rfl)⟩) (by assumption) ?_; (try simp only [Act.put, List.setIfInBounds_toArray, List.set_cons_zero, List.set_cons_succ])
  refine take_at (i := 14) (oi := _) (dst := some 60) (v := ?_) rfl rfl (by kernel_rfl) (by kernel_rfl) (by kernel_rfl) (fun _ _ _ h => h) (Or.inl ⟨by rfl, by intro w hSw; (try dsimp only at hSw); go_simp; (try with_reducible rfl)⟩) (by assumption) ?_; (try simp only [Act.put, List.setIfInBounds_toArray, List.set_cons_zero, List.set_cons_succ])
  refine take_at (i := 15) (oi := _) (dst := some 61) (v := ?_) rfl rfl (by kernel_rfl) (by kernel_rfl) (by kernel_rfl) (fun _ _ _ h => h) (Or.inl ⟨by rfl, by intro w hSw; (try dsimp only at hSw); go_simp; (try with_reducible rfl)⟩) (by assumption) ?_; (try simp only [Act.put, List.setIfInBounds_toArray, List.set_cons_zero, List.set_cons_succ])
  refine take_at (i := 16) (oi := _) (dst := some 62) (v := ?_) rfl rfl (by kernel_rfl) (by kernel_rfl) (by kernel_rfl) (fun _ _ _ h => h) (Or.inl ⟨by rfl, by intro w hSw; (try dsimp only at hSw); go_simp; (try with_reducible rfl)⟩) (by assumption) ?_; (try simp only [Act.put, List.setIfInBounds_toArray, List.set_cons_zero, List.set_cons_succ])
  refine take_at (i := 17) (oi := _) (dst := some 63) (v := ?_) rfl rfl (by kernel_rfl) (by kernel_rfl) (by kernel_rfl) (fun _ _ _ h => h) (Or.inl ⟨by rfl, by intro w hSw; (try dsimp only at hSw); go_simp; (try with_reducible rfl)⟩) (by assumption) ?_; (try simp only [Act.put, List.setIfInBounds_toArray, List.set_cons_zero, List.set_cons_succ])
  refine take_at (i := 18) (oi := _) (dst := some 64) (v := ?_) rfl rfl (by kernel_rfl) (by kernel_rfl) (by kernel_rfl) (fun _ _ _ h => h) (Or.inl ⟨by rfl, by intro w hSw; (try dsimp only at hSw); go_simp; (try with_reducible rfl)⟩) (by assumption) ?_; (try simp only [Act.put, List.setIfInBounds_toArray, List.set_cons_zero, List.set_cons_succ])
  refine take_at (i := 19) (oi := _) (dst := some 65) (v := ?_) rfl rfl (by kernel_rfl) (by kernel_rfl) (by kernel_rfl) (fun _ _ _ h => h) (Or.inl ⟨by rfl, by intro w hSw; (try dsimp only at hSw); go_simp; (try with_reducible rfl)⟩) (by assumption) ?_; (try simp only [Act.put, List.setIfInBounds_toArray, List.set_cons_zero, List.set_cons_succ])
  refine take_at (i := 20) (oi := _) (dst := some 66) (v := ?_) rfl rfl (by kernel_rfl) (by kernel_rfl) (by kernel_rfl) (fun _ _ _ h => h) (Or.inl ⟨by rfl, by intro w hSw; (try dsimp only at hSw); go_simp; (try with_reducible rfl)⟩) (by assumption) ?_; (try simp only [Act.put, List.setIfInBounds_toArray, List.set_cons_zero, List.set_cons_succ])
  have p0' : w2.drew.cell? (ad.add (m * 4)) = some (.int .i64 x.1) := p0
  have p1' : w2.drew.cell? ⟨(ad.add (m * 4)).block, (ad.add (m * 4)).off + 1, none⟩ = some (.int .i64 x.2.1) := p1
  have p2' : w2.drew.cell? ⟨(ad.add (m * 4)).block, (ad.add (m * 4)).off + 2, none⟩ = some (.int .i64 x.2.2.1) := p2
  have p3' : w2.drew.cell? ⟨(ad.add (m * 4)).block, (ad.add (m * 4)).off + 3, none⟩ = some (.slice D x.2.2.2.length dc) := p3
  clear p0 p1 p2 p3
  refine wpAnyH_ready (rs := [21]) (by kernel_rfl) (by simp) ?_; refine AllReadyH.cons (o := _) rfl (fun K hK => ?_) AllReadyH.nil; go_simp
  refine hK.out _ _ (MKS.out _ (blkT_drew kr) (blkT_drew kB)) (fun hS2 => ?_)
  clear hK hS p0' p1' p2' p3'
  refine wpAnyH_ready (rs := [22]) (by kernel_rfl) (by simp) ?_; refine AllReadyH.cons (o := _) rfl (fun K hK => ?_) AllReadyH.nil; go_simp
  refine (rcopied_any _ x w2.drew HRD.out.is (HFIT.out x (List.mem_of_getElem? HX.out))).mono ?_
  rintro e w4 ⟨hb4, cs', rfl, hx'⟩
  have hb4 := of_drew hb4
  have hz4 := hb4.size
  have hx' : RdP w4 (fun b => w2.heap.size ≤ b ∧ b < w4.heap.size) cs' x := hx'
  obtain ⟨D3, d3, rfl, hd3⟩ := hx'
  have HX3 := Lib.hid (show RdP w4 (fun b => w2.heap.size ≤ b ∧ b < w4.heap.size) [.int .i64 x.1, .int .i64 x.2.1, .int .i64 x.2.2.1, .slice D3 x.2.2.2.length d3] x from ⟨D3, d3, rfl, hd3⟩)
  have kr := kr.below hb4
  have kB := kB.below hb4
  have hbw4 := hb2.trans (hb4.mono hb2.size)
  refine hK.out _ _ (MKS.out _ kr kB) (fun hS3 => ?_)
  clear hK hd3 hS2
  refine wpAnyH_ready (rs := [23]) (by kernel_rfl) (by simp) ?_; refine AllReadyH.cons (o := _) rfl (fun K hK => ?_) AllReadyH.nil; go_simp
  have hb45 := below_alloc_one w4 (.cells #[.int .i64 x.1, .int .i64 x.2.1, .int .i64 x.2.2.1, .slice D3 x.2.2.2.length d3] 29)
  have k23 := Blk.new w4 29 [.int .i64 x.1, .int .i64 x.2.1, .int .i64 x.2.2.1, .slice D3 x.2.2.2.length d3] _ rfl
  have hz5 : (w4.alloc (.cells #[.int .i64 x.1, .int .i64 x.2.1, .int .i64 x.2.2.1, .slice D3 x.2.2.2.length d3] 29)).heap.size = w4.heap.size + 1 := by simp
  refine hK.out _ _ (MKS.out _ (kr.below hb45) (kB.below hb45)) (fun hS4 => ?_)
  clear hK hS3
  generalize w4.alloc (.cells #[.int .i64 x.1, .int .i64 x.2.1, .int .i64 x.2.2.1, .slice D3 x.2.2.2.length d3] 29) = w5 at hS4 hb45 k23 hz5 ⊢
  have kr := kr.below hb45
  have kB := kB.below hb45
  have hbw5 := hbw4.trans (hb45.mono hbw4.size)
  have HR5 := Lib.hid (HR.out.below hbw5)
  obtain ⟨zs, q1, q2, q3', q4⟩ := HR5.out.2.2.2.2.2.1 p HP.out
  have hzl : zs.length = nb := by
    have h1 : zs.length = (f ((p / n : Nat) + 1) ((p % n : Nat) + 1)).length := by rw [← q1, List.length_map]
    rw [h1, HM.out, HA.out, HB.out]
  have Q1 := Lib.hid q1
  have Q3 := Lib.hid q3'
  have Q4 := Lib.hid q4
  rw [hzl, HSL.out] at q2
  have hrF : ∀ q, (Value.slice (some ad) nb c).ownBlock = some q → G q := fun q e => Q3.out q (by rw [HSL.out]; exact e)
  have hs6 : ∀ w6, w5.grownBy w6 (Value.slice (some ad) nb c).ownBlock → SameBut 29 w5 w6 := fun w6 hg => same_cells hg (fun b e => row_block q2 e)
  have HRF := Lib.hid hrF
  have HS6 := Lib.hid hs6
  clear q1 q3' q4 hrF hs6
  refine wpAnyH_ready (rs := [24]) (by kernel_rfl) (by simp) ?_; refine AllReadyH.cons (o := _) rfl (fun K hK => ?_) AllReadyH.nil
  refine step_append_at (some 70) rfl rfl (.tmp 57) (.tmp 69) 40 rfl 29 i0 _ 4 48 Try.underlying40 hi hz0 hz1' hz2' rfl (by omega) (some ad) nb c (zs.flatMap (·.1)) rfl q2 ⟨w4.heap.size, 0, none⟩ 1 1 [.int .i64 x.1, .int .i64 x.2.1, .int .i64 x.2.2.1, .slice D3 x.2.2.2.length d3] rfl (blk_sl k23 rfl) HX3.out.one (by omega) (by omega) ?_
  intro A6 c6 w6 ho6 hg6 hv6
  have s6 := HS6.out w6 hg6
  have kr := blkT_same kr s6 (by decide)
  have kB := blkT_same kB s6 (by decide)
  refine hK.out _ _ (MKS.out _ kr kB) (fun hS6 => ?_)
  clear hK hS4
  refine wpAnyH_done (by kernel_rfl) ?_ _
  go_wp2_with (with_reducible refine stop_store ?_)
  refine hide (wpList_store_partT rfl 40 (.tmp 71) (.tmp 70) rfl B p 40 _ [.slice A6 (nb + 1) c6] rfl rfl rfl sl kB (by simp; omega) (by kernel_rfl) rfl _ (list_set_take (by omega)) ?_)
  intro w7 kB7 hg7 hz7
  clear hS6
  go_wp2
  go_ret
  have hz6 := hg6.size
  have hwz := hbw5.size
  have hGG : ∀ b, G b → grow G w w7 b := fun b hb => .inl hb
  have hbes : Beside G w w7 := by
    refine (Beside.of_below hbw5).trans ((Beside.of_grown hg6 (fun q e => ?_)).trans (Beside.of_grown hg7 (fun q e => ?_)))
    · exact .inl (.inl (HRF.out q e))
    · injection e with e
      subst e
      exact .inl (.inl (.inl hGs.2.1))
  have hset := ref_set (w6 := w6) (w7 := w7) (G' := grow G w w7) (v' := .slice A6 (nb + 1) c6) (zs' := zs ++ [([.int .i64 x.1, .int .i64 x.2.1, .int .i64 x.2.2.1, .slice D3 x.2.2.2.length d3], x)]) HR5.out HP.out hGG (fun b hb => Nat.lt_of_lt_of_le (hG b hb) hwz) (by rw [HSL.out]; exact hg6) (by simpa [hzl] using ho6) (fun q e => ?_) (fun z hz => ?_) hg7 kB7
  · refine ⟨hbes, 0, _, rfl, .inr (.inr ⟨HOK.out, m, x, rfl, HX.out, .inr ⟨by rw [← HM.out]; omega, rfl, ?_⟩⟩), B, sd, _, hset⟩
    rw [List.map_append, Q1.out, ← HA.out, ← HB.out]
    rfl
  · rw [HSL.out]
    rcases hv6 with h | h
    · rw [h] at e
      exact ⟨.inl (HRF.out q e), .inl e⟩
    · have h2 := ho6.lt _ h
      rw [h] at e
      injection e with e
      subst e
      exact ⟨.inr ⟨hwz, by omega⟩, .inr (Nat.le_refl _)⟩
  · have s6 := HS6.out w6 hg6
    rcases List.mem_append.1 hz with hz | hz
    · exact ((Q4.out z hz).same s6 (by decide)).mono hGG
    · simp only [List.mem_singleton] at hz
      subst hz
      refine ((HX3.out.grown (Spared.of_below hb45)).same s6 (by decide)).mono (fun b hb => .inr ⟨?_, ?_⟩)
      · have := hb2.size; omega
      · omega
end Go.Proofs.Ytjihiohmemmabaa

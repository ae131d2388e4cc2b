/- Contracts of Clones and entries: slices of entries in new memory. -/
import Derived.Test.YtglabhfmeinogaaLClone
namespace Go.Proofs.Ytglabhfmeinogaa
open Go.RowKit Go.Gz
attribute [local go_sem] World.cell?_alloc_some frozen?_alloc_some

theorem OwnE.grown_type {w w' : World} {base base' n c : Nat} {B : Option Addr} {ys : List Value} {cs : List Value} {x : Ent} (h : OwnE w base cs x) (hs : Own w base' 47 6 B n c ys) (hB : B = none ∨ 0 < n) (hg : w.grownBy w' (Value.slice B n c).ownBlock) : OwnE w' base cs x := by
  obtain ⟨D, dc, V, vc, L, lc, e, h1, h2⟩ := h
  exact ⟨D, dc, V, vc, L, lc, e, h1.grown_type hs (by decide) hB hg, h2.1.grown_type hs (by decide) hB hg, h2.2.grown_type hs (by decide) hB hg⟩
theorem OwnE.one {w : World} {base : Nat} {cs : List Value} {x : Ent} (h : OwnE w base cs x) : ∀ v ∈ cs, v.oneCell' = true := h.is.one
theorem OwnE.len {w : World} {base : Nat} {cs : List Value} {x : Ent} (h : OwnE w base cs x) : cs.length = 6 := h.is.len
/-- One more entry behind own ones. -/
theorem OwnEs.snoc {w' : World} {base n c' : Nat} {A' : Option Addr} {xs : List Ent} {x : Ent} {zs : List (List Value × Ent)} {cs : List Value} (h1 : zs.map (·.2) = xs) (h2 : zs.length = n) (h3 : Own w' base 47 6 A' (n + 1) c' (zs.flatMap (·.1) ++ cs)) (h4 : ∀ z ∈ zs, OwnE w' base z.1 z.2) (h5 : OwnE w' base cs x) :
    OwnEs w' base A' (n + 1) c' (xs ++ [x]) :=
  ⟨zs ++ [(cs, x)], by simp [h1], by simp [h2], by simpa using h3, fun z hz => by
    rcases List.mem_append.1 hz with hz | hz
    · exact h4 z hz
    · simp at hz; subst hz; exact h5⟩

set_option maxHeartbeats 1600000 in
theorem clones_any (O : Option Addr) (n c : Nat) (xs : List Ent) (w : World) (h : IsEs w O n xs) (hf : ∀ x ∈ xs, Fits x) (hn : n * 96 ≤ 140737488355328) :
    Calls Try.prog 43 #[.slice O n c] w fun e w' => Below w.heap.size w w' ∧ ∃ A' c', e = .returned (.slice A' n c') ∧ OwnEs w' w.heap.size A' n c' xs := by
  obtain ⟨i0, hi, hz0, hz1', hz2'⟩ := info_parts infoEnt
  have H := Lib.hid h
  have HF := Lib.hid hf
  have hxl := h.len
  clear h hf
  go_enter Try.func43, Try.ntmps43
  go_wp2_with fail
  go_loopw [3, 4] (fun s3 s4 wr => ∃ (j : Nat) (A : Option Addr) (d : Nat), s3 = .slice A j d ∧ s4 = .int .i64 j ∧ j ≤ n ∧ (A = none ∨ 0 < j) ∧ OwnEs wr w.heap.size A j d (xs.take j) ∧ Below w.heap.size w wr) (fun _ s4 _ => (n - intOf s4).toNat)
  case atStart => exact ⟨0, none, 0, rfl, rfl, by omega, .inl rfl, ⟨[], rfl, rfl, .inl ⟨rfl, rfl, rfl⟩, fun z hz => (by cases hz)⟩, Below.refl _ _⟩
  case round =>
    obtain ⟨j, A, d, rfl, rfl, hj, hA, ho, hbr⟩ := hrel
    by_cases hlt : j < n
    · have b1 : (j : Int) < (n : Int) := by omega
      cases O with
      | none => obtain ⟨zs, _, h2, h3, _⟩ := H.out; have := h3.2.1 rfl; omega
      | some ad =>
      obtain ⟨x, D, dc, V, vc, L, lc, hx, hE, _, _, m0, m1, m2, m3, m4, m5⟩ := (H.out.below hbr).at hlt
      have hxm : x ∈ xs := List.mem_of_getElem? hx
      have HX := Lib.hid hx
      have HE := Lib.hid hE
      clear hx hE
      go_wp2_with fail
      refine (clone_any _ x wr HE.out (HF.out x hxm)).mono ?_
      rintro e w3 ⟨hb3, cs', rfl, hoe⟩
      obtain ⟨zs, hz1, hz2, hz3, hz4⟩ := ho
      have hz3 := hz3.below hb3
      have hoe := hoe.lower hbr.size
      have hbr3 := hbr.trans (hb3.mono hbr.size)
      obtain ⟨D3, d3, V3, v3, L3, l3, rfl, q1, q2⟩ := hoe
      have hoe : OwnE w3 w.heap.size _ x := ⟨D3, d3, V3, v3, L3, l3, rfl, q1, q2⟩
      clear q1 q2 m0 m1 m2 m3 m4 m5
      go_wp2_with (with_reducible refine stop_at (d := 18) ?_)
      refine hide (wpList_append_own_sl rfl (.tmp 11) (.tmp 17) 29 rfl w.heap.size 47 i0 _ 6 96 Try.underlying29 hi hz0 hz1' hz2' rfl (by omega) A j d (zs.flatMap (·.1)) rfl (hz3.alloc _) _ 1 1 _ rfl (sl_new w3 _ _ rfl _ [.int .u64 x.1, .int .u64 x.2.1, .int .i64 x.2.2.1, .slice D3 x.2.2.2.1.length d3, .slice V3 x.2.2.2.2.1.length v3, .slice L3 x.2.2.2.2.2.length l3] 6 1 rfl) hoe.one (by omega) (by omega) (by have := hbr3.size; simp; omega) ?_)
      intro A4 c4 w4 ho4 hb4 hg4
      have hE4 : ∀ z ∈ zs, OwnE w4 w.heap.size z.1 z.2 := fun z hz => (((hz4 z hz).below hb3).below (below_alloc_one w3 _)).grown_type (hz3.alloc _) hA hg4
      have hx4 : OwnE w4 w.heap.size _ x := (hoe.below (below_alloc_one w3 _)).grown_type (hz3.alloc _) hA hg4
      have hS := OwnEs.snoc hz1 hz2 ho4 hE4 hx4
      have hbr4 : Below w.heap.size w w4 := (hbr3.alloc hbr3.size _).trans hb4
      have ht : xs.take j ++ [x] = xs.take (j + 1) := by rw [List.take_add_one, HX.out]; rfl
      rw [ht] at hS
      clear ho4 hE4 hx4 hg4 hoe hz3 hz4
      go_wp2
      go_roundw
      case rel => exact ⟨j + 1, A4, c4, rfl, by go_num, by omega, .inr (by omega), hS, hbr4⟩
      case measure => simp [intOf]; omega
    · obtain rfl : j = n := by omega
      have b1 : ¬ (j : Int) < (j : Int) := by omega
      rw [List.take_of_length_le (by omega)] at ho
      go_wp2
      go_ret
      exact ⟨hbr, A, d, rfl, ho⟩

theorem mk_blkT (w : World) (t : TypeId) (arr : Array Value) : BlkT (w.alloc (.cells arr t)) w.heap.size t arr.toList := by
  have := BlkT.new w t arr.toList
  simpa using this
theorem flat_split {α : Type} (val : α → List Value) (k : Nat) (a b : List α) (y : α) (cs : List Value) (ha : ∀ z ∈ a, (val z).length = k) (hy : (val y).length = k) (hc : cs.length = k) :
    ((a.flatMap val ++ (y :: b).flatMap val).take (a.length * k) ++ cs ++ (a.flatMap val ++ (y :: b).flatMap val).drop (a.length * k + cs.length)) = a.flatMap val ++ cs ++ b.flatMap val := by
  have hl := flat_len val k a ha
  rw [← hl, List.take_left, List.drop_append, List.drop_eq_nil_of_le (by omega), List.flatMap_cons, Nat.add_sub_cancel_left, hc, ← hy, List.drop_left, List.nil_append]

set_option maxHeartbeats 1600000 in
theorem entries_any (O : Option Addr) (n c : Nat) (xs : List Ent) (w : World) (h : IsEs w O n xs) (hf : ∀ x ∈ xs, Fits x) (hn : n * 96 ≤ 140737488355328) :
    Calls Try.prog 30 #[.slice O n c] w fun e w' => Below w.heap.size w w' ∧ ∃ A' c', e = .returned (.slice A' n c') ∧ OwnEs w' w.heap.size A' n c' xs := by
  obtain ⟨i0, hi, hz0, hz1', hz2'⟩ := info_parts infoEnt
  have hmk := run_make_n (P := Try.prog) 29 47 i0 _ Try.underlying29 hi hz0 .i64 .i64 n (by rw [hz2']; omega) (by omega)
  have hxl := h.len
  obtain ⟨zs0, hy1, hy2, hy3, hy4⟩ := h
  have H3 := Lib.hid hy3
  have H4 := Lib.hid hy4
  have HF := Lib.hid hf
  clear hf hy3 hy4
  go_enter Try.func30, Try.ntmps30
  go_wp2_with (with_reducible refine stop_at (d := 10) ?_)
  refine hide (name_list (fun w1 hw1 => ?_))
  obtain ⟨cur, hcur, hcl⟩ : ∃ cur : List Value, BlkT w1 w.heap.size 47 cur ∧ cur.length = n * 6 := by
    rw [hw1]
    exact ⟨_, mk_blkT _ _ _, by simp [size_madeCells]⟩
  have hb1 : Below w.heap.size w w1 := by rw [hw1]; exact (by (repeat first | refine Below.setCell ?_ (by first | omega | (dsimp only; omega) | (simp only [heap_drew, World.size_alloc, Gz.size_setCell]; omega)) _ | refine Below.alloc ?_ (by first | omega | (dsimp only; omega) | (simp only [heap_drew, World.size_alloc, Gz.size_setCell]; omega)) _ | refine Below.drew ?_); exact Below.refl _ _)
  have hz1 : w1.heap.size = w.heap.size + 1 := by rw [hw1]; simp
  clear hw1 hmk
  have hone : ∀ v ∈ zs0.flatMap (·.1), v.oneCell' = true := fun v hv => by
    obtain ⟨z, hz, hv⟩ := List.mem_flatMap.1 hv
    exact (H4.out z hz).one v hv
  have hk6 : ∀ z ∈ zs0, z.1.length = 6 := fun z hz => (H4.out z hz).len
  refine hide (wpList_copy_many rfl (.tmp 8) (.tmp 9) 29 29 rfl 47 Try.underlying29 6 (by rw [hi]; simp [hz1']) w.heap.size n n rfl O c rfl (zs0.flatMap (·.1)) (H3.out.below hb1) hone cur hcl 47 hcur ?_)
  intro w2 k2 hg2 hz2
  have hb2 : Below w.heap.size w w2 := below_grown hb1 hg2 (Nat.le_refl _) (by omega)
  clear hone hcur
  go_wp2_with fail
  go_loopw [13] (fun s13 wr => ∃ (j : Nat) (zs : List (List Value × Ent)), s13 = .int .i64 j ∧ j ≤ n ∧ zs.length = j ∧ BlkT wr w.heap.size 47 ((zs ++ zs0.drop j).flatMap (·.1)) ∧ (∀ z ∈ zs, OwnE wr (w.heap.size + 1) z.1 z.2) ∧ zs.map (·.2) = xs.take j ∧ Below w.heap.size w wr) (fun s13 _ => (n - intOf s13).toNat)
  case atStart => exact ⟨0, [], rfl, by omega, rfl, by simpa using k2, fun z hz => (by cases hz), rfl, hb2⟩
  case round =>
    obtain ⟨j, zs, rfl, hj, hzl, hk, ho, hm, hbr⟩ := hrel
    by_cases hlt : j < n
    · have b1 : (j : Int) < (n : Int) := by omega
      have hjz : j < zs0.length := by omega
      have hdrop : zs0.drop j = zs0[j] :: zs0.drop (j + 1) := List.drop_eq_getElem_cons hjz
      have hE := H4.out (zs0[j]) (List.getElem_mem hjz)
      have hx : xs[j]? = some (zs0[j]).2 := by rw [← hy1]; simp [hjz]
      obtain ⟨z0, hz0'⟩ : ∃ z0, z0 = zs0[j] := ⟨_, rfl⟩
      rw [← hz0'] at hdrop hE hx
      obtain ⟨cs0, x⟩ := z0
      dsimp only at hE hx
      have hxm : x ∈ xs := List.mem_of_getElem? hx
      have hk6' : ∀ z ∈ zs ++ zs0.drop j, z.1.length = 6 := fun z hz => by
        rcases List.mem_append.1 hz with hz | hz
        · exact (ho z hz).len
        · exact hk6 z (List.mem_of_mem_drop hz)
      have hjl : j < (zs ++ zs0.drop j).length := by simp; omega
      have hat : (zs ++ zs0.drop j)[j] = (cs0, x) := by simp [hdrop, hzl]
      have cm : ∀ r, r < 6 → wr.cell? ⟨w.heap.size, j * 6 + r, none⟩ = cs0[r]? := fun r hr => by
        rw [hk.blk.cell (j * 6 + r), flat_at (fun z : List Value × Ent => z.1) 6 _ hk6' j r hjl hr, hat]
      obtain ⟨D, dc, V, vc, L, lc, rfl, hs, hc⟩ := hE
      have hE : IsE wr _ x := IsE.below ⟨D, dc, V, vc, L, lc, rfl, hs, hc⟩ hbr
      have m0 := cm 0 (by omega)
      have m1 := cm 1 (by omega)
      have m2 := cm 2 (by omega)
      have m3 := cm 3 (by omega)
      have m4 := cm 4 (by omega)
      have m5 := cm 5 (by omega)
      simp only [List.getElem?_cons_zero, List.getElem?_cons_succ, Nat.add_zero] at m0 m1 m2 m3 m4 m5
      have HX := Lib.hid hx
      have HE := Lib.hid hE
      have HZ := Lib.hid hdrop
      clear cm hx hE hs hc hat hz0' hdrop
      go_wp2_with fail
      refine (entry_any _ x wr HE.out (HF.out x hxm)).mono ?_
      rintro e w3 ⟨hb3, cs', rfl, hoe⟩
      have hk3 := hk.below hb3
      have ho3 : ∀ z ∈ zs, OwnE w3 (w.heap.size + 1) z.1 z.2 := fun z hz => (ho z hz).below hb3
      have hbr3 := hbr.trans (hb3.mono hbr.size)
      have hoe := hoe.lower (base' := w.heap.size + 1) (by have := hk.lt; omega)
      obtain ⟨D3, d3, V3, v3, L3, l3, rfl, q1, q2⟩ := hoe
      have hoe : OwnE w3 (w.heap.size + 1) _ x := ⟨D3, d3, V3, v3, L3, l3, rfl, q1, q2⟩
      clear q1 q2 m0 m1 m2 m3 m4 m5
      go_wp2_with (with_reducible refine stop_store ?_)
      have hlen : zs.length * 6 = j * 6 := by rw [hzl]
      have hzs6 : ∀ z ∈ zs, z.1.length = 6 := fun z hz => (ho z hz).len
      rw [HZ.out, List.flatMap_append] at hk3
      have hnew := flat_split (fun z : List Value × Ent => z.1) 6 zs (zs0.drop (j + 1)) (cs := [.int .u64 x.1, .int .u64 x.2.1, .int .i64 x.2.2.1, .slice D3 x.2.2.2.1.length d3, .slice V3 x.2.2.2.2.1.length v3, .slice L3 x.2.2.2.2.2.length l3]) (ha := hzs6) (y := ([.int .u64 x.1, .int .u64 x.2.1, .int .i64 x.2.2.1, .slice D x.2.2.2.1.length dc, .slice V x.2.2.2.2.1.length vc, .slice L x.2.2.2.2.2.length lc], x)) (hy := rfl) (hc := rfl)
      rw [hlen] at hnew
      refine hide (wpList_store_partT rfl 47 (.tmp 23) (.tmp 22) rfl w.heap.size (j * 6) 47 _ [.int .u64 x.1, .int .u64 x.2.1, .int .i64 x.2.2.1, .slice D3 x.2.2.2.1.length d3, .slice V3 x.2.2.2.2.1.length v3, .slice L3 x.2.2.2.2.2.length l3] rfl rfl rfl _ hk3 (by rw [List.length_append, flat_len (fun z : List Value × Ent => z.1) 6 zs hzs6, List.flatMap_cons, List.length_append, hzl]; simp) (by kernel_rfl) rfl _ hnew ?_)
      intro w4 hk4 hg4 hz4
      have ho4 : ∀ z ∈ zs ++ [([.int .u64 x.1, .int .u64 x.2.1, .int .i64 x.2.2.1, .slice D3 x.2.2.2.1.length d3, .slice V3 x.2.2.2.2.1.length v3, .slice L3 x.2.2.2.2.2.length l3], x)], OwnE w4 (w.heap.size + 1) z.1 z.2 := fun z hz => by
        rcases List.mem_append.1 hz with hz | hz
        · exact (ho3 z hz).grown hg4 (by omega)
        · simp only [List.mem_singleton] at hz
          subst hz
          exact hoe.grown hg4 (by omega)
      have hm4 : (zs ++ [(([.int .u64 x.1, .int .u64 x.2.1, .int .i64 x.2.2.1, .slice D3 x.2.2.2.1.length d3, .slice V3 x.2.2.2.2.1.length v3, .slice L3 x.2.2.2.2.2.length l3] : List Value), x)]).map (·.2) = xs.take (j + 1) := by rw [List.map_append, hm, List.take_add_one, HX.out]; rfl
      have hbr4 : Below w.heap.size w w4 := below_grown hbr3 hg4 (Nat.le_refl _) hk3.lt
      have hk4 : BlkT w4 w.heap.size 47 ((zs ++ [(([.int .u64 x.1, .int .u64 x.2.1, .int .i64 x.2.2.1, .slice D3 x.2.2.2.1.length d3, .slice V3 x.2.2.2.2.1.length v3, .slice L3 x.2.2.2.2.2.length l3] : List Value), x)] ++ zs0.drop (j + 1)).flatMap (·.1)) := by
        simpa using hk4
      clear hk3 ho3 hoe hg4 hnew
      go_wp2
      go_roundw
      case rel => exact ⟨j + 1, _, by go_num, by omega, by simp [hzl], hk4, ho4, hm4, hbr4⟩
      case measure => simp [intOf]; omega
    · obtain rfl : j = n := by omega
      have b1 : ¬ (j : Int) < (j : Int) := by omega
      rw [List.drop_eq_nil_of_le (by omega), List.append_nil] at hk
      rw [List.take_of_length_le (by omega)] at hm
      go_wp2
      go_ret
      exact ⟨hbr, some ⟨w.heap.size, 0, none⟩, j, rfl, zs, hm, hzl, hk.own (flat_len (fun z : List Value × Ent => z.1) 6 zs (fun z hz => (ho z hz).len) |>.trans (by rw [hzl])) (Nat.le_refl _) (by simp only [maxLen]; omega), fun z hz => (ho z hz).lower (by omega)⟩
end Go.Proofs.Ytglabhfmeinogaa

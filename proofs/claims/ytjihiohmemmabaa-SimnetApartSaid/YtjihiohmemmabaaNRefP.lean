/- The document's net: Heal, Part. -/
import Derived.Test.YtjihiohmemmabaaNRefS
namespace Go.Proofs.Ytjihiohmemmabaa
open Go.RowKit Go.Gz
attribute [local go_sem] World.cell?_alloc_some frozen?_alloc_some

theorem sides_none (n : Nat) : sides n (fun _ => false) = List.replicate n (.bool false) := by simp [sides, List.map_const']
theorem sides_set {n q : Nat} {S : Int → Bool} (hq : q < n) : (sides n S).set q (.bool true) = sides n (fun j => S j || decide (j = (q : Int) + 1)) := by
  apply List.ext_getElem?
  intro i
  rw [List.getElem?_set]
  by_cases e : q = i
  · subst e
    rw [if_pos rfl, if_pos (by rw [sides_len]; exact hq), sides_at _ hq]
    simp
  · rw [if_neg e]
    by_cases hi : i < n
    · rw [sides_at _ hi, sides_at _ hi]
      have : ¬ ((i : Int) + 1 = (q : Int) + 1) := by omega
      simp [this]
    · rw [List.getElem?_eq_none (by rw [sides_len]; omega), List.getElem?_eq_none (by rw [sides_len]; omega)]
theorem sides_congr {n : Nat} {S S' : Int → Bool} (h : ∀ j, S j = S' j) : sides n S = sides n S' := by rw [funext h]
/-- Another slice of sides. -/
theorem ref_side {w w' : World} {G G' : Nat → Prop} {r B sd sd' n : Nat} {sl : List Value} {f : Int → Int → List Pkt} {S S' : Int → Bool} (h : RefAt w G r B sd sl n f S) (hGG : ∀ b, G b → G' b) (hg : w.grownBy w' (some r)) (hk : BlkT w' r 72 [.int .i64 n, .slice (some ⟨B, 0, none⟩) (n * n) (n * n), .slice (some ⟨sd', 0, none⟩) n n]) (hs : BlkT w' sd' 4 (sides n S')) (hsd : G' sd') : RefAt w' G' r B sd' sl n f S' := by
  obtain ⟨h1, h2, h3, h4, h5, h6, h7⟩ := h
  have s := same_of_cells hg h1
  exact ⟨hk, blkT_same h2 s (by decide), hs, ⟨hGG _ h4.1, hGG _ h4.2.1, hsd⟩, h5, fun p hp => ((h6 p hp).same s (by decide) (by decide)).mono hGG, h7⟩
/-- The sides, turned. -/
theorem ref_bool {w w' : World} {G : Nat → Prop} {r B sd n : Nat} {sl : List Value} {f : Int → Int → List Pkt} {S S' : Int → Bool} (h : RefAt w G r B sd sl n f S) (hg : w.grownBy w' (some sd)) (hs : BlkT w' sd 4 (sides n S')) : RefAt w' G r B sd sl n f S' := by
  obtain ⟨h1, h2, h3, h4, h5, h6, h7⟩ := h
  have s := same_of_cells hg h3
  exact ⟨blkT_same h1 s (by decide), blkT_same h2 s (by decide), hs, h4, h5, fun p hp => (h6 p hp).same s (by decide) (by decide), h7⟩

def RHealIs (w w' : World) (G : Nat → Prop) (r n : Nat) (f : Int → Int → List Pkt) (e : Ending) : Prop := e = .returned (.tuple #[]) ∧ Beside G w w' ∧ RefIs w' (grow G w w') r n f (fun _ => false)
set_option maxHeartbeats 1600000 in
theorem rheal_any (w : World) (G : Nat → Prop) (r n : Nat) (f : Int → Int → List Pkt) (S : Int → Bool) (h : RefIs w G r n f S) (hG : ∀ b, G b → b < w.heap.size) (hn : n ≤ 7) :
    Calls Try.prog 34 #[.pointer (some ⟨r, 0, none⟩)] w fun e w' => RHealIs w w' G r n f e := by
  obtain ⟨i2, hi2, hz2, hs2, hb2⟩ := info_parts infoBool
  obtain ⟨B, sd, sl, hr⟩ := h
  have HR := Lib.hid hr
  have hGr := hG r hr.2.2.2.1.1
  have cr := hr.1.blk.cell
  have kr := hr.1
  have hGs := hr.2.2.2.1
  have hmk2 := run_make_n (P := Try.prog) 70 4 i2 _ Try.underlying70 hi2 hz2 .i64 .i64 n (by rw [hb2]; omega) (by omega)
  rw [hs2, Nat.mul_one, show (Value.bool false).cells = #[.bool false] from rfl, madeCells_list] at hmk2
  obtain ⟨nn, hnn⟩ : ∃ nn, nn = n * n := ⟨_, rfl⟩
  rw [← hnn] at kr cr
  have HNN := Lib.hid hnn
  clear hr hnn
  go_enter Try.func34, Try.ntmps34
  go_wp2_with (with_reducible refine stop_store ?_)
  refine hide (name_list (fun w1 hw1 => ?_))
  have hb1 : Below w.heap.size w w1 := by rw [hw1]; exact below_alloc_one _ _
  have k3 : BlkT w1 w.heap.size 4 (sides n (fun _ => false)) := by rw [hw1, sides_none]; first | exact BlkT.new _ _ _ | (refine blkT_at _ _ _ _ rfl)
  have hz1 : w1.heap.size = w.heap.size + 1 := by rw [hw1]; simp
  clear hw1 cr hmk2
  have kr1 := kr.below hb1
  refine hide (wpList_store_partT rfl 70 (.tmp 9) (.tmp 7) rfl r 2 72 _ [.slice (some ⟨w.heap.size, 0, none⟩) n n] rfl rfl rfl _ kr1 (by simp) (by kernel_rfl) rfl _ rfl ?_)
  intro w2 kr2 hg2 hz2'
  simp only [List.take_succ_cons, List.take_zero, List.drop_succ_cons, List.drop_zero, List.cons_append, List.nil_append, List.length_cons, List.length_nil] at kr2
  go_wp2
  rw [HNN.out] at kr2
  have k32 : BlkT w2 w.heap.size 4 (sides n (fun _ => false)) := (hg2.block _ (by omega) (fun e => by injection e with e; omega)).trans k3
  refine bodyPost_end (v := .tuple #[]) ?_ rfl ⟨rfl, (Beside.of_below hb1).trans (Beside.of_grown hg2 (fun q e => by injection e with e; subst e; exact .inl (.inl hGs.1))), B, w.heap.size, sl, ref_side (HR.out.below hb1) (fun _ h => .inl h) hg2 kr2 k32 (.inr ⟨Nat.le_refl _, by omega⟩)⟩
  simp [results, Try.results34, go_sem]

def RPartIs (w w' : World) (G : Nat → Prop) (r n : Nat) (f : Int → Int → List Pkt) (S : Int → Bool) (l : List Int) (e : Ending) : Prop := Beside G w w' ∧
  ∃ (E : Int) (S' : Int → Bool), e = .returned (.int .i64 E) ∧ PartF n S l E S' ∧ RefIs w' (grow G w w') r n f S'
theorem grownBy_on' {w wr w' : World} {row : Option Nat} {b : Nat} (h : w.grownBy wr (some b)) (hg : wr.grownBy w' row) (hr : ∀ r, row = some r → r = b ∨ w.heap.size ≤ r) : w.grownBy w' (some b) :=
  ⟨hg.os.trans h.os, hg.tape.trans h.tape, hg.output.trans h.output, Nat.le_trans h.size hg.size, fun k hk hne => (hg.block k (Nat.lt_of_lt_of_le hk h.size) (fun e => by
    rcases hr k e.symm with h1 | h1
    · exact hne (by rw [h1])
    · omega)).trans (h.block k hk hne)⟩
set_option maxHeartbeats 4000000 in
theorem rpart_any (w : World) (G : Nat → Prop) (r n : Nat) (f : Int → Int → List Pkt) (S : Int → Bool) (A : Option Addr) (m c : Nat) (l : List Int) (h : RefIs w G r n f S) (hG : ∀ b, G b → b < w.heap.size) (hn : n ≤ 7) (hs : ∀ W, Beside G w W → SlA W 1 A m (nums .i64 l)) (hnl : m ≤ 140737488355328) :
    Calls Try.prog 33 #[.pointer (some ⟨r, 0, none⟩), .slice A m c] w fun e w' => RPartIs w w' G r n f S l e := by
  have hln := (hs w (Beside.refl _ _)).len
  subst hln
  have H := Lib.hid h
  have HS := Lib.hid hs
  clear h hs
  obtain ⟨i2, hi2, hz2, hs2, hb2⟩ := info_parts infoBool
  have hmk2 := run_make_n (P := Try.prog) 70 4 i2 _ Try.underlying70 hi2 hz2 .i64 .i64 n (by rw [hb2]; omega) (by omega)
  rw [hs2, Nat.mul_one, show (Value.bool false).cells = #[.bool false] from rfl, madeCells_list] at hmk2
  have HMK := Lib.hid hmk2
  clear hmk2
  go_enter Try.func33, Try.ntmps33
  go_wp2_with fail
  go_loopw [5] (fun s5 wr => ∃ i : Nat, s5 = .int .i64 i ∧ i ≤ l.length ∧ (∀ v ∈ l.take i, 1 ≤ v ∧ v ≤ (n : Int)) ∧ Below w.heap.size w wr) (fun s5 _ => (l.length - RowKit.intOf s5).toNat)
  case atStart => exact ⟨0, rfl, Nat.zero_le _, fun v hv => (by simp at hv), Below.refl _ _⟩
  case round =>
    obtain ⟨i, rfl, hi, hall, hb⟩ := hrel
    by_cases hlt : i < l.length
    · have q1 : (i : Int) < (l.length : Int) := by omega
      obtain ⟨ad, rfl⟩ : ∃ ad, A = some ad := by
        cases A with
        | none => have := (HS.out w (Beside.refl _ _)).2.1 rfl; omega
        | some ad => exact ⟨ad, rfl⟩
      have ce := (HS.out wr (Beside.of_below hb)).cell hlt
      have HNW := Lib.hid (H.out.below hb)
      have hget : l[i]? = some (l.getD i 0) := by simp [hlt]
      have htk : l.take (i + 1) = l.take i ++ [l.getD i 0] := by rw [List.take_add_one, hget]; rfl
      obtain ⟨v, hv⟩ : ∃ v, v = l.getD i 0 := ⟨_, rfl⟩
      rw [← hv] at ce htk
      have hvm : v ∈ l := by rw [hv]; exact getD_mem _ _ hlt
      have HALL := Lib.hid hall
      have HTK := Lib.hid htk
      have HVM := Lib.hid hvm
      clear hall htk hget hv hvm
      go_wp2_with fail
      refine (node_any wr G r n f S v HNW.out).mono ?_
      rintro e w2 ⟨rfl, hb2⟩
      have hb2' := hb.trans (hb2.mono hb.size)
      by_cases hok : 1 ≤ v ∧ v ≤ n
      · have e1 : (decide (1 ≤ v) && decide (v ≤ (n : Int))) = true := by simp; omega
        rw [e1]
        have HOK := Lib.hid hok
        clear hok e1
        go_wp2
        go_roundw
        case rel =>
          refine ⟨i + 1, by go_num, by omega, ?_, hb2'⟩
          rw [HTK.out]
          intro u hu
          rcases List.mem_append.1 hu with hu | hu
          · exact HALL.out u hu
          · simp at hu
            subst hu
            exact HOK.out
        case measure => simp [RowKit.intOf]; omega
      · have e1 : (decide (1 ≤ v) && decide (v ≤ (n : Int))) = false := by simp; omega
        rw [e1]
        have HOK := Lib.hid hok
        clear hok
        go_wp2
        go_ret
        exact ⟨Beside.of_below hb2', 31, S, rfl, .inl ⟨⟨v, HVM.out, HOK.out⟩, rfl, rfl⟩, (H.out.below hb2').mono (fun q hq => .inl hq)⟩
    · obtain rfl : i = l.length := by omega
      have q1 : ¬ ((l.length : Int) < (l.length : Int)) := by omega
      rw [List.take_length] at hall
      have HALL := Lib.hid hall
      obtain ⟨B, sd, sl, hr⟩ := (Lib.hid (H.out.below hb)).out
      have HR := Lib.hid hr
      have kr := hr.1
      have hGs := hr.2.2.2.1
      have hGr := hG r hGs.1
      obtain ⟨nn, hnn⟩ : ∃ nn, nn = n * n := ⟨_, rfl⟩
      rw [← hnn] at kr
      have cr := kr.blk.cell
      have HNN := Lib.hid hnn
      have hmk2 := HMK.out
      have hwz := hb.size
      clear hall hr hnn
      go_wp2_with (with_reducible refine stop_store ?_)
      refine hide (name_list (fun w1 hw1 => ?_))
      have hb1 : Below wr.heap.size wr w1 := by rw [hw1]; exact below_alloc_one _ _
      have k3 : BlkT w1 wr.heap.size 4 (sides n (fun _ => false)) := by rw [hw1, sides_none]; first | exact BlkT.new _ _ _ | (refine blkT_at _ _ _ _ rfl)
      have hz1 : w1.heap.size = wr.heap.size + 1 := by rw [hw1]; simp
      clear hw1 cr hmk2
      have kr1 := kr.below hb1
      refine hide (wpList_store_partT rfl 70 (.tmp 29) (.tmp 27) rfl r 2 72 _ [.slice (some ⟨wr.heap.size, 0, none⟩) n n] rfl rfl rfl _ kr1 (by simp) (by kernel_rfl) rfl _ rfl ?_)
      intro w2 kr2 hg2 hz2'
      simp only [List.take_succ_cons, List.take_zero, List.drop_succ_cons, List.drop_zero, List.cons_append, List.nil_append, List.length_cons, List.length_nil] at kr2
      obtain ⟨sd', hsd⟩ : ∃ sd', sd' = wr.heap.size := ⟨_, rfl⟩
      have k32 : BlkT w2 wr.heap.size 4 (sides n (fun _ => false)) := (hg2.block _ (by omega) (fun e => by injection e with e; omega)).trans k3
      rw [← hsd] at k32 kr2 ⊢
      have HR2 := Lib.hid (ref_side (G' := fun b => G b ∨ b = sd') (HR.out.below hb1) (fun _ h => .inl h) hg2 (by rw [← HNN.out]; exact kr2) k32 (.inr rfl))
      have hbes2 : Beside G w w2 := (Beside.of_below (hb.trans (hb1.mono hwz))).trans (Beside.of_grown hg2 (fun q e => by injection e with e; subst e; exact .inl (.inl hGs.1)))
      have HB2 := Lib.hid hbes2
      have hsd1 : w.heap.size ≤ sd' := by omega
      have hsd2 : sd' < w2.heap.size := by omega
      have K32 := Lib.hid k32
      have KR2 := Lib.hid kr2
      clear hbes2 hsd kr kr1 k3 hg2 k32 kr2 hb1
      go_wp2_with fail
      go_loopw [7] (fun s7 wx => ∃ i : Nat, s7 = .int .i64 i ∧ i ≤ l.length ∧ BlkT wx sd' 4 (sides n (fun j => decide (j ∈ l.take i))) ∧ w2.grownBy wx (some sd')) (fun s7 _ => (l.length - RowKit.intOf s7).toNat)
      case atStart => exact ⟨0, rfl, Nat.zero_le _, by simpa using K32.out, ⟨rfl, rfl, rfl, Nat.le_refl _, fun _ _ _ => rfl⟩⟩
      case round =>
        obtain ⟨i, rfl, hi, ksd, hgx⟩ := hrel
        have hbx : Beside G w wr := HB2.out.trans (Beside.of_grown hgx (fun q e => by injection e with e; subst e; exact .inl (.inr ⟨hsd1, hsd2⟩)))
        by_cases hlt : i < l.length
        · have q2 : (i : Int) < (l.length : Int) := by omega
          have q0 : (0 : Int) ≤ (i : Int) := by omega
          obtain ⟨ad, rfl⟩ : ∃ ad, A = some ad := by
            cases A with
            | none => have := (HS.out w (Beside.refl _ _)).2.1 rfl; omega
            | some ad => exact ⟨ad, rfl⟩
          have hcell := HS.out wr hbx
          have hget : l[i]? = some (l.getD i 0) := by simp [hlt]
          have htk : l.take (i + 1) = l.take i ++ [l.getD i 0] := by rw [List.take_add_one, hget]; rfl
          have ce := hcell.cell hlt
          obtain ⟨v, hv⟩ : ∃ v, v = l.getD i 0 := ⟨_, rfl⟩
          rw [← hv] at ce htk
          have hvn := HALL.out v (by rw [hv]; exact getD_mem _ _ hlt)
          obtain ⟨q, hq⟩ : ∃ q : Nat, v - 1 = (q : Int) := ⟨(v - 1).toNat, by omega⟩
          have hqn : q < n := by omega
          have hqi : (q : Int) < (n : Int) := by omega
          have hvlo : 1 ≤ v := hvn.1
          have hvhi : v ≤ 7 := by omega
          have kr : BlkT wr r 72 [.int .i64 n, .slice (some ⟨B, 0, none⟩) nn nn, .slice (some ⟨sd', 0, none⟩) n n] := (hgx.block r (by have := HB2.out.size; omega) (fun e => by injection e with e; omega)).trans KR2.out
          have cr := kr.blk.cell
          have HTK := Lib.hid htk
          have HQ := Lib.hid (show v = (q : Int) + 1 by omega)
          have HGX := Lib.hid hgx
          have KSD := Lib.hid ksd
          clear htk hget hv hvn hcell hbx kr hgx ksd
          go_wp2_with fail
          refine wp_region_phase 9 (S := fun W => (∀ q, W.cell? ⟨r, q, none⟩ = ([.int .i64 n, .slice (some ⟨B, 0, none⟩) nn nn, .slice (some ⟨sd', 0, none⟩) n n] : List Value)[q]?) ∧ W.cell? (ad.add i) = some (.int .i64 v)) (by kernel_rfl) rfl (by kernel_rfl) (fun hS => ?_) ⟨cr, ce⟩
          simp only [List.take_succ_cons, List.take_zero, List.drop_succ_cons, List.drop_zero]
          refine take_at (i := 0) (oi := _) (dst := some 36) (v := ?_) rfl rfl (by kernel_rfl) (by kernel_rfl) (by kernel_rfl) (fun _ _ _ h => h) (Or.inl ⟨by rfl, by intro w hSw; (try dsimp only at hSw); go_simp; (try with_reducible rfl)⟩) (by assumption) ?_; (try simp only [Act.put, List.setIfInBounds_toArray, List.set_cons_zero, List.set_cons_succ])
          refine take_at (i := 1) (oi := _) (dst := some 37) (v := ?_) rfl rfl (by kernel_rfl) (by kernel_rfl) (by kernel_rfl) (fun _ _ _ h => h) (Or.inl ⟨by rfl, by intro w hSw; (try dsimp only at hSw); go_simp; (try with_reducible rfl)⟩) (by assumption) ?_; (try simp only [Act.put, List.setIfInBounds_toArray, List.set_cons_zero, List.set_cons_succ])
          refine take_at (i := 2) (oi := _) (dst := some 38) (v := ?_) rfl rfl (by kernel_rfl) (by kernel_rfl) (by kernel_rfl) (fun _ _ _ h => h) (Or.inl ⟨by rfl, by intro w hSw; (try dsimp only at hSw); go_simp; (try with_reducible rfl)⟩) (by assumption) ?_; (try simp only [Act.put, List.setIfInBounds_toArray, List.set_cons_zero, List.set_cons_succ])
          refine take_at (i := 3) (oi := _) (dst := some 39) (v := ?_) rfl rfl (by kernel_rfl) (by kernel_rfl) (by kernel_rfl) (fun _ _ _ h => h) (Or.inl ⟨by rfl, by intro w hSw; (try dsimp only at hSw); go_simp; (try with_reducible rfl)⟩) (by assumption) ?_; (try simp only [Act.put, List.setIfInBounds_toArray, List.set_cons_zero, List.set_cons_succ])
          refine take_at (i := 4) (oi := _) (dst := some 40) (v := ?_) rfl rfl (by kernel_rfl) (by kernel_rfl) (by kernel_rfl) (fun _ _ _ h => h) (Or.inl ⟨by rfl, by intro w hSw; (try dsimp only at hSw); go_simp; (try with_reducible rfl)⟩) (by assumption) ?_; (try simp only [Act.put, List.setIfInBounds_toArray, List.set_cons_zero, List.set_cons_succ])
          refine take_at (i := 5) (oi := _) (dst := some 41) (v := ?_) rfl rfl (by kernel_rfl) (by kernel_rfl) (by kernel_rfl) (fun _ _ _ h => h) (Or.inl ⟨by rfl, by intro w hSw; (try dsimp only at hSw); go_simp; (try with_reducible rfl)⟩) (by assumption) ?_; (try simp only [Act.put, List.setIfInBounds_toArray, List.set_cons_zero, List.set_cons_succ])
          refine take_at (i := 6) (oi := _) (dst := some 42) (v := ?_) rfl rfl (by kernel_rfl) (by kernel_rfl) (by kernel_rfl) (fun _ _ _ h => h) (Or.inl ⟨by rfl, by intro w hSw; (try dsimp only at hSw); go_simp; (try with_reducible rfl)⟩) (by assumption) ?_; (try simp only [Act.put, List.setIfInBounds_toArray, List.set_cons_zero, List.set_cons_succ])
          refine take_at (i := 7) (oi := _) (dst := some 43) (v := ?_) rfl rfl (by kernel_rfl) (by kernel_rfl) (by kernel_rfl) (fun _ _ _ h => h) (Or.inl ⟨by rfl, by intro w hSw; (try dsimp only at hSw); go_simp; (try with_reducible rfl)⟩) (by assumption) ?_; (try simp only [Act.put, List.setIfInBounds_toArray, List.set_cons_zero, List.set_cons_succ])
          refine take_at (i := 8) (oi := _) (dst := some 44) (v := ?_) rfl rfl (by kernel_rfl) (by kernel_rfl) (by kernel_rfl) (fun _ _ _ h => h) (Or.inl ⟨by rfl, by intro w hSw; (try dsimp only at hSw); go_simp; (try with_reducible rfl)⟩) (by assumption) ?_; (try simp only [Act.put, List.setIfInBounds_toArray, List.set_cons_zero, List.set_cons_succ])
          refine wpAnyH_done (by kernel_rfl) ?_ _
          clear hS
          go_wp2_with (with_reducible refine stop_store ?_)
          refine hide (wpList_store_partT rfl 4 (.tmp 45) (.const (.bool true)) rfl sd' q 4 _ [.bool true] rfl rfl rfl _ (show BlkT wr.drew sd' _ _ from KSD.out) (by simp [sides_len]; omega) (by kernel_rfl) rfl _ (list_set_take (by rw [sides_len]; exact hqn)) ?_)
          intro w4 ksd4 hg4 hz4
          rw [sides_set hqn] at ksd4
          have e2 : sides n (fun j => decide (j ∈ l.take i) || decide (j = (q : Int) + 1)) = sides n (fun j => decide (j ∈ l.take (i + 1))) := sides_congr (fun j => by rw [HTK.out, HQ.out]; simp)
          rw [e2] at ksd4
          have KSD4 := Lib.hid ksd4
          have HG4 := Lib.hid (grownBy_on' HGX.out (show wr.grownBy w4 (some sd') from ⟨hg4.os, hg4.tape, hg4.output, hg4.size, hg4.block⟩) (fun r e => by injection e with e; exact .inl e.symm))
          clear ksd4 hg4 hz4 cr ce hq e2
          go_wp2
          go_roundw
          case rel => exact ⟨i + 1, by go_num, by omega, KSD4.out, HG4.out⟩
          case measure => simp [RowKit.intOf]; omega
        · obtain rfl : i = l.length := by omega
          have q2 : ¬ ((l.length : Int) < (l.length : Int)) := by omega
          rw [List.take_length] at ksd
          have HBX := Lib.hid hbx
          have HGX := Lib.hid hgx
          have KSD := Lib.hid ksd
          clear hbx hgx ksd
          go_wp2
          go_ret
          have hzx := HGX.out.size
          refine ⟨HBX.out, 0, _, rfl, .inr ⟨HALL.out, rfl, rfl⟩, B, sd', sl, (ref_bool HR2.out HGX.out KSD.out).mono (fun b hb => ?_)⟩
          rcases hb with hb | rfl
          · exact .inl hb
          · exact .inr ⟨hsd1, by omega⟩
end Go.Proofs.Ytjihiohmemmabaa

/- The document's net: Len, Bag, Lose. -/
import Derived.Test.YtjihiohmemmabaaNRefP
import Derived.Test.YtjihiohmemmabaaNLose
namespace Go.Proofs.Ytjihiohmemmabaa
open Go.RowKit Go.Gz
attribute [local go_sem] World.cell?_alloc_some frozen?_alloc_some

theorem slot_small {n p : Nat} (hp : p < n * n) : p / n < n ∧ p % n < n := by
  have h0 : 0 < n := by
    rcases Nat.eq_zero_or_pos n with h | h
    · subst h; simp at hp
    · exact h
  exact ⟨Nat.div_lt_of_lt_mul hp, Nat.mod_lt _ h0⟩
theorem RefAt.congr {w : World} {G : Nat → Prop} {r B sd n : Nat} {sl : List Value} {f f' : Int → Int → List Pkt} {S : Int → Bool} (h : RefAt w G r B sd sl n f S) (he : ∀ x y : Int, (1 ≤ x ∧ x ≤ n) → (1 ≤ y ∧ y ≤ n) → f x y = f' x y) : RefAt w G r B sd sl n f' S := by
  obtain ⟨h1, h2, h3, h4, h5, h6, h7⟩ := h
  refine ⟨h1, h2, h3, h4, h5, fun p hp => ?_, h7⟩
  have := slot_small hp
  have h8 := h6 p hp
  obtain ⟨u, hu⟩ : ∃ u, u = p / n := ⟨_, rfl⟩
  obtain ⟨v, hv⟩ : ∃ v, v = p % n := ⟨_, rfl⟩
  rw [← hu, ← hv] at this h8 ⊢
  rw [← he _ _ ⟨by omega, by omega⟩ ⟨by omega, by omega⟩]
  exact h8
/-- A slot's slice made nil. -/
theorem ref_nil {w w' : World} {G : Nat → Prop} {r B sd n p : Nat} {sl : List Value} {f : Int → Int → List Pkt} {S : Int → Bool} (h : RefAt w G r B sd sl n f S) (hp : p < n * n) (hG : ∀ b, G b → b < w.heap.size) (hg : w.grownBy w' (some B)) (hB : BlkT w' B 40 (sl.set p nilV)) : RefAt w' G r B sd (sl.set p nilV) n (updF f ((p / n : Nat) + 1) ((p % n : Nat) + 1) []) S :=
  ref_set (w6 := w) (zs' := []) h hp (fun _ h => h) hG ⟨rfl, rfl, rfl, Nat.le_refl _, fun _ _ _ => rfl⟩ (World.ownsRow_nil _ _ _ _) (fun q e => by cases e) (fun z hz => by cases hz) hg hB

def slotLen (n : Nat) (f : Int → Int → List Pkt) (p : Nat) : Nat := (f ((p / n : Nat) + 1) ((p % n : Nat) + 1)).length
theorem sum_le_range {h : Nat → Nat} {b : Nat} (hb : ∀ p, h p ≤ b) (k : Nat) : ((List.range k).map h).sum ≤ k * b := by
  induction k with
  | zero => simp
  | succ k ih =>
    rw [List.range_succ, List.map_append, List.sum_append, Nat.succ_mul]
    have := hb k
    simp
    omega
set_option maxHeartbeats 1600000 in
theorem rlen_any (w : World) (G : Nat → Prop) (r n : Nat) (f : Int → Int → List Pkt) (S : Int → Bool) (h : RefIs w G r n f S) (h0 : 1 ≤ n) (hn : n ≤ 7) (hsane : Sane n f) :
    Calls Try.prog 38 #[.pointer (some ⟨r, 0, none⟩)] w fun e w' => e = .returned (.int .i64 ((total fun i j => (f i j).length : Nat) : Int)) ∧ Below w.heap.size w w' := by
  have htot := total_slots h0 hn (h := fun i j => (f i j).length) (fun i j hno => by rw [hsane.1 i j hno]; rfl)
  obtain ⟨B, sd, sl, kr, kB, _, hGs, hsll, hrows, _⟩ := h
  obtain ⟨nn, hnn⟩ : ∃ nn, nn = n * n := ⟨_, rfl⟩
  have hnn49 : n * n ≤ 49 := Nat.mul_le_mul hn hn
  rw [← hnn] at kr hsll hrows hnn49 htot
  have HT := Lib.hid htot
  have HR := Lib.hid hrows
  have KR := Lib.hid kr
  have KB := Lib.hid kB
  have HSN := Lib.hid hsane
  have HL64 := Lib.hid (show ∀ p, slotLen n f p ≤ 64 from fun p => (hsane.2 _ _).1)
  clear htot hrows kr kB hsane hnn
  go_enter Try.func38, Try.ntmps38
  go_wp2_with fail
  go_loopw [3, 4] (fun s3 s4 wr => ∃ i : Nat, s4 = .int .i64 i ∧ i ≤ nn ∧ s3 = .int .i64 ((((List.range i).map (slotLen n f)).sum : Nat) : Int) ∧ Below w.heap.size w wr) (fun _ s4 _ => (nn - RowKit.intOf s4).toNat)
  case atStart => exact ⟨0, rfl, Nat.zero_le _, rfl, Below.refl _ _⟩
  case round =>
    obtain ⟨i, rfl, hi, rfl, hb⟩ := hrel
    have kr := KR.out.below hb
    have cr := kr.blk.cell
    obtain ⟨t, ht⟩ : ∃ t, t = ((List.range i).map (slotLen n f)).sum := ⟨_, rfl⟩
    have htb : t ≤ i * 64 := by rw [ht]; exact sum_le_range HL64.out i
    rw [← ht]
    by_cases hlt : i < nn
    · have q1 : (i : Int) < (nn : Int) := by omega
      have q0 : (0 : Int) ≤ (i : Int) := by omega
      obtain ⟨A, c, hsl⟩ := (HR.out i hlt).slice
      obtain ⟨k, hk⟩ : ∃ k, k = slotLen n f i := ⟨_, rfl⟩
      have hk64 : k ≤ 64 := by rw [hk]; exact HL64.out i
      have cB : wr.cell? ⟨B, i, none⟩ = some (.slice A k c) := by
        rw [(KB.out.below hb).blk.cell i, hk]
        have : i < sl.length := by omega
        unfold slotLen
        rw [← hsl]
        simp [this]
      have HST := Lib.hid (show ((List.range (i + 1)).map (slotLen n f)).sum = t + k by rw [List.range_succ, List.map_append, List.sum_append, ht, hk]; simp)
      have HK := Lib.hid hk
      clear ht hsl kr hk
      go_wp2
      go_roundw
      case rel => exact ⟨i + 1, by go_num, by omega, by rw [HST.out]; go_num, hb⟩
      case measure => simp [RowKit.intOf]; omega
    · obtain rfl : i = nn := by omega
      have q1 : ¬ ((i : Int) < (i : Int)) := by omega
      have HTT := Lib.hid ht
      clear ht
      go_wp2
      go_ret
      exact ⟨by rw [HT.out, HTT.out]; rfl, hb⟩

set_option maxHeartbeats 4000000 in
theorem rbag_any (w : World) (G : Nat → Prop) (r n : Nat) (f : Int → Int → List Pkt) (S : Int → Bool) (a b : Int) (h : RefIs w G r n f S) (hn : n ≤ 7) (hlen : (f a b).length ≤ 1000) (hfit : ∀ x ∈ f a b, x.2.2.2.length ≤ 140737488355328) :
    Calls Try.prog 37 #[.pointer (some ⟨r, 0, none⟩), .int .i64 a, .int .i64 b] w fun e w' => BagIs w w' n f a b e := by
  obtain ⟨i0, hi, hz0, hz1', hz2'⟩ := info_parts infoPkt
  have H := Lib.hid h
  have HFIT := Lib.hid hfit
  clear h hfit
  go_enter Try.func37, Try.ntmps37
  go_wp2_with fail
  refine (link_any w G r n f S a b H.out hn).mono ?_
  rintro e w1 ⟨hb1, hlink⟩
  rcases hlink with ⟨hok, p, rfl, hp, ha, hb⟩ | ⟨hno, rfl⟩
  rotate_left 1
  · have HNO := Lib.hid hno
    clear hno
    go_wp2
    refine bodyPost_ret (v := .tuple #[.slice none 0 0, .int .i64 31]) ?_ rfl ⟨hb1, none, 0, 31, [], rfl, OwnL.nil _ _, .inl rfl, .inr ⟨HNO.out, rfl, rfl⟩⟩
    simp [results, Try.results37, go_sem]
  have HOK := Lib.hid hok
  obtain ⟨B, sd, sl, hr⟩ := H.out
  obtain ⟨kr, kB, ksd, hGs, hsll, hrows, hap⟩ := hr
  obtain ⟨nn, hnn⟩ : ∃ nn, nn = n * n := ⟨_, rfl⟩
  have hnn49 : n * n ≤ 49 := Nat.mul_le_mul hn hn
  have HP := Lib.hid hp
  rw [← hnn] at kr hp hsll hnn49
  have q3 : (p : Int) < (nn : Int) := by omega
  have hown := hrows p HP.out
  rw [← ha, ← hb] at hown
  obtain ⟨A0, c0, hsl⟩ := hown.slice
  obtain ⟨xs, hxs⟩ : ∃ xs, xs = f a b := ⟨_, rfl⟩
  have HFIT' := Lib.hid (show ∀ x ∈ xs, x.2.2.2.length ≤ 140737488355328 from by rw [hxs]; exact HFIT.out)
  rw [← hxs] at hsl hlen
  rw [hsl, ← hxs] at hown
  have HO := Lib.hid hown
  have HXS := Lib.hid hxs
  have HC := Lib.hid (show ∀ W, Below w.heap.size w W → (∀ q, W.cell? ⟨r, q, none⟩ = ([.int .i64 n, .slice (some ⟨B, 0, none⟩) nn nn, .slice (some ⟨sd, 0, none⟩) n n] : List Value)[q]?) ∧ W.cell? ⟨B, p, none⟩ = some (.slice A0 xs.length c0) from fun W hb => ⟨(kr.below hb).blk.cell, by
    rw [(kB.below hb).blk.cell p, ← hsl]
    have : p < sl.length := by omega
    simp [this]⟩)
  clear hok hrows hap kr kB ksd hown hsl hxs hnn ha hb hp hsll HFIT
  go_wp2_with fail
  go_loopw [10, 11] (fun s10 s11 wr => ∃ (k : Nat) (A : Option Addr) (d : Nat), s10 = .slice A k d ∧ s11 = .int .i64 k ∧ k ≤ xs.length ∧ (A = none ∨ 0 < k) ∧ OwnL wr w.heap.size A k d (xs.take k) ∧ Below w.heap.size w wr) (fun _ s11 _ => (xs.length - RowKit.intOf s11).toNat)
  case atStart => exact ⟨0, none, 0, rfl, rfl, by omega, .inl rfl, OwnL.nil _ _, hb1⟩
  case round =>
    clear hb1
    obtain ⟨k, A, d, rfl, rfl, hk, hA, ho, hbr⟩ := hrel
    obtain ⟨cr, cB⟩ := HC.out wr hbr
    by_cases hlt : k < xs.length
    · have b0 : (0 : Int) ≤ (k : Int) := by omega
      have b1 : (k : Int) < (xs.length : Int) := by omega
      obtain ⟨ad, rfl⟩ := HO.out.is.addr (by omega)
      obtain ⟨x, D, dc, hx, hD, m0, m1, m2, m3⟩ := (HO.out.is.below hbr).at hlt
      have hxm : x ∈ xs := List.mem_of_getElem? hx
      have HX := Lib.hid hx
      have HD := Lib.hid hD
      clear hx hD
      go_wp2_with fail
      refine (rcopied_any _ x wr ⟨D, dc, rfl, HD.out⟩ (HFIT'.out x hxm)).mono ?_
      rintro e w5 ⟨hb5, cs', rfl, hr5⟩
      obtain ⟨zs, hz1, hz2, hz3, hz4⟩ := ho.below hb5
      have hbr5 := hbr.trans (hb5.mono hbr.size)
      have hr5 := hr5.mono (G := fun b => w.heap.size ≤ b) (fun b hh => by have := hbr.size; omega)
      obtain ⟨D3, d3, rfl, hd3⟩ := hr5
      have hr5 : RdP w5 (fun b => w.heap.size ≤ b) [.int .i64 x.1, .int .i64 x.2.1, .int .i64 x.2.2.1, .slice D3 x.2.2.2.length d3] x := ⟨D3, d3, rfl, hd3⟩
      clear ho hd3 cr cB m0 m1 m2 m3
      go_wp2_with (with_reducible refine stop_at (d := 46) ?_)
      refine hide (wpList_append_own_sl rfl (.tmp 33) (.tmp 45) 40 rfl w.heap.size 29 i0 _ 4 48 Try.underlying40 hi hz0 hz1' hz2' rfl (by omega) A k d (zs.flatMap (·.1)) rfl (hz3.alloc _) _ 1 1 _ rfl (sl_new w5 _ _ rfl _ [.int .i64 x.1, .int .i64 x.2.1, .int .i64 x.2.2.1, .slice D3 x.2.2.2.length d3] 4 1 rfl) hr5.one (by omega) (by omega) (by have := hbr5.size; simp; omega) ?_)
      intro A4 c4 w6 ho4 hb6 hg6
      have hsm := own_same (hz3.alloc _) hA hg6
      have hE4 : ∀ z ∈ zs, RdP w6 (fun b => w.heap.size ≤ b) z.1 z.2 := fun z hz => ((hz4 z hz).grown (Spared.of_below (below_alloc_one w5 _))).same hsm (by decide)
      have hx4 : RdP w6 (fun b => w.heap.size ≤ b) _ x := (hr5.grown (Spared.of_below (below_alloc_one w5 _))).same hsm (by decide)
      have hS := OwnL.snoc hz1 hz2 ho4 hE4 hx4
      have hbr6 : Below w.heap.size w w6 := (hbr5.alloc hbr5.size _).trans hb6
      have ht : xs.take k ++ [x] = xs.take (k + 1) := by rw [List.take_add_one, HX.out]; rfl
      rw [ht] at hS
      have HS := Lib.hid hS
      clear hS ho4 hE4 hx4 hg6 hr5 hz3 hz4 hsm
      go_wp2
      go_roundw
      case rel => exact ⟨k + 1, A4, c4, rfl, by go_num, by omega, .inr (by omega), HS.out, hbr6⟩
      case measure => simp [RowKit.intOf]; omega
    · obtain rfl : k = xs.length := by omega
      have b1 : ¬ (xs.length : Int) < (xs.length : Int) := by omega
      rw [List.take_length] at ho
      have HS := Lib.hid ho
      clear ho
      go_wp2
      refine bodyPost_ret (v := .tuple #[.slice A xs.length d, .int .i64 0]) ?_ rfl ⟨hbr, A, d, 0, xs, rfl, HS.out, hA, .inl ⟨HOK.out, rfl, HXS.out⟩⟩
      simp [results, Try.results37, go_sem]

/-- The bags while a node's links are emptied. -/
def loseTo (f : Int → Int → List Pkt) (a i : Int) : Int → Int → List Pkt := fun x y => if (x = a ∧ y < i) ∨ (y = a ∧ x < i) then [] else f x y
theorem loseTo_step (f : Int → Int → List Pkt) (a i : Int) : updF (updF (loseTo f a i) i a []) a i [] = loseTo f a (i + 1) := by
  funext x y
  unfold updF loseTo
  by_cases h1 : x = a ∧ y = i
  · rw [if_pos h1, if_pos (.inl ⟨h1.1, by omega⟩)]
  · rw [if_neg h1]
    by_cases h2 : x = i ∧ y = a
    · rw [if_pos h2, if_pos (.inr ⟨h2.2, by omega⟩)]
    · rw [if_neg h2]
      by_cases h3 : (x = a ∧ y < i) ∨ (y = a ∧ x < i)
      · rw [if_pos h3, if_pos (h3.imp (fun h => ⟨h.1, by omega⟩) (fun h => ⟨h.1, by omega⟩))]
      · rw [if_neg h3, if_neg (fun h => by omega)]
def RLoseIs (w w' : World) (G : Nat → Prop) (r n : Nat) (f : Int → Int → List Pkt) (S : Int → Bool) (a : Int) (e : Ending) : Prop := Beside G w w' ∧
  ∃ (E : Int) (f' : Int → Int → List Pkt), e = .returned (.int .i64 E) ∧ LoseF n f a E f' ∧ RefIs w' G r n f' S
set_option maxHeartbeats 4000000 in
theorem rlose_any (w : World) (G : Nat → Prop) (r n : Nat) (f : Int → Int → List Pkt) (S : Int → Bool) (a : Int) (h : RefIs w G r n f S) (hG : ∀ b, G b → b < w.heap.size) (hn : n ≤ 7) :
    Calls Try.prog 36 #[.pointer (some ⟨r, 0, none⟩), .int .i64 a] w fun e w' => RLoseIs w w' G r n f S a e := by
  have H := Lib.hid h
  clear h
  go_enter Try.func36, Try.ntmps36
  go_wp2_with fail
  refine (node_any w G r n f S a H.out).mono ?_
  rintro e w1 ⟨rfl, hb1⟩
  by_cases hok : 1 ≤ a ∧ a ≤ n
  rotate_left 1
  · have e1 : (decide (1 ≤ a) && decide (a ≤ (n : Int))) = false := by simp; omega
    rw [e1]
    have HOK := Lib.hid hok
    clear hok e1
    go_wp2
    go_ret
    exact ⟨Beside.of_below hb1, 31, f, rfl, .inl ⟨HOK.out, rfl, rfl⟩, H.out.below hb1⟩
  have e1 : (decide (1 ≤ a) && decide (a ≤ (n : Int))) = true := by simp; omega
  rw [e1]
  have HOK := Lib.hid hok
  obtain ⟨ja, hja⟩ : ∃ ja : Nat, a - 1 = (ja : Int) := ⟨(a - 1).toNat, by omega⟩
  have hjan : ja < n := by omega
  have ha0 := hok.1
  have ha7 : a ≤ 7 := by omega
  have HJA := Lib.hid (show a = (ja : Int) + 1 by omega)
  obtain ⟨B, sd, sl, hr⟩ := H.out.below hb1
  obtain ⟨nn, hnn⟩ : ∃ nn, nn = n * n := ⟨_, rfl⟩
  have hnn49 : n * n ≤ 49 := Nat.mul_le_mul hn hn
  rw [← hnn] at hnn49
  have HNN := Lib.hid hnn
  have HR := Lib.hid hr
  have hGs := hr.2.2.2.1
  have HG1 := Lib.hid (show ∀ b, G b → b < w1.heap.size from fun b hb => Nat.lt_of_lt_of_le (hG b hb) hb1.size)
  clear hok e1 hr hnn hja
  go_wp2_with fail
  go_loopw [6] (fun s6 wr => ∃ (k : Nat) (sl' : List Value), s6 = .int .i64 ((k : Int) + 1) ∧ k ≤ n ∧ RefAt wr G r B sd sl' n (loseTo f a ((k : Int) + 1)) S ∧ w1.grownBy wr (some B)) (fun s6 _ => ((n : Int) + 1 - RowKit.intOf s6).toNat)
  case atStart => exact ⟨0, sl, rfl, Nat.zero_le _, HR.out.congr (fun x y hx hy => by unfold loseTo; rw [if_neg (fun h => by omega)]), ⟨rfl, rfl, rfl, Nat.le_refl _, fun _ _ _ => rfl⟩⟩
  case round =>
    clear HR
    obtain ⟨k, sl', rfl, hk, hr, hgr⟩ := hrel
    have HGR := Lib.hid hgr
    have kr := hr.1
    have hsll := hr.2.2.2.2.1
    rw [← HNN.out] at kr hsll
    have cr := kr.blk.cell
    have HR := Lib.hid hr
    have HKR := Lib.hid kr
    have hwz := hgr.size
    clear hr hgr kr
    by_cases hlt : k < n
    · obtain ⟨v, hv⟩ : ∃ v : Int, v = (k : Int) + 1 := ⟨_, rfl⟩
      have HV := Lib.hid hv
      have hvn : v ≤ (n : Int) := by omega
      have hv1 : 1 ≤ v := by omega
      rw [← hv]
      have hP1 : (v - 1) * (n : Int) = ((k * n : Nat) : Int) := by rw [show v - 1 = (k : Int) by omega]; simp
      have hP2 : (a - 1) * (n : Int) = ((ja * n : Nat) : Int) := by rw [HJA.out, show (ja : Int) + 1 - 1 = (ja : Int) by omega]; simp
      have hl1 : k * n ≤ 49 := Nat.le_trans (Nat.mul_le_mul (by omega : k ≤ 7) hn) (by decide)
      have hl2 : ja * n ≤ 49 := Nat.le_trans (Nat.mul_le_mul (by omega : ja ≤ 7) hn) (by decide)
      have hs1 := slot_lt hlt hjan
      have hs2 := slot_lt hjan hlt
      have hd1 := slot_div (i := k) hjan
      have hd2 := slot_div (i := ja) hlt
      obtain ⟨P1, hP1'⟩ : ∃ P, P = k * n := ⟨_, rfl⟩
      obtain ⟨P2, hP2'⟩ : ∃ P, P = ja * n := ⟨_, rfl⟩
      rw [← hP1'] at hP1 hl1 hs1 hd1
      rw [← hP2'] at hP2 hl2 hs2 hd2
      rw [← HNN.out] at hs1 hs2
      obtain ⟨x1, hx1⟩ : ∃ x : Nat, x = P1 + ja := ⟨_, rfl⟩
      obtain ⟨x2, hx2⟩ : ∃ x : Nat, x = P2 + k := ⟨_, rfl⟩
      rw [← hx1] at hs1 hd1
      rw [← hx2] at hs2 hd2
      have hy1 : (P1 : Int) + a - 1 = (x1 : Int) := by have := HJA.out; omega
      have hy2 : (P2 : Int) + v - 1 = (x2 : Int) := by omega
      have hy1' : ((P1 : Int) + a).toNat - 1 = x1 := by omega
      have hy2' : ((P2 : Int) + v).toNat - 1 = x2 := by omega
      have b1 : (x1 : Int) < (nn : Int) := by omega
      have b2 : (x2 : Int) < (nn : Int) := by omega
      have HD1 := Lib.hid hd1
      have HD2 := Lib.hid hd2
      clear hv hP1' hP2' hx1 hx2 hd1 hd2
      go_wp2_with fail
      refine wp_region_phase 14 (S := fun W => ∀ q, W.cell? ⟨r, q, none⟩ = ([.int .i64 n, .slice (some ⟨B, 0, none⟩) nn nn, .slice (some ⟨sd, 0, none⟩) n n] : List Value)[q]?) (by kernel_rfl) rfl (by kernel_rfl) (fun hS => ?_) cr
      simp only [List.take_succ_cons, List.take_zero, List.drop_succ_cons, List.drop_zero]
      refine take_at (i := 0) (oi := _) (dst := some 20) (v := ?_) rfl rfl (by kernel_rfl) (by kernel_rfl) (by kernel_rfl) (fun _ _ _ h => h) (Or.inl ⟨by rfl, by intro w hSw; (try dsimp only at hSw); go_simp; (try with_reducible rfl)⟩) (by assumption) ?_; (try simp only [Act.put, List.setIfInBounds_toArray, List.set_cons_zero, List.set_cons_succ])
      refine take_at (i := 1) (oi := _) (dst := some 21) (v := ?_) rfl rfl (by kernel_rfl) (by kernel_rfl) (by kernel_rfl) (fun _ _ _ h => h) (Or.inl ⟨by rfl, by intro w hSw; (try dsimp only at hSw); go_simp; (try with_reducible rfl)⟩) (by assumption) ?_; (try simp only [Act.put, List.setIfInBounds_toArray, List.set_cons_zero, List.set_cons_succ])
      refine take_at (i := 2) (oi := _) (dst := some 22) (v := ?_) rfl rfl (by kernel_rfl) (by kernel_rfl) (by kernel_rfl) (fun _ _ _ h => h) (Or.inl ⟨by rfl, by intro w hSw; (try dsimp only at hSw); go_simp; (try with_reducible rfl)⟩) (by assumption) ?_; (try simp only [Act.put, List.setIfInBounds_toArray, List.set_cons_zero, List.set_cons_succ])
      refine take_at (i := 3) (oi := _) (dst := some 23) (v := ?_) rfl rfl (by kernel_rfl) (by kernel_rfl) (by kernel_rfl) (fun _ _ _ h => h) (Or.inl ⟨by rfl, by intro w hSw; (try dsimp only at hSw); go_simp; (try with_reducible rfl)⟩) (by assumption) ?_; (try simp only [Act.put, List.setIfInBounds_toArray, List.set_cons_zero, List.set_cons_succ])
      refine take_at (i := 4) (oi := _) (dst := some 24) (v := ?_) rfl rfl (by kernel_rfl) (by kernel_rfl) (by kernel_rfl) (fun _ _ _ h => h) (Or.inl ⟨by rfl, by intro w hSw; (try dsimp only at hSw); go_simp; (try with_reducible rfl)⟩) (by assumption) ?_; (try simp only [Act.put, List.setIfInBounds_toArray, List.set_cons_zero, List.set_cons_succ])
      refine take_at (i := 5) (oi := _) (dst := some 25) (v := ?_) rfl rfl (by kernel_rfl) (by kernel_rfl) (by kernel_rfl) (fun _ _ _ h => h) (Or.inl ⟨by rfl, by intro w hSw; (try dsimp only at hSw); go_simp; (try with_reducible rfl)⟩) (by assumption) ?_; (try simp only [Act.put, List.setIfInBounds_toArray, List.set_cons_zero, List.set_cons_succ])
      refine take_at (i := 6) (oi := _) (dst := some 26) (v := ?_) rfl rfl (by kernel_rfl) (by kernel_rfl) (by kernel_rfl) (fun _ _ _ h => h) (Or.inl ⟨by rfl, by intro w hSw; (try dsimp only at hSw); go_simp; (try with_reducible rfl)⟩) (by assumption) ?_; (try simp only [Act.put, List.setIfInBounds_toArray, List.set_cons_zero, List.set_cons_succ])
      refine take_at (i := 7) (oi := _) (dst := some 27) (v := ?_) rfl rfl (by kernel_rfl) (by kernel_rfl) (by kernel_rfl) (fun _ _ _ h => h) (Or.inl ⟨by rfl, by intro w hSw; (try dsimp only at hSw); go_simp; (try with_reducible rfl)⟩) (by assumption) ?_; (try simp only [Act.put, List.setIfInBounds_toArray, List.set_cons_zero, List.set_cons_succ])
      refine take_at (i := 8) (oi := _) (dst := some 28) (v := ?_) rfl rfl (by kernel_rfl) (by kernel_rfl) (by kernel_rfl) (fun _ _ _ h => h) (Or.inl ⟨by rfl, by intro w hSw; (try dsimp only at hSw); go_simp; (try with_reducible rfl)⟩) (by assumption) ?_; (try simp only [Act.put, List.setIfInBounds_toArray, List.set_cons_zero, List.set_cons_succ])
      refine take_at (i := 9) (oi := _) (dst := some 29) (v := ?_) rfl rfl (by kernel_rfl) (by kernel_rfl) (by kernel_rfl) (fun _ _ _ h => h) (Or.inl ⟨by rfl, by intro w hSw; (try dsimp only at hSw); go_simp; (try with_reducible rfl)⟩) (by assumption) ?_; (try simp only [Act.put, List.setIfInBounds_toArray, List.set_cons_zero, List.set_cons_succ])
      refine take_at (i := 10) (oi := _) (dst := some 30) (v := ?_) rfl rfl (by kernel_rfl) (by kernel_rfl) (by kernel_rfl) (fun _ _ _ h => h) (Or.inl ⟨by rfl, by intro w hSw; (try dsimp only at hSw); go_simp; (try with_reducible rfl)⟩) (by assumption) ?_; (try simp only [Act.put, List.setIfInBounds_toArray, List.set_cons_zero, List.set_cons_succ])
      refine take_at (i := 11) (oi := _) (dst := some 31) (v := ?_) rfl rfl (by kernel_rfl) (by kernel_rfl) (by kernel_rfl) (fun _ _ _ h => h) (Or.inl ⟨by rfl, by intro w hSw; (try dsimp only at hSw); go_simp; (try with_reducible rfl)⟩) (by assumption) ?_; (try simp only [Act.put, List.setIfInBounds_toArray, List.set_cons_zero, List.set_cons_succ])
      refine take_at (i := 12) (oi := _) (dst := some 32) (v := ?_) rfl rfl (by kernel_rfl) (by kernel_rfl) (by kernel_rfl) (fun _ _ _ h => h) (Or.inl ⟨by rfl, by intro w hSw; (try dsimp only at hSw); go_simp; (try with_reducible rfl)⟩) (by assumption) ?_; (try simp only [Act.put, List.setIfInBounds_toArray, List.set_cons_zero, List.set_cons_succ])
      refine take_at (i := 13) (oi := _) (dst := some 33) (v := ?_) rfl rfl (by kernel_rfl) (by kernel_rfl) (by kernel_rfl) (fun _ _ _ h => h) (Or.inl ⟨by rfl, by intro w hSw; (try dsimp only at hSw); go_simp; (try with_reducible rfl)⟩) (by assumption) ?_; (try simp only [Act.put, List.setIfInBounds_toArray, List.set_cons_zero, List.set_cons_succ])
      refine wpAnyH_done (by kernel_rfl) ?_ _
      clear hS
      go_wp2_with (with_reducible refine stop_store ?_)
      refine hide (wpList_store_partT rfl 40 (.tmp 34) (.const (.slice none 0 0)) rfl B x1 40 _ [.slice none 0 0] rfl rfl rfl sl' (show BlkT wr.drew B _ _ from HR.out.2.1) (by simp; omega) (by kernel_rfl) rfl _ (list_set_take (by omega)) ?_)
      intro w3 kB3 hg3 hz3
      have HR3 := Lib.hid (ref_nil HR.out (p := x1) (by rw [← HNN.out]; omega) (fun b hb => Nat.lt_of_lt_of_le (HG1.out b hb) hwz) (grown_of_drew hg3) kB3)
      have HG3 := Lib.hid (grownBy_on HGR.out (grown_of_drew hg3) (fun r e => by injection e with e; exact .inl e.symm))
      have kr3 := HR3.out.1
      rw [← HNN.out] at kr3
      have cr3 := kr3.blk.cell
      have hz3' := HG3.out.size
      clear kB3 hg3 hz3 kr3 cr hP1 hy1 HGR
      go_wp2_with fail
      refine wp_region_phase 14 (S := fun W => ∀ q, W.cell? ⟨r, q, none⟩ = ([.int .i64 n, .slice (some ⟨B, 0, none⟩) nn nn, .slice (some ⟨sd, 0, none⟩) n n] : List Value)[q]?) (by kernel_rfl) rfl (by kernel_rfl) (fun hS => ?_) cr3
      simp only [List.take_succ_cons, List.take_zero, List.drop_succ_cons, List.drop_zero]
      refine take_at (i := 0) (oi := _) (dst := some 35) (v := ?_) rfl rfl (by kernel_rfl) (by kernel_rfl) (by kernel_rfl) (fun _ _ _ h => h) (Or.inl ⟨by rfl, by intro w hSw; (try dsimp only at hSw); go_simp; (try with_reducible rfl)⟩) (by assumption) ?_; (try simp only [Act.put, List.setIfInBounds_toArray, List.set_cons_zero, List.set_cons_succ])
      refine take_at (i := 1) (oi := _) (dst := some 36) (v := ?_) rfl rfl (by kernel_rfl) (by kernel_rfl) (by kernel_rfl) (fun _ _ _ h => h) (Or.inl ⟨by rfl, by intro w hSw; (try dsimp only at hSw); go_simp; (try with_reducible rfl)⟩) (by assumption) ?_; (try simp only [Act.put, List.setIfInBounds_toArray, List.set_cons_zero, List.set_cons_succ])
      refine take_at (i := 2) (oi := _) (dst := some 37) (v := ?_) rfl rfl (by kernel_rfl) (by kernel_rfl) (by kernel_rfl) (fun _ _ _ h => h) (Or.inl ⟨by rfl, by intro w hSw; (try dsimp only at hSw); go_simp; (try with_reducible rfl)⟩) (by assumption) ?_; (try simp only [Act.put, List.setIfInBounds_toArray, List.set_cons_zero, List.set_cons_succ])
      refine take_at (i := 3) (oi := _) (dst := some 38) (v := ?_) rfl rfl (by kernel_rfl) (by kernel_rfl) (by kernel_rfl) (fun _ _ _ h => h) (Or.inl ⟨by rfl, by intro w hSw; (try dsimp only at hSw); go_simp; (try with_reducible rfl)⟩) (by assumption) ?_; (try simp only [Act.put, List.setIfInBounds_toArray, List.set_cons_zero, List.set_cons_succ])
      refine take_at (i := 4) (oi := _) (dst := some 39) (v := ?_) rfl rfl (by kernel_rfl) (by kernel_rfl) (by kernel_rfl) (fun _ _ _ h => h) (Or.inl ⟨by rfl, by intro w hSw; (try dsimp only at hSw); go_simp; (try with_reducible rfl)⟩) (by assumption) ?_; (try simp only [Act.put, List.setIfInBounds_toArray, List.set_cons_zero, List.set_cons_succ])
      refine take_at (i := 5) (oi := _) (dst := some 40) (v := ?_) rfl rfl (by kernel_rfl) (by kernel_rfl) (by kernel_rfl) (fun _ _ _ h => h) (Or.inl ⟨by rfl, by intro w hSw; (try dsimp only at hSw); go_simp; (try with_reducible rfl)⟩) (by assumption) ?_; (try simp only [Act.put, List.setIfInBounds_toArray, List.set_cons_zero, List.set_cons_succ])
      refine take_at (i := 6) (oi := _) (dst := some 41) (v := ?_) rfl rfl (by kernel_rfl) (by kernel_rfl) (by kernel_rfl) (fun _ _ _ h => h) (Or.inl ⟨by rfl, by intro w hSw; (try dsimp only at hSw); go_simp; (try with_reducible rfl)⟩) (by assumption) ?_; (try simp only [Act.put, List.setIfInBounds_toArray, List.set_cons_zero, List.set_cons_succ])
      refine take_at (i := 7) (oi := _) (dst := some 42) (v := ?_) rfl rfl (by kernel_rfl) (by kernel_rfl) (by kernel_rfl) (fun _ _ _ h => h) (Or.inl ⟨by rfl, by intro w hSw; (try dsimp only at hSw); go_simp; (try with_reducible rfl)⟩) (by assumption) ?_; (try simp only [Act.put, List.setIfInBounds_toArray, List.set_cons_zero, List.set_cons_succ])
      refine take_at (i := 8) (oi := _) (dst := some 43) (v := ?_) rfl rfl (by kernel_rfl) (by kernel_rfl) (by kernel_rfl) (fun _ _ _ h => h) (Or.inl ⟨by rfl, by intro w hSw; (try dsimp only at hSw); go_simp; (try with_reducible rfl)⟩) (by assumption) ?_; (try simp only [Act.put, List.setIfInBounds_toArray, List.set_cons_zero, List.set_cons_succ])
      refine take_at (i := 9) (oi := _) (dst := some 44) (v := ?_) rfl rfl (by kernel_rfl) (by kernel_rfl) (by kernel_rfl) (fun _ _ _ h => h) (Or.inl ⟨by rfl, by intro w hSw; (try dsimp only at hSw); go_simp; (try with_reducible rfl)⟩) (by assumption) ?_; (try simp only [Act.put, List.setIfInBounds_toArray, List.set_cons_zero, List.set_cons_succ])
      refine take_at (i := 10) (oi := _) (dst := some 45) (v := ?_) rfl rfl (by kernel_rfl) (by kernel_rfl) (by kernel_rfl) (fun _ _ _ h => h) (Or.inl ⟨by rfl, by intro w hSw; (try dsimp only at hSw); go_simp; (try with_reducible rfl)⟩) (by assumption) ?_; (try simp only [Act.put, List.setIfInBounds_toArray, List.set_cons_zero, List.set_cons_succ])
      refine take_at (i := 11) (oi := _) (dst := some 46) (v := ?_) rfl rfl (by kernel_rfl) (by kernel_rfl) (by kernel_rfl) (fun _ _ _ h => h) (Or.inl ⟨by rfl, by intro w hSw; (try dsimp only at hSw); go_simp; (try with_reducible rfl)⟩) (by assumption) ?_; (try simp only [Act.put, List.setIfInBounds_toArray, List.set_cons_zero, List.set_cons_succ])
      refine take_at (i := 12) (oi := _) (dst := some 47) (v := ?_) rfl rfl (by kernel_rfl) (by kernel_rfl) (by kernel_rfl) (fun _ _ _ h => h) (Or.inl ⟨by rfl, by intro w hSw; (try dsimp only at hSw); go_simp; (try with_reducible rfl)⟩) (by assumption) ?_; (try simp only [Act.put, List.setIfInBounds_toArray, List.set_cons_zero, List.set_cons_succ])
      refine take_at (i := 13) (oi := _) (dst := some 48) (v := ?_) rfl rfl (by kernel_rfl) (by kernel_rfl) (by kernel_rfl) (fun _ _ _ h => h) (Or.inl ⟨by rfl, by intro w hSw; (try dsimp only at hSw); go_simp; (try with_reducible rfl)⟩) (by assumption) ?_; (try simp only [Act.put, List.setIfInBounds_toArray, List.set_cons_zero, List.set_cons_succ])
      refine wpAnyH_done (by kernel_rfl) ?_ _
      clear hS
      go_wp2_with (with_reducible refine stop_store ?_)
      refine hide (wpList_store_partT rfl 40 (.tmp 49) (.const (.slice none 0 0)) rfl B x2 40 _ [.slice none 0 0] rfl rfl rfl (sl'.set x1 nilV) (show BlkT w3.drew B _ _ from HR3.out.2.1) (by simp; omega) (by kernel_rfl) rfl _ (list_set_take (by simp; omega)) ?_)
      intro w4 kB4 hg4 hz4
      have HR4 := Lib.hid (ref_nil HR3.out (p := x2) (by rw [← HNN.out]; omega) (fun b hb => Nat.lt_of_lt_of_le (HG1.out b hb) hz3') (grown_of_drew hg4) kB4)
      have HG4 := Lib.hid (grownBy_on HG3.out (grown_of_drew hg4) (fun r e => by injection e with e; exact .inl e.symm))
      clear kB4 hg4 hz4 cr3 hP2 hy2
      go_wp2
      go_roundw
      case rel =>
        refine ⟨k + 1, (sl'.set x1 nilV).set x2 nilV, ?_, by omega, ?_, HG4.out⟩
        · rw [HV.out]; go_num
        · rw [show (((k + 1 : Nat) : Int) + 1) = ((k : Int) + 1) + 1 by omega]
          have h4 := HR4.out
          rw [HD1.out.1, HD1.out.2, HD2.out.1, HD2.out.2, ← HJA.out, loseTo_step] at h4
          exact h4
      case measure => simp [RowKit.intOf, HV.out]; omega
    · obtain rfl : k = n := by omega
      have q1 : ¬ ((k : Int) + 1 ≤ (k : Int)) := by omega
      go_wp2
      go_ret
      refine ⟨(Beside.of_below hb1).trans (Beside.of_grown HGR.out (fun q e => by injection e with e; subst e; exact .inl (.inl hGs.2.1))), 0, _, rfl, .inr ⟨HOK.out, rfl, rfl⟩, B, sd, sl', HR.out.congr (fun x y hx hy => ?_)⟩
      unfold loseTo
      by_cases e : x = a ∨ y = a
      · rw [if_pos e, if_pos (e.imp (fun e => ⟨e, by omega⟩) (fun e => ⟨e, by omega⟩))]
      · rw [if_neg e, if_neg (fun h => e (h.imp (·.1) (·.1)))]
end Go.Proofs.Ytjihiohmemmabaa

/- pick; Same: packets read alike. -/
import Derived.Test.YtjihiohmemmabaaNPart
namespace Go.Proofs.Ytjihiohmemmabaa
open Go.RowKit Go.Gz
attribute [local go_sem] World.cell?_alloc_some frozen?_alloc_some

def pickI (c n : Int) : Int := (if c < 0 then -(c + 1) else c).tmod n
theorem pick_any (c n : Int) (w : World) (h0 : 0 < n) (h1 : n ≤ 100) (hc0 : -9223372036854775808 ≤ c) (hc1 : c < 9223372036854775808) :
    Calls Try.prog 17 #[.int .i64 c, .int .i64 n] w fun e w' => e = .returned (.int .i64 (pickI c n)) ∧ w' = w := by
  go_enter Try.func17, Try.ntmps17
  by_cases hc : c < 0
  · have e : pickI c n = -((c + 1).tmod n) := by rw [pickI, if_pos hc, Int.neg_tmod]
    rw [e]
    clear e
    go_wp2
    go_ret
    exact ⟨rfl, rfl⟩
  · have e : pickI c n = c % n := by rw [pickI, if_neg hc, Int.tmod_eq_emod_of_nonneg (by omega)]
    rw [e]
    clear e
    go_wp2
    go_ret
    exact ⟨rfl, rfl⟩

/-- A slice reads as packets. -/
def IsPs (w : World) (A : Option Addr) (n : Nat) (xs : List Pkt) : Prop := ∃ zs : List (List Value × Pkt), zs.map (·.2) = xs ∧ zs.length = n ∧ SlA w 4 A n (zs.flatMap (·.1)) ∧ ∀ z ∈ zs, IsP w z.1 z.2
theorem IsPs.below {w w' : World} {A : Option Addr} {n : Nat} {xs : List Pkt} (h : IsPs w A n xs) (hb : Below w.heap.size w w') : IsPs w' A n xs := by
  obtain ⟨zs, h1, h2, h3, h4⟩ := h
  exact ⟨zs, h1, h2, h3.below hb, fun z hz => (h4 z hz).below hb⟩
theorem IsPs.len {w : World} {A : Option Addr} {n : Nat} {xs : List Pkt} (h : IsPs w A n xs) : xs.length = n := by
  obtain ⟨zs, h1, h2, _⟩ := h
  rw [← h1, List.length_map, h2]
theorem IsPs.addr {w : World} {A : Option Addr} {n : Nat} {xs : List Pkt} (h : IsPs w A n xs) (hn : 0 < n) : ∃ ad, A = some ad := by
  obtain ⟨zs, h1, h2, h3, _⟩ := h
  cases A with
  | none => have := h3.2.1 rfl; omega
  | some ad => exact ⟨ad, rfl⟩
theorem IsP.len {w : World} {cs : List Value} {x : Pkt} (h : IsP w cs x) : cs.length = 4 := by
  obtain ⟨D, dc, rfl, _⟩ := h
  rfl
theorem IsPs.at {w : World} {n : Nat} {ad : Addr} {xs : List Pkt} (h : IsPs w (some ad) n xs) {j : Nat} (hj : j < n) : ∃ x D dc, xs[j]? = some x ∧ SlA w 1 D x.2.2.2.length (nums .u8 x.2.2.2) ∧
    w.cell? (ad.add (j * 4)) = some (.int .i64 x.1) ∧ w.cell? ⟨(ad.add (j * 4)).block, (ad.add (j * 4)).off + 1, none⟩ = some (.int .i64 x.2.1) ∧ w.cell? ⟨(ad.add (j * 4)).block, (ad.add (j * 4)).off + 2, none⟩ = some (.int .i64 x.2.2.1) ∧
    w.cell? ⟨(ad.add (j * 4)).block, (ad.add (j * 4)).off + 3, none⟩ = some (.slice D x.2.2.2.length dc) := by
  obtain ⟨zs, h1, rfl, h3, h4⟩ := h
  have hz := h4 (zs[j]) (List.getElem_mem hj)
  obtain ⟨D, dc, e, hd⟩ := hz
  have cm := fun r hr => flat_cell (fun z : List Value × Pkt => z.1) h3 (fun z hz => (h4 z hz).len) hj r hr
  rw [e] at cm
  refine ⟨(zs[j]).2, D, dc, by rw [← h1]; simp [hj], hd, cm 0 (by omega), ?_, ?_, ?_⟩
  · rw [add_of ad (j * 4) 1 (by omega)]; exact cm 1 (by omega)
  · rw [add_of ad (j * 4) 2 (by omega)]; exact cm 2 (by omega)
  · rw [add_of ad (j * 4) 3 (by omega)]; exact cm 3 (by omega)
theorem OwnPs.is {w : World} {F : Nat → Prop} {A : Option Addr} {n c : Nat} {xs : List Pkt} (h : OwnPs w F (.slice A n c) xs) : IsPs w A n xs := by
  obtain ⟨zs, h1, h2, h3, h4⟩ := h
  have hn : n = zs.length := by
    rcases h2.2 with ⟨hv, h0⟩ | ⟨g, cap, cur, hv, _⟩
    · injection hv with _ hv _; omega
    · injection hv
  exact ⟨zs, h1, hn.symm, by rw [hn]; rw [hn] at h2; exact ownsRow_sl h2, fun z hz => (h4 z hz).is⟩

theorem bne_true {a b : Int} (h : ¬ a = b) : (a != b) = true := by simp [h]
theorem bne_false {a b : Int} (h : a = b) : (a != b) = false := by simp [h]
/-- What Same compares. -/
def pk (x : Pkt) : Int × Int × Int × List UInt8 := (x.1, x.2.1, x.2.2.1, (strOfNums x.2.2.2).toList)
theorem pk_take {xs ys : List Pkt} {j : Nat} {x y : Pkt} (hx : xs[j]? = some x) (hy : ys[j]? = some y) (h : (xs.take j).map pk = (ys.take j).map pk) (he : pk x = pk y) : (xs.take (j + 1)).map pk = (ys.take (j + 1)).map pk := by
  rw [List.take_add_one, List.take_add_one, hx, hy]
  simp [h, he]
theorem pk_ne {xs ys : List Pkt} {j : Nat} {x y : Pkt} (hx : xs[j]? = some x) (hy : ys[j]? = some y) (he : ¬ pk x = pk y) : decide (xs.map pk = ys.map pk) = false := by
  refine decide_eq_false (fun h => he ?_)
  have h1 : (xs.map pk)[j]? = (ys.map pk)[j]? := by rw [h]
  simpa [hx, hy] using h1

set_option maxHeartbeats 1600000 in
theorem same_any (A B : Option Addr) (n c m d : Nat) (xs ys : List Pkt) (w : World) (h : IsPs w A n xs) (h' : IsPs w B m ys) (hn : n ≤ 140737488355328) :
    Calls Try.prog 19 #[.slice A n c, .slice B m d] w fun e w' => e = .returned (.bool (decide (xs.map pk = ys.map pk))) ∧ Below w.heap.size w w' := by
  have hxl := h.len
  have hyl := h'.len
  have H := Lib.hid h
  have H' := Lib.hid h'
  clear h h'
  go_enter Try.func19, Try.ntmps19
  by_cases hnm : n = m
  rotate_left 1
  · have e1 : ((n : Int) == (m : Int)) = false := beq_eq_false_iff_ne.2 (by omega)
    have e2 : decide (xs.map pk = ys.map pk) = false := decide_eq_false (fun hh => hnm (by
      have := congrArg List.length hh
      simp at this
      omega))
    rw [e2]
    clear e2
    go_wp2
    go_ret
    exact ⟨rfl, Below.refl _ _⟩
  subst hnm
  go_wp2_with fail
  go_loopw [5] (fun s5 wr => ∃ j : Nat, s5 = .int .i64 j ∧ j ≤ n ∧ (xs.take j).map pk = (ys.take j).map pk ∧ Below w.heap.size w wr) (fun s5 _ => (n - RowKit.intOf s5).toNat)
  case atStart => exact ⟨0, rfl, by omega, rfl, Below.refl _ _⟩
  case round =>
    obtain ⟨j, rfl, hj, heq, hbr⟩ := hrel
    have HEQ := Lib.hid heq
    clear heq
    by_cases hlt : j < n
    · have b0 : (0 : Int) ≤ (j : Int) := by omega
      have b1 : (j : Int) < (n : Int) := by omega
      obtain ⟨ad, rfl⟩ := H.out.addr (by omega)
      obtain ⟨bd, rfl⟩ := H'.out.addr (by omega)
      obtain ⟨x, D, dc, hx, hD, m0, m1, m2, m3⟩ := (H.out.below hbr).at hlt
      obtain ⟨y, D', dc', hy, hD', q0, q1, q2, q3⟩ := (H'.out.below hbr).at hlt
      have v1 := fun a => run_convert_sl (P := Try.prog) 22 5 9 Try.underlying22 Try.underlying5 Try.underlying9 (hD.below (below_drewN (Below.refl _ _) a))
      have v2 := fun a => run_convert_sl (P := Try.prog) 22 5 9 Try.underlying22 Try.underlying5 Try.underlying9 (hD'.below (below_drewN (Below.refl _ _) a))
      have HX := Lib.hid hx
      have HY := Lib.hid hy
      clear hx hy hD hD'
      by_cases c0 : x.1 = y.1
      rotate_left 1
      · have f0 : (x.1 != y.1) = true := bne_true c0
        have HNE := Lib.hid (pk_ne HX.out HY.out (fun he => c0 (congrArg (·.1) he)))
        clear c0
        go_wp2_with fail
        go_quiet (fail)
        go_wp2
        go_ret
        exact ⟨by rw [HNE.out]; rfl, below_drewN hbr _⟩
      have f0 : (x.1 != y.1) = false := bne_false c0
      by_cases c1 : x.2.1 = y.2.1
      rotate_left 1
      · have f1 : (x.2.1 != y.2.1) = true := bne_true c1
        have HNE := Lib.hid (pk_ne HX.out HY.out (fun he => c1 (congrArg (·.2.1) he)))
        clear c0 c1
        go_wp2_with fail
        go_quiet (fail)
        go_wp2
        go_ret
        exact ⟨by rw [HNE.out]; rfl, below_drewN hbr _⟩
      have f1 : (x.2.1 != y.2.1) = false := bne_false c1
      by_cases c2 : x.2.2.1 = y.2.2.1
      rotate_left 1
      · have f2 : (x.2.2.1 != y.2.2.1) = true := bne_true c2
        have HNE := Lib.hid (pk_ne HX.out HY.out (fun he => c2 (congrArg (·.2.2.1) he)))
        clear c0 c1 c2
        go_wp2_with fail
        go_quiet (fail)
        go_wp2
        go_ret
        exact ⟨by rw [HNE.out]; rfl, below_drewN hbr _⟩
      have f2 : (x.2.2.1 != y.2.2.1) = false := bne_false c2
      by_cases c3 : (strOfNums x.2.2.2).toList = (strOfNums y.2.2.2).toList
      rotate_left 1
      · have f3 : ((strOfNums x.2.2.2).toList == (strOfNums y.2.2.2).toList) = false := beq_eq_false_iff_ne.2 c3
        have HNE := Lib.hid (pk_ne HX.out HY.out (fun he => c3 (congrArg (·.2.2.2) he)))
        clear c0 c1 c2 c3
        go_wp2_with fail
        go_quiet (fail)
        go_wp2
        go_ret
        exact ⟨by rw [HNE.out]; rfl, below_drewN hbr _⟩
      have f3 : ((strOfNums x.2.2.2).toList == (strOfNums y.2.2.2).toList) = true := beq_iff_eq.2 c3
      have HEQ2 := Lib.hid (pk_take HX.out HY.out HEQ.out (by unfold pk; rw [c0, c1, c2, c3]))
      clear c0 c1 c2 c3
      go_wp2_with fail
      go_quiet (fail)
      go_wp2
      all_goals
        go_roundw
        case rel => exact ⟨j + 1, by go_num, by omega, HEQ2.out, below_drewN hbr _⟩
        case measure => simp [RowKit.intOf]; omega
    · obtain rfl : j = n := by omega
      have b1 : ¬ (j : Int) < (j : Int) := by omega
      have HE := Lib.hid (show decide (xs.map pk = ys.map pk) = true by
        have := HEQ.out
        rw [List.take_of_length_le (by omega), List.take_of_length_le (by omega)] at this
        exact decide_eq_true this)
      go_wp2
      go_ret
      exact ⟨by rw [HE.out]; rfl, hbr⟩
end Go.Proofs.Ytjihiohmemmabaa

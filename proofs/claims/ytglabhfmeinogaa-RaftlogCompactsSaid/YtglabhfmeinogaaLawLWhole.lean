/- RaftlogWhole: the law's walk. -/
import Derived.Test.YtglabhfmeinogaaLMerge
namespace Go.Proofs.Ytglabhfmeinogaa
open Go.RowKit Go.Gz
attribute [local go_sem] World.cell?_alloc_some frozen?_alloc_some

theorem lastI_right {bi : Int} {xs : List Ent} (hr : Right bi xs) : lastI bi xs = bi + xs.length := by
  cases hl : xs.length with
  | zero => obtain rfl := List.eq_nil_of_length_eq_zero hl; simp [lastI]
  | succ m =>
    have hx := List.getElem?_eq_getElem (show m < xs.length by omega)
    rw [(last_at hl hx bi).1, hr.2 _ _ hx]
    omega
theorem Right.take {bi : Int} {xs : List Ent} (hr : Right bi xs) (q : Nat) : Right bi (xs.take q) :=
  ⟨by have := hr.1; rw [List.length_take]; omega, fun j x hx => by
    rw [List.getElem?_take] at hx
    split at hx
    · exact hr.2 j x hx
    · cases hx⟩
theorem lastT_cons (tm : Int) (x : Ent) (ys : List Ent) : lastT tm (x :: ys) = lastT x.2.1 ys := by
  unfold lastT
  rw [List.getLast?_cons]
  cases h : ys.getLast? <;> simp
theorem runL_drop : ∀ (xs : List Ent) (ix tm : Int) (q : Nat), runL ix tm xs = true → q ≤ xs.length → runL (ix + q) (lastT tm (xs.take q)) (xs.drop q) = true
  | xs, ix, tm, 0, h, _ => by simpa [lastT] using h
  | [], ix, tm, q + 1, _, hq => by simp at hq
  | x :: xs, ix, tm, q + 1, h, hq => by
    rw [runL_cons, Bool.and_eq_true] at h
    have := runL_drop xs (ix + 1) x.2.1 q h.2 (by simpa using hq)
    rw [List.take_succ_cons, lastT_cons, List.drop_succ_cons]
    rw [← this]
    congr 1
    omega
theorem runL_take : ∀ (xs : List Ent) (ix tm : Int) (r : Nat), runL ix tm xs = true → runL ix tm (xs.take r) = true
  | _, _, _, 0, _ => by simp [runL]
  | [], _, _, _ + 1, h => by simpa using h
  | x :: xs, ix, tm, r + 1, h => by
    rw [runL_cons, Bool.and_eq_true] at h
    rw [List.take_succ_cons, runL_cons, Bool.and_eq_true]
    exact ⟨h.1, runL_take xs _ _ r h.2⟩
theorem place_right {bi : Int} {xs : List Ent} {p q : Nat} (hr : Right bi xs) (hq : q ≤ xs.length) (hp : p ≤ xs.length) (hA : AtLeast xs p (bi + q + 1)) (hU : Under xs p (bi + q + 1)) : p = q := by
  by_cases h1 : p < q
  · have hx := List.getElem?_eq_getElem (show p < xs.length by omega)
    have h2 := hA _ hx
    have h3 := hr.2 _ _ hx
    omega
  · by_cases h4 : p = 0
    · omega
    · have hx := List.getElem?_eq_getElem (show p - 1 < xs.length by omega)
      have h2 := hU _ (by omega) hx
      have h3 := hr.2 _ _ hx
      omega
theorem termO_none {bi bt ix : Int} {xs : List Ent} (h : bi + xs.length < ix) : termO bi bt xs ix = none := by
  have h1 : ¬ ix = bi := by omega
  have h2 : bi < ix := by omega
  simp only [termO, h1, h2, if_false, if_true]
  rw [List.getElem?_eq_none (by omega)]
  rfl
theorem termO_last {bi bt : Int} {xs : List Ent} : termO bi bt xs (bi + xs.length) = some (lastT bt xs) := by
  cases hl : xs.length with
  | zero => obtain rfl := List.eq_nil_of_length_eq_zero hl; simp [termO, lastT]
  | succ m =>
    have hx := List.getElem?_eq_getElem (show m < xs.length by omega)
    rw [(last_at hl hx bt).2]
    have h1 : ¬ bi + ((m + 1 : Nat) : Int) = bi := by omega
    have h2 : bi < bi + ((m + 1 : Nat) : Int) := by omega
    have h3 : (bi + ((m + 1 : Nat) : Int) - bi - 1).toNat = m := by omega
    simp only [termO, h1, h2, if_false, if_true, h3, hx]
    rfl

/-- What Merge does with the next entries, behind the log's first ones. -/
theorem whole_merge {w : World} {base : Nat} {bi bt : Int} {na nb nd q r : Nat} {l k z : List Int} {xs : List Ent} {e : Ending} (hrun : runB bi bt xs = true) (hr0 : 0 < r) (hrn : q + r ≤ xs.length)
    (hm : MergeIs w base bi bt bi (bi + q) (lastT bt (xs.take q)) na nb nd q r l k z (xs.take q) ((xs.drop q).take r) e) :
    ∃ v C cc, OwnLog w base bi bt na nb nd (q + r) l k z (xs.take (q + r)) v ∧ OwnEs w base C r cc ((xs.drop q).take r) ∧ e = .returned (.tuple #[v, .int .u64 0, .slice C r cc, .int .i64 0]) := by
  have hr := right_of_run hrun
  have htl : (xs.take q).length = q := by rw [List.length_take]; omega
  have hml : ((xs.drop q).take r).length = r := by rw [List.length_take, List.length_drop]; omega
  have hidx : ∀ y ∈ (xs.drop q).take r, bi + (xs.take q).length < y.1 := fun y hy => by
    obtain ⟨i, hi⟩ := List.getElem?_of_mem (List.mem_of_mem_take hy)
    rw [List.getElem?_drop] at hi
    have := hr.2 _ _ hi
    rw [htl]
    omega
  have hnone : ∀ y ∈ (xs.drop q).take r, termO bi bt (xs.take q) y.1 = none := fun y hy => termO_none (hidx y hy)
  have hmay : MayB bi bt bi (bi + q) (lastT bt (xs.take q)) (xs.take q) ((xs.drop q).take r) := by
    refine ⟨?_, ?_, fun y hy => by simp [heldB, otherB, hnone y hy]⟩
    · have h1 := hrun
      simp only [runB, Bool.and_eq_true, decide_eq_true_eq] at h1 ⊢
      refine ⟨⟨by omega, by rw [hml]; omega⟩, runL_take _ _ _ _ (runL_drop _ _ _ _ h1.2 (by omega))⟩
    · have := @termO_last bi bt (xs.take q)
      rwa [htl] at this
  have hfr : ∀ y ∈ (xs.drop q).take r, freshB bi bt (xs.take q) y = true := fun y hy => by simp [freshB, hnone y hy]
  rcases hm with hm | hm | hm
  · exact absurd hmay hm.1
  · obtain ⟨y, hy⟩ : ∃ y, y ∈ (xs.drop q).take r := List.exists_mem_of_length_pos (by omega)
    have h1 := hm.2.1 y hy
    rw [hfr y hy] at h1
    cases h1
  · obtain ⟨_, f, p, x, hx, _, hU, hp, hA, hUn, v, C, cc, hv, hC, he⟩ := hm
    have hf0 : f = 0 := by
      rcases Nat.eq_zero_or_pos f with h | h
      · exact h
      · exfalso
        have hfl := (List.getElem?_eq_some_iff.1 hx).1
        obtain ⟨y, hy⟩ : ∃ y, y ∈ ((xs.drop q).take r).take f := List.exists_mem_of_length_pos (by rw [List.length_take]; omega)
        have h1 := hU y hy
        rw [hfr y (List.mem_of_mem_take hy)] at h1
        cases h1
    subst hf0
    have hx1 := hidx x (List.mem_of_getElem? hx)
    have hpq : p = q := by
      rcases Nat.lt_or_ge p q with h | h
      · have hy := List.getElem?_eq_getElem (show p < (xs.take q).length by omega)
        have h1 := hA _ hy
        have h2 := (hr.take q).2 _ _ hy
        omega
      · omega
    subst hpq
    rw [List.drop_zero, List.take_take, Nat.min_self, Nat.sub_zero] at *
    rw [if_neg (Nat.lt_irrefl _)] at he
    have e : xs.take p ++ (xs.drop p).take r = xs.take (p + r) := by rw [List.take_add]
    rw [e] at hv
    exact ⟨v, C, cc, hv, hC, he⟩
/-- One slice of it tells the next ones. -/
theorem whole_many {bi : Int} {xs : List Ent} {p q : Nat} {most : Int} (hr : Right bi xs) (hq : q < xs.length) (hp : p ≤ xs.length) (hA : AtLeast xs p (bi + q + 1)) (hU : Under xs p (bi + q + 1)) (h1 : 1 ≤ most) : p = q ∧ 0 < many (xs.length - p) most ∧ q + many (xs.length - p) most ≤ xs.length ∧ (many (xs.length - p) most : Int) ≤ most := by
  obtain rfl := place_right hr (by omega) hp hA hU
  unfold many
  omega
theorem OwnLog.is {w : World} {base : Nat} {bi bt : Int} {na nb nd n : Nat} {l k z : List Int} {xs : List Ent} {v : Value} (h : OwnLog w base bi bt na nb nd n l k z xs v) : ∃ A ca B cb D cd O c, v = lg bi bt A na ca B nb cb D nd cd O n c ∧ IsLog w A B D O na nb nd n l k z xs := by
  obtain ⟨A, ca, B, cb, D, cd, O, c, hv, h1, h2⟩ := h
  exact ⟨A, ca, B, cb, D, cd, O, c, hv, h1.is, h2.is⟩

set_option maxRecDepth 100000 in
set_option maxHeartbeats 8000000 in
theorem lawWhole_any (bi bt : Int) (A : Option Addr) (na ca : Nat) (B : Option Addr) (nb cb : Nat) (D : Option Addr) (nd cd : Nat) (O : Option Addr) (n c : Nat) (l k z : List Int) (xs : List Ent) (most : Int) (w : World)
    (h : IsLog w A B D O na nb nd n l k z xs) (hf : ∀ x ∈ xs, Fits x) (hnc : n ≤ c) (hn : n * 96 ≤ 140737488355328) (hna : na * 8 ≤ 140737488355328) (hnb : nb * 8 ≤ 140737488355328) (hnd : nd ≤ 140737488355328) (hb0 : 0 ≤ bi) (hb1 : bi < 18446744073709551616) :
    Calls Try.prog 3 #[lg bi bt A na ca B nb cb D nd cd O n c, .int .i64 most] w fun e w' => e = .returned (.bool true) ∧ Below w.heap.size w w' := by
  have H := Lib.hid h
  have HF := Lib.hid hf
  have hxl := h.2.len
  clear h hf
  go_enter Try.func3, Try.ntmps3
  go_wp2_with fail
  refine name_calls (fun w1 hw1 => ?_)
  have k2 : Blk w1 w.heap.size [.int .u64 bi, .int .u64 bt, .slice A na ca, .slice B nb cb, .slice D nd cd, .slice O n c] := by rw [hw1]; exact Blk.new _ _ _ _ rfl
  have hb1' : Below w.heap.size w w1 := by rw [hw1]; exact (by (repeat first | refine Below.setCell ?_ (by first | omega | (dsimp only; omega) | (simp only [heap_drew, World.size_alloc, Gz.size_setCell]; omega)) _ | refine Below.alloc ?_ (by first | omega | (dsimp only; omega) | (simp only [heap_drew, World.size_alloc, Gz.size_setCell]; omega)) _ | refine Below.drew ?_); exact Below.refl _ _)
  clear hw1
  refine (head_any w1).mono ?_
  rintro e w2 ⟨rfl, hb2⟩
  have k2 := k2.ext hb2
  have hb2 := hb1'.trans (hb2.mono hb1'.size)
  have c2 := k2.cell
  go_wp2_with fail
  refine (checkX_any bi bt A na ca B nb cb D nd cd O n c xs w2 (H.out.2.below hb2) (by omega) hb0 hb1).mono ?_
  rintro e w3 ⟨rfl, hb3⟩
  have k2 := k2.ext hb3
  have k2lt : w.heap.size < w3.heap.size := k2.lt
  have hb3 := hb2.trans (hb3.mono hb2.size)
  obtain ⟨b, hb⟩ : ∃ b, b = chkB bi bt xs := ⟨_, rfl⟩
  rw [← hb]
  have HB := Lib.hid hb
  clear hb c2
  cases b with
  | false =>
    go_wp2
    go_ret
    exact ⟨rfl, hb3⟩
  | true =>
    by_cases g1 : most < 1
    · go_wp2
      go_ret
      exact ⟨rfl, hb3⟩
    by_cases g2 : 50 < most
    · go_wp2
      go_ret
      exact ⟨rfl, hb3⟩
    have HRUN := Lib.hid (show runB bi bt xs = true by have := HB.out; simp only [chkB] at this; exact (Bool.and_eq_true_iff.1 this.symm).2)
    have HRT := Lib.hid (right_of_run HRUN.out)
    have hbn : bi + n < 4611686018427387904 := by have := HRT.out.1; omega
    have c2 := k2.cell
    go_wp2_with (with_reducible refine stop_store ?_)
    refine hide (name_list (fun w4 hw4 => ?_))
    have hbw4 : Below w3.heap.size w3 w4 := by rw [hw4]; exact below_alloc_one _ _
    have k7 : Blk w4 w3.heap.size [.int .u64 0, .int .u64 0, .slice none 0 0, .slice none 0 0, .slice none 0 0, .slice none 0 0] := by rw [hw4]; exact Blk.new _ _ _ _ rfl
    have hz4 : w4.heap.size = w3.heap.size + 1 := by rw [hw4]; simp
    clear hw4 c2
    have k2 := k2.ext hbw4
    have hb4 := hb3.trans (hbw4.mono hb3.size)
    refine hide (wpList_store_blk rfl 31 (.tmp 7) (.tmp 39) rfl w3.heap.size [.int .u64 bi, .int .u64 bt, .slice A na ca, .slice B nb cb, .slice D nd cd, .slice none 0 0] rfl rfl _ k7 rfl (by kernel_rfl) rfl ?_)
    intro w5 k7 hg5 hz5
    have hz3 := hb3.size
    have hz1 := k2.lt
    have k2 := blk_grown k2 hg5 (by omega)
    have hb5 : Below w.heap.size w w5 := below_grown hb4 hg5 (by omega) (by omega)
    have c2 := k2.cell
    go_wp2_with fail
    refine (last_any bi bt A na ca B nb cb D nd cd O n c xs w5 (H.out.2.below hb5) (by omega)).mono ?_
    rintro e w6 ⟨rfl, hb6⟩
    have k2 := k2.ext hb6
    have k7 := k7.ext hb6
    have hb6 := hb5.trans (hb6.mono hb5.size)
    have hlst : lastI bi xs = bi + n := by rw [lastI_right HRT.out, hxl]
    rw [hlst]
    have K2 := hide k2
    have hz6 := k2.lt
    clear c2 hlst
    go_wp2_with fail
    go_loopw [10] (fun s10 wr => ∃ (i q : Nat) (A' : Option Addr) (a' : Nat) (B' : Option Addr) (b' : Nat) (D' : Option Addr) (d' : Nat) (O' : Option Addr) (c' : Nat), s10 = .int .i64 i ∧ i ≤ q ∧ q ≤ n ∧ Blk wr w3.heap.size [.int .u64 bi, .int .u64 bt, .slice A' na a', .slice B' nb b', .slice D' nd d', .slice O' q c'] ∧ IsLog wr A' B' D' O' na nb nd q l k z (xs.take q) ∧ Blk wr w.heap.size [.int .u64 bi, .int .u64 bt, .slice A na ca, .slice B nb cb, .slice D nd cd, .slice O n c] ∧ Below w.heap.size w wr) (fun s10 _ => (n + 1 - intOf s10).toNat)
    case atStart => exact ⟨0, 0, A, ca, B, cb, D, cd, none, 0, rfl, by omega, by omega, k7, ⟨H.out.1.below hb6, IsEs.nil _⟩, k2, hb6⟩
    case round =>
      obtain ⟨i, q, A', a', B', b', D', d', O', c', rfl, hiq, hq, k7, hx, k2, hbr⟩ := hrel
      have HX := Lib.hid hx
      clear hx K2
      have b1 : (i : Int) ≤ (n : Int) := by omega
      have c2 := k2.cell
      have c7 := k7.cell
      have htl : (xs.take q).length = q := by rw [List.length_take]; omega
      go_wp2_with fail
      refine (last_any bi bt A' na a' B' nb b' D' nd d' O' q c' (xs.take q) wr HX.out.2 (by omega)).mono ?_
      rintro e w8 ⟨rfl, hb8⟩
      have hl1 : lastI bi (xs.take q) = bi + q := by rw [lastI_right (HRT.out.take q), htl]
      rw [hl1]
      obtain ⟨tq, htq⟩ : ∃ tq, tq = lastT bt (xs.take q) := ⟨_, rfl⟩
      rw [← htq]
      have HTQ := Lib.hid htq
      clear hl1 htq c2 c7
      have k2 := k2.ext hb8
      have k7 := k7.ext hb8
      have hx8 := HX.out.below hb8
      have hbr := hbr.trans (hb8.mono hbr.size)
      have HX := Lib.hid hx8
      have c2 := k2.cell
      have c7 := k7.cell
      clear hx8
      by_cases hqn : q = n
      · subst hqn
        have hfull : xs.take q = xs := List.take_of_length_le (by omega)
        have HX := Lib.hid (show IsLog w8 A' B' D' O' na nb nd q l k z xs by have := HX.out; rwa [hfull] at this)
        clear hfull
        go_wp2_with fail
        refine (sameLog_any bi bt A' na a' B' nb b' D' nd d' O' q c' A ca B cb D cd O c l k z xs w8 HX.out (H.out.below hbr) HF.out (by omega) (by omega) (by omega)).mono ?_
        rintro e w9 ⟨rfl, hb9⟩
        go_wp2
        go_ret
        exact ⟨rfl, hbr.trans (hb9.mono hbr.size)⟩
      · have b2 : (bi + (q : Int) == bi + (n : Int)) = false := beq_eq_false_iff_ne.2 (by omega)
        go_wp2_with fail
        refine (slice_any bi bt A na ca B nb cb D nd cd O n c xs (bi + q + 1) most w8 (H.out.2.below hbr) HF.out hnc hn (by omega) (by omega)).mono ?_
        rintro e w9 ⟨hb9, hsl⟩
        rcases hsl with ⟨hg, _⟩ | ⟨_, p, A9, c9, hp, hA, hU, rfl, ho9⟩
        · exfalso
          have hl1 : lastI bi xs = bi + n := by rw [lastI_right HRT.out, hxl]
          rcases hg with hg | hg
          · omega
          · rw [hl1, IntWalk.u64_in _ ⟨by omega, by omega⟩] at hg
            omega
        · obtain ⟨hpq, hm0, hm1, hm2⟩ := whole_many HRT.out (by omega) (by omega) hA hU (by omega : 1 ≤ most)
          rw [hxl] at hm0 hm1 hm2
          subst hpq
          obtain ⟨r, hrr⟩ : ∃ r, r = many (n - p) most := ⟨_, rfl⟩
          rw [← hrr] at hm0 hm1 hm2 ho9 ⊢
          have hrc : r ≤ c9 := by obtain ⟨_, _, _, y, _⟩ := ho9; exact y.le
          have HO9 := Lib.hid ho9
          have k2 := k2.ext hb9
          have k7 := k7.ext hb9
          have hx9 := Lib.hid (HX.out.below hb9)
          have hbr := hbr.trans (hb9.mono hbr.size)
          clear hA hU ho9 hrr c2 c7 hp
          have c2 := k2.cell
          have c7 := k7.cell
          go_wp2_with fail
          refine (merge_any bi bt A' na a' B' nb b' D' nd d' O' p c' l k z (xs.take p) bi (bi + p) tq A9 r c9 ((xs.drop p).take r) w9 hx9.out (fun x hx => HF.out x (List.mem_of_mem_take hx)) hna hnb hnd (HRT.out.take p) HO9.out.is (fun x hx => HF.out x (List.mem_of_mem_drop (List.mem_of_mem_take hx))) hrc (by omega) (by omega) (by omega)).mono ?_
          rintro e w10 ⟨hb10, hm⟩
          rw [HTQ.out] at hm
          obtain ⟨v, C, cc, hv, _, rfl⟩ := whole_merge HRUN.out hm0 (by omega) hm
          obtain ⟨A10, a10, B10, b10, D10, d10, O10, c10, rfl, hos, hoe⟩ := hv
          have hg7 : w3.heap.size < w9.heap.size := k7.lt
          have k2 := k2.ext hb10
          have k7 := k7.ext hb10
          have hbr := hbr.trans (hb10.mono hbr.size)
          have hz10 := k7.lt
          clear c2 c7 hm
          go_wp2_with (with_reducible refine stop_store ?_)
          refine hide (name_list (fun w11 hw11 => ?_))
          have hbw : Below w10.heap.size w10 w11 := by rw [hw11]; exact below_alloc_one _ _
          have k15 : BlkT w11 w10.heap.size 31 [.int .u64 0, .int .u64 0, .slice none 0 0, .slice none 0 0, .slice none 0 0, .slice none 0 0] := by rw [hw11]; exact BlkT.new _ _ _
          have hz11 : w11.heap.size = w10.heap.size + 1 := by rw [hw11]; simp
          clear hw11
          have k2 := k2.ext hbw
          have k7 := k7.ext hbw
          have hos := hos.below hbw
          have hoe := hoe.below hbw
          have hbr := hbr.trans (hbw.mono hbr.size)
          refine hide (wpList_store_partT rfl 31 (.tmp 15) (.tmp 80) rfl w10.heap.size 0 31 _ [.int .u64 bi, .int .u64 bt, .slice A10 na a10, .slice B10 nb b10, .slice D10 nd d10, .slice O10 (p + r) c10] rfl rfl rfl _ k15 (by simp) (by kernel_rfl) rfl _ rfl ?_)
          intro w12 k15' hg12 hz12
          have hs12 := SameBut.of_blk k15 hg12
          have k2 := blk_grown k2 hg12 (by omega)
          have k7 := blk_grown k7 hg12 (by omega)
          have hos := hos.sameBut hs12 (by decide) (by decide)
          have hoe := hoe.sameBut hs12 (by decide) (by decide) (by decide)
          have hbr := below_grown hbr hg12 (by omega) (by omega)
          clear k15 hs12
          have k15 := k15'
          simp only [List.take_succ_cons, List.take_zero, List.drop_succ_cons, List.drop_zero, List.cons_append, List.nil_append, List.length_cons, List.length_nil] at k15
          have c15 := k15.blk.cell
          have b3 : ((r : Int) != (r : Int)) = false := by simp
          have b4 : ((r : Int) == 0) = false := beq_eq_false_iff_ne.2 (by omega)
          have b5 : ¬ most < (r : Int) := by omega
          have HOS := Lib.hid hos
          have HOE := Lib.hid hoe
          clear hos hoe k15'
          go_wp2_with (with_reducible refine stop_store ?_)
          refine hide (wpList_store_blk rfl 31 (.tmp 7) (.tmp 112) rfl w3.heap.size [.int .u64 bi, .int .u64 bt, .slice A10 na a10, .slice B10 nb b10, .slice D10 nd d10, .slice O10 (p + r) c10] rfl rfl _ k7 rfl (by kernel_rfl) rfl ?_)
          intro w13 k7 hg13 hz13
          have k2 := blk_grown k2 hg13 (by omega)
          have HIS := Lib.hid (show IsLog w13 A10 B10 D10 O10 na nb nd (p + r) l k z (xs.take (p + r)) from ⟨(HOS.out.grown hg13 hg7).is, (HOE.out.grown hg13 hg7).is⟩)
          have hbr := below_grown hbr hg13 (by omega) (by omega)
          clear c15 hg12 hz12 hg13 hz13 hz11 k15 b3 b4 b5
          go_wp2
          go_roundw
          case rel => exact ⟨i + 1, p + r, A10, a10, B10, b10, D10, d10, O10, c10, by go_num, by omega, by omega, k7, HIS.out, k2, hbr⟩
          case measure => simp [intOf]; omega
end Go.Proofs.Ytglabhfmeinogaa

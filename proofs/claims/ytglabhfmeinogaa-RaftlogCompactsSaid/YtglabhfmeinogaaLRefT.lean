/- The document's Term and Upto. -/
import Derived.Test.YtglabhfmeinogaaLKeep
namespace Go.Proofs.Ytglabhfmeinogaa
open Go.RowKit Go.Gz
attribute [local go_sem] World.cell?_alloc_some frozen?_alloc_some

theorem termIs_none {bi bt ix : Int} {xs : List Ent} (hb : ¬ ix = bi) (h : ∀ x ∈ xs, ¬ x.1 = ix) : TermIs bi bt xs ix 0 false := fun hr => by
  by_cases h3 : bi < ix
  · have h4 : xs.length ≤ (ix - bi - 1).toNat := by
      rcases Nat.lt_or_ge (ix - bi - 1).toNat xs.length with hlt | hge
      · have hy := List.getElem?_eq_getElem hlt
        have := hr.2 _ _ hy
        exact absurd (by omega) (h _ (List.getElem_mem hlt))
      · exact hge
    simp only [termO, hb, h3, if_false, if_true, List.getElem?_eq_none h4, Option.map_none]
    rfl
  · simp [termO, hb, h3]
/-- None of the first ones. -/
def NoneI (xs : List Ent) (i : Nat) (ix : Int) : Prop := ∀ x ∈ xs.take i, ¬ x.1 = ix
theorem NoneI.snoc {xs : List Ent} {i : Nat} {ix : Int} {x : Ent} (h : NoneI xs i ix) (hx : xs[i]? = some x) (hn : ¬ x.1 = ix) : NoneI xs (i + 1) ix := fun y hy => by
  rw [List.take_add_one, hx] at hy
  rcases List.mem_append.1 hy with hy | hy
  · exact h y hy
  · simp at hy; subst hy; exact hn

/-- What Term answers. -/
def TermR (bi bt : Int) (xs : List Ent) (ix : Int) (e : Ending) : Prop := ∃ t b, e = .returned (.tuple #[.int .u64 t, .bool b]) ∧ TermIs bi bt xs ix t b

set_option maxHeartbeats 1600000 in
theorem termRef_any (bi bt : Int) (A : Option Addr) (na ca : Nat) (B : Option Addr) (nb cb : Nat) (D : Option Addr) (nd cd : Nat) (O : Option Addr) (n c : Nat) (xs : List Ent) (ix : Int) (w : World) (h : IsEs w O n xs) (hn : n ≤ 140737488355328) :
    Calls Try.prog 47 #[lg bi bt A na ca B nb cb D nd cd O n c, .int .u64 ix] w fun e w' => Below w.heap.size w w' ∧ TermR bi bt xs ix e := by
  have H := Lib.hid h
  have hxl := Lib.hid h.len
  clear h
  go_enter Try.func47, Try.ntmps47
  by_cases hb : ix = bi
  · subst hb
    go_wp2
    refine bodyPost_ret (v := .tuple #[.int .u64 bt, .bool true]) ?_ rfl ⟨(by (repeat first | refine Below.setCell ?_ (by first | omega | (dsimp only; omega) | (simp only [heap_drew, World.size_alloc, Gz.size_setCell]; omega)) _ | refine Below.alloc ?_ (by first | omega | (dsimp only; omega) | (simp only [heap_drew, World.size_alloc, Gz.size_setCell]; omega)) _ | refine Below.drew ?_); exact Below.refl _ _), _, _, rfl, termIs_base _ _ _⟩
    simp [results, Try.results47, go_sem]
  · have hb0 : (ix == bi) = false := beq_eq_false_iff_ne.2 hb
    go_wp2_with fail
    refine name_world (fun w1 hw1 => ?_)
    have k2 : Blk w1 w.heap.size [.int .u64 bi, .int .u64 bt, .slice A na ca, .slice B nb cb, .slice D nd cd, .slice O n c] := by rw [hw1]; exact Blk.new _ _ _ _ rfl
    have hb1 : Below w.heap.size w w1 := by rw [hw1]; exact (by (repeat first | refine Below.setCell ?_ (by first | omega | (dsimp only; omega) | (simp only [heap_drew, World.size_alloc, Gz.size_setCell]; omega)) _ | refine Below.alloc ?_ (by first | omega | (dsimp only; omega) | (simp only [heap_drew, World.size_alloc, Gz.size_setCell]; omega)) _ | refine Below.drew ?_); exact Below.refl _ _)
    clear hw1
    go_loopw [6] (fun s6 wr => ∃ i : Nat, s6 = .int .i64 i ∧ i ≤ n ∧ Below w1.heap.size w1 wr ∧ NoneI xs i ix) (fun s6 _ => (n - intOf s6).toNat)
    case atStart => exact ⟨0, rfl, by omega, Below.refl _ _, fun x hx => by simp at hx⟩
    case round =>
      obtain ⟨i, rfl, hi, hbr, hN⟩ := hrel
      have c2 := (k2.ext hbr).cell
      have hwr := hb1.trans (hbr.mono hb1.size)
      by_cases hlt : i < n
      · have q1 : (i : Int) < (n : Int) := by omega
        cases O with
        | none => obtain ⟨zs, _, h2, h3, _⟩ := H.out; have := h3.2.1 rfl; omega
        | some ad =>
        obtain ⟨x, D', dc, V, vc, L, lc, hx, _, _, _, m0, m1, _⟩ := (H.out.below hwr).at hlt
        have HX := Lib.hid hx
        clear hx
        by_cases he : x.1 = ix
        · have he0 : (x.1 == ix) = true := beq_iff_eq.2 he
          have HE := Lib.hid he
          clear he
          go_wp2
          refine bodyPost_ret (v := .tuple #[.int .u64 x.2.1, .bool true]) ?_ rfl ⟨hwr, _, _, rfl, termIs_at HX.out HE.out⟩
          simp [results, Try.results47, go_sem]
        · have he0 : (x.1 == ix) = false := beq_eq_false_iff_ne.2 he
          go_wp2
          go_roundw
          case rel => exact ⟨i + 1, by go_num, by omega, hbr, hN.snoc HX.out he⟩
          case measure => simp [intOf]; omega
      · obtain rfl : i = n := by omega
        have q1 : ¬ (i : Int) < (i : Int) := by omega
        go_wp2
        refine bodyPost_ret (v := .tuple #[.int .u64 0, .bool false]) ?_ rfl ⟨hwr, _, _, rfl, termIs_none hb (by have h1 := hxl.out; rw [NoneI, List.take_of_length_le (by omega)] at hN; exact hN)⟩
        simp [results, Try.results47, go_sem]

/-- The last change up to an index. -/
def uptoC (ix : Int) (a : List Int × List Int) (xs : List Ent) : List Int × List Int := xs.foldl (fun a x => if x.2.2.1 = 3 ∧ x.1 ≤ ix then (x.2.2.2.2.1, x.2.2.2.2.2) else a) a
theorem uptoC_snoc (ix : Int) (a : List Int × List Int) (xs : List Ent) (x : Ent) : uptoC ix a (xs ++ [x]) = if x.2.2.1 = 3 ∧ x.1 ≤ ix then (x.2.2.2.2.1, x.2.2.2.2.2) else uptoC ix a xs := by simp [uptoC]
theorem uptoC_step {ix : Int} {a : List Int × List Int} {xs : List Ent} {i : Nat} {x : Ent} (hx : xs[i]? = some x) : uptoC ix a (xs.take (i + 1)) = if x.2.2.1 = 3 ∧ x.1 ≤ ix then (x.2.2.2.2.1, x.2.2.2.2.2) else uptoC ix a (xs.take i) := by
  rw [List.take_add_one, hx]
  exact uptoC_snoc _ _ _ _
theorem uptoC_all : ∀ (xs : List Ent) (ix : Int) (a : List Int × List Int), (∀ x ∈ xs, x.1 ≤ ix) → uptoC ix a xs = lastC a xs
  | [], _, _, _ => rfl
  | x :: xs, ix, a, h => by
    have h1 := h x (by simp)
    simp only [uptoC, lastC, List.foldl_cons, h1, and_true]
    exact uptoC_all xs ix _ (fun y hy => h y (by simp [hy]))
theorem uptoC_none : ∀ (xs : List Ent) (ix : Int) (a : List Int × List Int), (∀ x ∈ xs, ¬ x.1 ≤ ix) → uptoC ix a xs = a
  | [], _, _, _ => rfl
  | x :: xs, ix, a, h => by
    have h1 := h x (by simp)
    simp only [uptoC, List.foldl_cons, h1, and_false, if_false]
    exact uptoC_none xs ix _ (fun y hy => h y (by simp [hy]))
theorem right_split {bi ix : Int} {xs : List Ent} {p : Nat} (hr : Right bi xs) (he : ix = bi + p + 1) : (∀ x ∈ xs.take (p + 1), x.1 ≤ ix) ∧ ∀ x ∈ xs.drop (p + 1), ¬ x.1 ≤ ix := by
  constructor
  · intro x hx
    obtain ⟨j, hj⟩ := List.getElem?_of_mem hx
    rw [List.getElem?_take] at hj
    split at hj
    · have := hr.2 _ _ hj
      omega
    · cases hj
  · intro x hx
    obtain ⟨j, hj⟩ := List.getElem?_of_mem hx
    rw [List.getElem?_drop] at hj
    have := hr.2 _ _ hj
    omega
theorem uptoC_right {bi ix : Int} {xs : List Ent} {p : Nat} (hr : Right bi xs) (he : ix = bi + p + 1) (a : List Int × List Int) : uptoC ix a xs = lastC a (xs.take (p + 1)) := by
  obtain ⟨h1, h2⟩ := right_split hr he
  have e : uptoC ix a xs = uptoC ix (uptoC ix a (xs.take (p + 1))) (xs.drop (p + 1)) := by
    unfold uptoC
    rw [← List.foldl_append, List.take_append_drop]
  rw [e, uptoC_none _ _ _ h2, uptoC_all _ _ _ h1]

/-- How the loop of Upto stands. -/
def UptoAt (w wr : World) (g2 g4 g6 : Nat) (ix : Int) (l k : List Int) (xs : List Ent) (bi bt : Int) (A : Option Addr) (na ca : Nat) (B : Option Addr) (nb cb : Nat) (D : Option Addr) (nd cd : Nat) (O : Option Addr) (n c : Nat) (i : Nat) : Prop :=
  Below w.heap.size w wr ∧ g6 < wr.heap.size ∧ Blk wr g2 [.int .u64 bi, .int .u64 bt, .slice A na ca, .slice B nb cb, .slice D nd cd, .slice O n c] ∧ Blk wr g4 [.slice none 0 0, .slice none 0 0] ∧
  ∃ V v vc L m lc, Blk wr g6 [.slice V v vc, .slice L m lc] ∧ IsConf w V L v m (uptoC ix (l, k) (xs.take i)).1 (uptoC ix (l, k) (xs.take i)).2 ∧ v * 8 ≤ 140737488355328 ∧ m * 8 ≤ 140737488355328

set_option maxHeartbeats 3200000 in
theorem upto_any (bi bt : Int) (A : Option Addr) (na ca : Nat) (B : Option Addr) (nb cb : Nat) (D : Option Addr) (nd cd : Nat) (O : Option Addr) (n c : Nat) (l k z : List Int) (xs : List Ent) (ix : Int) (w : World)
    (h : IsLog w A B D O na nb nd n l k z xs) (hf : ∀ x ∈ xs, Fits x) (hna : na * 8 ≤ 140737488355328) (hnb : nb * 8 ≤ 140737488355328) (hn : n ≤ 140737488355328) :
    Calls Try.prog 48 #[lg bi bt A na ca B nb cb D nd cd O n c, .int .u64 ix] w fun e w' => Below w.heap.size w w' ∧
      ∃ A' n' a' B' m' b' u, e = .returned (.tuple #[.agg #[.slice A' n' a', .slice B' m' b'], .int .u64 u]) ∧ OwnConf w' w.heap.size A' B' n' a' m' b' (uptoC ix (l, k) xs).1 (uptoC ix (l, k) xs).2 := by
  have H := Lib.hid h
  have HF := Lib.hid hf
  have hxl := Lib.hid h.2.len
  clear h hf
  go_enter Try.func48, Try.ntmps48
  go_wp2_with (with_reducible refine stop_store ?_)
  refine hide (name_list (fun w1 hw1 => ?_))
  have k2 : Blk w1 w.heap.size [.int .u64 bi, .int .u64 bt, .slice A na ca, .slice B nb cb, .slice D nd cd, .slice O n c] := by rw [hw1]; exact ((Blk.new _ _ _ _ rfl).alloc _).alloc _
  have k4 : Blk w1 (w.heap.size + 1) [.slice none 0 0, .slice none 0 0] := by rw [hw1]; exact (Blk.new _ _ _ _ (by simp)).alloc _
  have k6 : Blk w1 (w.heap.size + 2) [.slice none 0 0, .slice none 0 0] := by rw [hw1]; exact Blk.new _ _ _ _ (by simp)
  have hb1 : Below w.heap.size w w1 := by rw [hw1]; exact (by (repeat first | refine Below.setCell ?_ (by first | omega | (dsimp only; omega) | (simp only [heap_drew, World.size_alloc, Gz.size_setCell]; omega)) _ | refine Below.alloc ?_ (by first | omega | (dsimp only; omega) | (simp only [heap_drew, World.size_alloc, Gz.size_setCell]; omega)) _ | refine Below.drew ?_); exact Below.refl _ _)
  have hz1 : w1.heap.size = w.heap.size + 3 := by rw [hw1]; simp
  clear hw1
  refine hide (wpList_store_blk rfl 25 (.tmp 6) (.tmp 11) rfl (w.heap.size + 2) [.slice A na ca, .slice B nb cb] rfl rfl _ k6 rfl (by kernel_rfl) rfl ?_)
  intro w2 k6 hg2 hz2
  have k2 := blk_grown k2 hg2 (by omega)
  have k4 := blk_grown k4 hg2 (by omega)
  have hb2 := below_grown hb1 hg2 (by omega) (by omega)
  have HU := Lib.hid (show UptoAt w w2 w.heap.size (w.heap.size + 1) (w.heap.size + 2) ix l k xs bi bt A na ca B nb cb D nd cd O n c 0 from ⟨hb2, by omega, k2, k4, A, na, ca, B, nb, cb, k6, H.out.1.1, hna, hnb⟩)
  clear k2 k4 k6 hb1 hz1 hg2 hz2
  go_wp2_with fail
  go_loopw [7, 8] (fun s7 s8 wr => ∃ (u : Int) (i : Nat), s7 = .int .u64 u ∧ s8 = .int .i64 i ∧ i ≤ n ∧ UptoAt w wr w.heap.size (w.heap.size + 1) (w.heap.size + 2) ix l k xs bi bt A na ca B nb cb D nd cd O n c i) (fun _ s8 _ => (n - intOf s8).toNat)
  case atStart => exact ⟨0, 0, rfl, rfl, by omega, HU.out⟩
  case round =>
    clear HU
    obtain ⟨u, i, rfl, rfl, hi, hbr, hz6, k2, k4, V, v, vc, L, m, lc, k6, hcf, hv, hm⟩ := hrel
    have HCF := Lib.hid hcf
    have c2 := k2.cell
    clear hcf
    by_cases hlt : i < n
    · have q1 : (i : Int) < (n : Int) := by omega
      cases O with
      | none => obtain ⟨zs, _, h2, h3, _⟩ := H.out.2; have := h3.2.1 rfl; omega
      | some ad =>
      obtain ⟨x, E1, d1, E2, d2, E3, d3, hx, _, _, _, m0, m1, m2, m3, m4, m5⟩ := (H.out.2.below hbr).at hlt
      obtain ⟨x', _, _, F2, f2, F3, f3, hx', _, _, hc', _, _, _, _, m4', m5'⟩ := H.out.2.at hlt
      rw [hx] at hx'
      obtain rfl := Option.some.inj hx'
      have e4 := (kc_below hbr m4').symm.trans m4
      have e5 := (kc_below hbr m5').symm.trans m5
      simp only [Option.some.injEq, Value.slice.injEq, true_and] at e4 e5
      obtain ⟨e41, e42⟩ := e4
      obtain ⟨e51, e52⟩ := e5
      rw [← e41, ← e42] at m4
      rw [← e51, ← e52] at m5
      clear e41 e42 e51 e52
      have HCX := Lib.hid hc'
      have HST := Lib.hid (uptoC_step (ix := ix) (a := (l, k)) hx)
      have hfx := HF.out x (List.mem_of_getElem? hx)
      have HX := Lib.hid hx
      clear hx hx' m4' m5' hc'
      by_cases h3 : x.2.2.1 = 3
      · have h30 : (x.2.2.1 == 3) = true := beq_iff_eq.2 h3
        have H3 := Lib.hid h3
        clear h3
        by_cases hle : x.1 ≤ ix
        · have HLE := Lib.hid hle
          go_wp2_with (with_reducible refine stop_store ?_)
          refine hide (wpList_store_blk rfl 25 (.tmp 6) (.tmp 41) rfl (w.heap.size + 2) [.slice F2 x.2.2.2.2.1.length f2, .slice F3 x.2.2.2.2.2.length f3] rfl rfl _ k6 rfl (by kernel_rfl) rfl ?_)
          intro w3 k6 hg3 hz3
          have k2 := blk_grown k2 hg3 (by omega)
          have k4 := blk_grown k4 hg3 (by omega)
          have hb3 := below_grown hbr hg3 (by omega) hz6
          obtain ⟨x2, _, _, _, _, _, _, hx2, _, _, _, m0', _⟩ := (H.out.2.below hb3).at hlt
          rw [HX.out] at hx2
          obtain rfl := Option.some.inj hx2
          clear c2 hx2 m0 m1 m2 m3 m4 m5
          have c2 := k2.cell
          go_wp2
          go_roundw
          case rel => exact ⟨_, i + 1, rfl, by go_num, by omega, hb3, by omega, k2, k4, F2, _, f2, F3, _, f3, k6, by rw [HST.out, if_pos ⟨H3.out, HLE.out⟩]; exact HCX.out, hfx.2.1, hfx.2.2⟩
          case measure => simp [intOf]; omega
        · have hle' : ¬ x.1 ≤ ix := hle
          go_wp2
          go_roundw
          case rel => exact ⟨u, i + 1, rfl, by go_num, by omega, hbr, hz6, k2, k4, V, v, vc, L, m, lc, k6, by rw [HST.out, if_neg (fun e => hle e.2)]; exact HCF.out, hv, hm⟩
          case measure => simp [intOf]; omega
      · have h30 : (x.2.2.1 == 3) = false := beq_eq_false_iff_ne.2 h3
        go_wp2
        go_roundw
        case rel => exact ⟨u, i + 1, rfl, by go_num, by omega, hbr, hz6, k2, k4, V, v, vc, L, m, lc, k6, by rw [HST.out, if_neg (fun e => h3 e.1)]; exact HCF.out, hv, hm⟩
        case measure => simp [intOf]; omega
    · obtain rfl : i = n := by omega
      have q1 : ¬ (i : Int) < (i : Int) := by omega
      have c6 := k6.cell
      go_wp2_with fail
      refine (cloneConf_any V L v vc m lc _ _ wr (HCF.out.below hbr) hv hm).mono ?_
      rintro e w3 ⟨hb3, A3, a3, B3, b3, rfl, ho3⟩
      rw [List.take_of_length_le (by have := hxl.out; omega)] at ho3
      have k4 := k4.ext hb3
      have k4lt := k4.lt
      have hb3' := hbr.trans (hb3.mono hbr.size)
      clear c2 c6
      go_wp2_with (with_reducible refine stop_store ?_)
      refine hide (wpList_store_blk rfl 25 (.tmp 4) (.tmp 49) rfl (w.heap.size + 1) [.slice A3 v a3, .slice B3 m b3] rfl rfl _ k4 rfl (by kernel_rfl) rfl ?_)
      intro w4 k4 hg4 hz4
      have hr4 : ∀ q, some (w.heap.size + 1) = some q → q < wr.heap.size := fun q hq => by injection hq with hq; omega
      have hO : OwnConf w4 wr.heap.size A3 B3 v a3 m b3 _ _ := ⟨ho3.1.grown hg4 hr4, ho3.2.grown hg4 hr4⟩
      go_wp2
      refine bodyPost_ret (v := .tuple #[.agg #[.slice A3 v a3, .slice B3 m b3], .int .u64 u]) ?_ rfl ⟨below_grown hb3' hg4 (by omega) k4lt, _, _, _, _, _, _, _, rfl, hO.lower hbr.size⟩
      simp [results, Try.results48, go_sem, k4.cell]
end Go.Proofs.Ytglabhfmeinogaa

/- RaftlogSlices: the law's walk. -/
import Derived.Test.YtglabhfmeinogaaLSlice
import Derived.Test.YtglabhfmeinogaaLSame
import Derived.Test.YtglabhfmeinogaaLCheck
import Derived.Test.YtglabhfmeinogaaLHead
import Derived.Test.YtglabhfmeinogaaLSpoil
namespace Go.Proofs.Ytglabhfmeinogaa
open Go.RowKit Go.Gz
attribute [local go_sem] World.cell?_alloc_some frozen?_alloc_some

/-- Of a log that is right: the entries from an index on are those behind the place. -/
theorem right_from {bi fr : Int} {xs : List Ent} {p : Nat} (hr : Right bi xs) (hA : AtLeast xs p fr) (hU : Under xs p fr) (hp : p ≤ xs.length) : fromI xs fr = xs.drop p := by
  have e : fromI xs fr = fromI (xs.take p) fr ++ fromI (xs.drop p) fr := by unfold fromI; rw [← List.filter_append, List.take_append_drop]
  have h1 : fromI (xs.take p) fr = [] := by
    unfold fromI
    rw [List.filter_eq_nil_iff]
    intro x hx
    obtain ⟨i, hi⟩ := List.getElem?_of_mem hx
    have hil : i < p := by have := (List.getElem?_eq_some_iff.1 hi).1; rw [List.length_take] at this; omega
    rw [List.getElem?_take, if_pos hil] at hi
    have hx1 := hr.2 i x hi
    have hpl : p - 1 < xs.length := by omega
    have hy := List.getElem?_eq_getElem hpl
    have hy1 := hU _ (by omega) hy
    have hy2 := hr.2 _ _ hy
    simp
    omega
  have h2 : fromI (xs.drop p) fr = xs.drop p := by
    unfold fromI
    rw [List.filter_eq_self]
    intro x hx
    obtain ⟨i, hi⟩ := List.getElem?_of_mem hx
    rw [List.getElem?_drop] at hi
    have hx1 := hr.2 _ x hi
    have hpl : p < xs.length := by have := (List.getElem?_eq_some_iff.1 hi).1; omega
    have hy := List.getElem?_eq_getElem hpl
    have hy1 := hA _ hy
    have hy2 := hr.2 _ _ hy
    simp
    omega
  rw [e, h1, h2, List.nil_append]
theorem take_many {xs : List Ent} {n p : Nat} (most : Int) (hl : xs.length = n) : (xs.drop p).take (many (n - p) most) = (xs.drop p).take most.toNat := by
  unfold many
  rw [← hl, ← List.length_drop]
  rcases Nat.le_total (xs.drop p).length most.toNat with h | h
  · rw [Nat.min_eq_left h, List.take_of_length_le (Nat.le_refl _), List.take_of_length_le h]
  · rw [Nat.min_eq_right h]
theorem OwnEs.nil (w : World) (base : Nat) : OwnEs w base none 0 0 [] := ⟨[], rfl, rfl, .inl ⟨rfl, rfl, rfl⟩, fun z hz => (by cases hz)⟩

set_option maxHeartbeats 4000000 in
theorem lawSlices_any (bi bt : Int) (A : Option Addr) (na ca : Nat) (B : Option Addr) (nb cb : Nat) (D : Option Addr) (nd cd : Nat) (O : Option Addr) (n c : Nat) (l k z : List Int) (xs : List Ent) (fr most : Int) (w : World)
    (h : IsLog w A B D O na nb nd n l k z xs) (hf : ∀ x ∈ xs, Fits x) (hnc : n ≤ c) (hn : n * 96 ≤ 140737488355328) (hna : na * 8 ≤ 140737488355328) (hnb : nb * 8 ≤ 140737488355328) (hnd : nd ≤ 140737488355328) (hb0 : 0 ≤ bi) (hb1 : bi < 18446744073709551616) (hm1 : -9223372036854775808 ≤ most) (hm2 : most ≤ 9223372036854775807) :
    Calls Try.prog 5 #[lg bi bt A na ca B nb cb D nd cd O n c, .int .u64 fr, .int .i64 most] w fun e w' => e = .returned (.bool true) ∧ Below w.heap.size w w' := by
  have H := Lib.hid h
  have HF := Lib.hid hf
  have hxl := h.2.len
  clear h hf
  go_enter Try.func5, Try.ntmps5
  go_wp2_with fail
  refine name_calls (fun w1 hw1 => ?_)
  have k3 : Blk w1 w.heap.size [.int .u64 bi, .int .u64 bt, .slice A na ca, .slice B nb cb, .slice D nd cd, .slice O n c] := by rw [hw1]; exact Blk.new _ _ _ _ rfl
  have hb1' : Below w.heap.size w w1 := by rw [hw1]; exact (by (repeat first | refine Below.setCell ?_ (by first | omega | (dsimp only; omega) | (simp only [heap_drew, World.size_alloc, Gz.size_setCell]; omega)) _ | refine Below.alloc ?_ (by first | omega | (dsimp only; omega) | (simp only [heap_drew, World.size_alloc, Gz.size_setCell]; omega)) _ | refine Below.drew ?_); exact Below.refl _ _)
  clear hw1
  refine (head_any w1).mono ?_
  rintro e w2 ⟨rfl, hb2⟩
  have k3 := k3.ext hb2
  have hb2 := hb1'.trans (hb2.mono hb1'.size)
  have c3 := k3.cell
  go_wp2_with fail
  refine (cloneLog_any bi bt A na ca B nb cb D nd cd O n c l k z xs w2 (H.out.below hb2) HF.out hn hna hnb hnd).mono ?_
  rintro e w3 ⟨hb3, A2, a2, B2, b2, D2, d2, O2, c2, rfl, ho3, hoe3⟩
  have k3 := k3.ext hb3
  have hb3 := hb2.trans (hb3.mono hb2.size)
  clear c3
  go_wp2_with fail
  refine name_calls (fun w4 hw4 => ?_)
  have hb34 : Below w3.heap.size w3 w4 := by rw [hw4]; exact below_alloc_one _ _
  have K3 := hide (show Blk w4 w.heap.size [.int .u64 bi, .int .u64 bt, .slice A na ca, .slice B nb cb, .slice D nd cd, .slice O n c] by rw [hw4]; exact k3.alloc _)
  have K8 := hide (show Blk w4 w3.heap.size [.int .u64 bi, .int .u64 bt, .slice A2 na a2, .slice B2 nb b2, .slice D2 nd d2, .slice O2 n c2] by rw [hw4]; exact Blk.new _ _ _ _ rfl)
  have hb4 := hb3.trans (hb34.mono hb3.size)
  have HX := Lib.hid (show IsLog w4 A2 B2 D2 O2 na nb nd n l k z xs from ⟨(ho3.below hb34).is, (hoe3.below hb34).is⟩)
  have hnc2 : n ≤ c2 := by obtain ⟨zs, _, _, q, _⟩ := hoe3; exact q.le
  clear hw4 ho3 hoe3 k3
  refine (slice_any bi bt A2 na a2 B2 nb b2 D2 nd d2 O2 n c2 xs fr most w4 HX.out.2 HF.out hnc2 hn hm1 hm2).mono ?_
  rintro e w5 ⟨hb45, hsl⟩
  have hw5 := hb4.trans (hb45.mono hb4.size)
  have c3 := (K3.out.ext hb45).cell
  rcases hsl with ⟨hg, rfl⟩ | ⟨hg, p, A5, c5, hp, hA, hU, rfl, ho5⟩
  · have HG := Lib.hid hg
    clear hg
    go_wp2_with fail
    refine (checkRef_any bi bt A na ca B nb cb D nd cd O n c xs w5 (H.out.2.below hw5) (by omega) hb0 hb1).mono ?_
    rintro e w6 ⟨hb6, b, rfl, hb⟩
    have hw6 := hw5.trans (hb6.mono hw5.size)
    clear hb c3
    have c3 := ((K3.out.ext hb45).ext hb6).cell
    cases b with
    | false =>
      go_wp2
      go_ret
      exact ⟨rfl, hw6⟩
    | true =>
      go_wp2_with fail
      refine (sliceRef_any bi bt A na ca B nb cb D nd cd O n c xs fr most w6 (H.out.2.below hw6) HF.out hn).mono ?_
      rintro e w7 ⟨hb7, hr⟩
      have hb57 := hb6.trans (hb7.mono hb6.size)
      rcases hr with ⟨_, rfl⟩ | ⟨hng, _⟩
      · clear c3
        go_wp2_with fail
        refine (sameEnts_any none none 0 0 0 [] w7 (IsEs.nil _) (IsEs.nil _) (fun x hx => (by cases hx)) (by omega)).mono ?_
        rintro e w8 ⟨rfl, hb8⟩
        have hb58 := hb57.trans (hb8.mono hb57.size)
        go_wp2_with fail
        refine (spoil_any none 0 0 w4.heap.size [] w8 (OwnEs.nil _ _) (fun x hx => (by cases hx)) (by omega)).mono ?_
        rintro e w9 ⟨rfl, hb9⟩
        have hb49 : Below w4.heap.size w4 w9 := (hb45.trans (hb58.mono hb45.size)).trans hb9
        have hw9 := hb4.trans (hb49.mono hb4.size)
        have c3 := (K3.out.ext hb49).cell
        have c8 := (K8.out.ext hb49).cell
        go_wp2_with fail
        refine (sameLog_any bi bt A2 na a2 B2 nb b2 D2 nd d2 O2 n c2 A ca B cb D cd O c l k z xs w9 ((HX.out).below hb49) (H.out.below hw9) HF.out (by omega) (by omega) (by omega)).mono ?_
        rintro e w10 ⟨rfl, hb10⟩
        go_wp2
        go_ret
        exact ⟨rfl, hw9.trans (hb10.mono hw9.size)⟩
      · exact absurd HG.out hng
  · have HG := Lib.hid hg
    have HAU := Lib.hid (And.intro hA hU)
    clear hg hA hU
    go_wp2_with fail
    refine (checkRef_any bi bt A na ca B nb cb D nd cd O n c xs w5 (H.out.2.below hw5) (by omega) hb0 hb1).mono ?_
    rintro e w6 ⟨hb6, b, rfl, hb⟩
    have hw6 := hw5.trans (hb6.mono hw5.size)
    have HB := Lib.hid hb
    clear hb c3
    have c3 := ((K3.out.ext hb45).ext hb6).cell
    cases b with
    | false =>
      go_wp2
      go_ret
      exact ⟨rfl, hw6⟩
    | true =>
      go_wp2_with fail
      refine (sliceRef_any bi bt A na ca B nb cb D nd cd O n c xs fr most w6 (H.out.2.below hw6) HF.out hn).mono ?_
      rintro e w7 ⟨hb7, hr⟩
      have hb57 := hb6.trans (hb7.mono hb6.size)
      rcases hr with ⟨hg, _⟩ | ⟨_, q, A7, c7, rfl, ho7⟩
      · exact absurd hg HG.out
      · rw [right_from (HB.out rfl) HAU.out.1 HAU.out.2 (by omega), ← take_many most hxl] at ho7
        have hq : q = many (n - p) most := by have h1 := ho7.is.len; have h2 := ho5.is.len; omega
        subst hq
        have hmn : many (n - p) most ≤ n := by unfold many; omega
        have ho5' := (ho5.below hb57)
        have HY := Lib.hid ho5'
        have HZ := Lib.hid ho7
        generalize many (n - p) most = q at *
        clear c3
        go_wp2_with fail
        refine (sameEnts_any A5 A7 q c5 c7 ((xs.drop p).take q) w7 (HY.out.is) (HZ.out.is) (fun x hx => HF.out x (List.mem_of_mem_drop (List.mem_of_mem_take hx))) (by omega)).mono ?_
        rintro e w8 ⟨rfl, hb8⟩
        have hb58 := hb57.trans (hb8.mono hb57.size)
        go_wp2_with fail
        refine (spoil_any A5 q c5 w4.heap.size ((xs.drop p).take q) w8 (HY.out.below hb8) (fun x hx => HF.out x (List.mem_of_mem_drop (List.mem_of_mem_take hx))) (by omega)).mono ?_
        rintro e w9 ⟨rfl, hb9⟩
        have hb49 : Below w4.heap.size w4 w9 := (hb45.trans (hb58.mono hb45.size)).trans hb9
        have hw9 := hb4.trans (hb49.mono hb4.size)
        have c3 := (K3.out.ext hb49).cell
        have c8 := (K8.out.ext hb49).cell
        go_wp2_with fail
        refine (sameLog_any bi bt A2 na a2 B2 nb b2 D2 nd d2 O2 n c2 A ca B cb D cd O c l k z xs w9 ((HX.out).below hb49) (H.out.below hw9) HF.out (by omega) (by omega) (by omega)).mono ?_
        rintro e w10 ⟨rfl, hb10⟩
        go_wp2
        go_ret
        exact ⟨rfl, hw9.trans (hb10.mono hw9.size)⟩
end Go.Proofs.Ytglabhfmeinogaa

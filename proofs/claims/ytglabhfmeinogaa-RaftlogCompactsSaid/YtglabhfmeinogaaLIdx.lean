/- Contracts of the functions that Merge hands on, and of IndexFunc and ContainsFunc with them. -/
import Derived.Test.YtglabhfmeinogaaLTerm
namespace Go.Proofs.Ytglabhfmeinogaa
open Go.RowKit Go.Gz
attribute [local go_sem] World.cell?_alloc_some frozen?_alloc_some

/-- Another term there? / None there, or another term? -/
def otherB (bi bt : Int) (xs : List Ent) (x : Ent) : Bool := match termO bi bt xs x.1 with | some t => t != x.2.1 | none => false
def freshB (bi bt : Int) (xs : List Ent) (x : Ent) : Bool := match termO bi bt xs x.1 with | some t => t != x.2.1 | none => true
def heldB (cm bi bt : Int) (xs : List Ent) (x : Ent) : Bool := decide (x.1 ≤ cm) && otherB bi bt xs x
theorem other_of {bi bt t : Int} {xs : List Ent} {x : Ent} {b : Bool} (hr : Right bi xs) (h : TermIs bi bt xs x.1 t b) : otherB bi bt xs x = (b && (t != x.2.1)) ∧ freshB bi bt xs x = (!b || (t != x.2.1)) := by
  have := h hr
  cases b <;> simp [otherB, freshB, this]
theorem fresh_of_other (bi bt : Int) (xs : List Ent) (x : Ent) (t : Int) (b : Bool) (hr : Right bi xs) (h : TermIs bi bt xs x.1 t b) : freshB bi bt xs x = (!b || otherB bi bt xs x) := by
  have := h hr
  cases b <;> simp [otherB, freshB, this]
abbrev fOther (g5 : Nat) : Value := .func (.func 32) #[] #[.pointer (some ⟨g5, 0, none⟩)]
abbrev fFresh (g5 g16 : Nat) : Value := .func (.func 33) #[] #[.pointer (some ⟨g5, 0, none⟩), .pointer (some ⟨g16, 0, none⟩)]
abbrev fHeld (g6 g16 : Nat) : Value := .func (.func 35) #[] #[.pointer (some ⟨g6, 0, none⟩), .pointer (some ⟨g16, 0, none⟩)]

section
variable (bi bt : Int) (A : Option Addr) (na ca : Nat) (B : Option Addr) (nb cb : Nat) (D : Option Addr) (nd cd : Nat) (O : Option Addr) (n c : Nat) (xs : List Ent) (cm : Int) (g5 g6 g16 : Nat)
set_option maxHeartbeats 1600000 in
theorem other_any (w : World) (k5 : Blk w g5 [.int .u64 bi, .int .u64 bt, .slice A na ca, .slice B nb cb, .slice D nd cd, .slice O n c]) (h : IsEs w O n xs) (hr : Right bi xs) (hn : n ≤ 140737488355328) (cs : List Value) (x : Ent) (he : IsE w cs x) :
    Calls Try.prog 32 #[.agg cs.toArray, .pointer (some ⟨g5, 0, none⟩)] w fun e w' => e = .returned (.bool (otherB bi bt xs x)) ∧ Below w.heap.size w w' := by
  have H := Lib.hid h
  have HR := Lib.hid hr
  obtain ⟨i, t, k, ds, vs, ls⟩ := x
  obtain ⟨D', dc, V, vc, L, lc, rfl, _, _⟩ := he
  obtain ⟨r, hrr⟩ : ∃ r, r = otherB bi bt xs (i, t, k, ds, vs, ls) := ⟨_, rfl⟩
  rw [← hrr]
  have HRR := Lib.hid hrr
  dsimp only
  have c5 := k5.cell
  clear h hr hrr
  go_enter Try.func32, Try.ntmps32
  go_wp2_with fail
  refine name_calls (fun w1 hw1 => ?_)
  have k2 : Blk w1 w.heap.size [.int .u64 i, .int .u64 t, .int .i64 k, .slice D' ds.length dc, .slice V vs.length vc, .slice L ls.length lc] := by rw [hw1]; exact Blk.new _ _ _ _ rfl
  have hb1 : Below w.heap.size w w1 := by rw [hw1]; exact (by (repeat first | refine Below.setCell ?_ (by first | omega | (dsimp only; omega) | (simp only [heap_drew, World.size_alloc, Gz.size_setCell]; omega)) _ | refine Below.alloc ?_ (by first | omega | (dsimp only; omega) | (simp only [heap_drew, World.size_alloc, Gz.size_setCell]; omega)) _ | refine Below.drew ?_); exact Below.refl _ _)
  clear hw1 c5
  refine (term_any bi bt A na ca B nb cb D nd cd O n c xs i w1 (H.out.below hb1) hn).mono ?_
  rintro e w2 ⟨hb2, tt, b, rfl, hT⟩
  have HO := Lib.hid (show r = (b && (tt != t)) by rw [HRR.out]; exact (other_of (x := (i, t, k, ds, vs, ls)) HR.out hT).1)
  clear hT
  have c2 := (k2.ext hb2).cell
  have hb2 := hb1.trans (hb2.mono hb1.size)
  cases b with
  | false =>
    go_wp2
    go_ret
    exact ⟨(by rw [HO.out]; rfl : Ending.returned (.bool false) = .returned (.bool r)), hb2⟩
  | true =>
    by_cases ht : tt = t
    · subst ht
      go_wp2
      go_ret
      exact ⟨(by rw [HO.out]; simp : Ending.returned (.bool false) = .returned (.bool r)), hb2⟩
    · have ht0 : (tt != t) = true := bne_iff_ne.2 ht
      go_wp2
      go_ret
      exact ⟨(by rw [HO.out, ht0]; rfl : Ending.returned (.bool true) = .returned (.bool r)), hb2⟩

set_option maxHeartbeats 1600000 in
theorem fresh_any (w : World) (k5 : Blk w g5 [.int .u64 bi, .int .u64 bt, .slice A na ca, .slice B nb cb, .slice D nd cd, .slice O n c]) (k16 : Blk w g16 [fOther g5]) (h : IsEs w O n xs) (hr : Right bi xs) (hn : n ≤ 140737488355328) (cs : List Value) (x : Ent) (he : IsE w cs x) :
    Calls Try.prog 33 #[.agg cs.toArray, .pointer (some ⟨g5, 0, none⟩), .pointer (some ⟨g16, 0, none⟩)] w fun e w' => e = .returned (.bool (freshB bi bt xs x)) ∧ Below w.heap.size w w' := by
  have H := Lib.hid h
  have HR := Lib.hid hr
  have HE := Lib.hid he
  obtain ⟨i, t, k, ds, vs, ls⟩ := x
  obtain ⟨D', dc, V, vc, L, lc, rfl, _, _⟩ := he
  obtain ⟨r, hrr⟩ : ∃ r, r = freshB bi bt xs (i, t, k, ds, vs, ls) := ⟨_, rfl⟩
  rw [← hrr]
  have HRR := Lib.hid hrr
  dsimp only
  have c5 := k5.cell
  clear h hr hrr
  go_enter Try.func33, Try.ntmps33
  go_wp2_with fail
  refine name_calls (fun w1 hw1 => ?_)
  have k2 : Blk w1 w.heap.size [.int .u64 i, .int .u64 t, .int .i64 k, .slice D' ds.length dc, .slice V vs.length vc, .slice L ls.length lc] := by rw [hw1]; exact Blk.new _ _ _ _ rfl
  have hb1 : Below w.heap.size w w1 := by rw [hw1]; exact (by (repeat first | refine Below.setCell ?_ (by first | omega | (dsimp only; omega) | (simp only [heap_drew, World.size_alloc, Gz.size_setCell]; omega)) _ | refine Below.alloc ?_ (by first | omega | (dsimp only; omega) | (simp only [heap_drew, World.size_alloc, Gz.size_setCell]; omega)) _ | refine Below.drew ?_); exact Below.refl _ _)
  clear hw1 c5
  refine (term_any bi bt A na ca B nb cb D nd cd O n c xs i w1 (H.out.below hb1) hn).mono ?_
  rintro e w2 ⟨hb2, tt, b, rfl, hT⟩
  have HO := Lib.hid (show r = (!b || otherB bi bt xs (i, t, k, ds, vs, ls)) by rw [HRR.out]; exact fresh_of_other bi bt xs (i, t, k, ds, vs, ls) tt b HR.out hT)
  clear hT
  have c2 := (k2.ext hb2).cell
  have hb2 := hb1.trans (hb2.mono hb1.size)
  cases b with
  | false =>
    go_wp2
    go_ret
    exact ⟨(by rw [HO.out]; rfl : Ending.returned (.bool true) = .returned (.bool r)), hb2⟩
  | true =>
    have c16 := (k16.ext hb2).cell
    go_wp2_with fail
    refine (other_any bi bt A na ca B nb cb D nd cd O n c xs g5 w2 (k5.ext hb2) (H.out.below hb2) HR.out hn _ (i, t, k, ds, vs, ls) (HE.out.below hb2)).mono ?_
    rintro e w3 ⟨rfl, hb3⟩
    obtain ⟨b, hb⟩ : ∃ b, b = otherB bi bt xs (i, t, k, ds, vs, ls) := ⟨_, rfl⟩
    rw [← hb]
    have HB := Lib.hid (show r = b by rw [HO.out, ← hb]; simp)
    clear hb
    go_wp2
    go_ret
    exact ⟨(by rw [HB.out] : Ending.returned (.bool b) = .returned (.bool r)), hb2.trans (hb3.mono hb2.size)⟩

set_option maxHeartbeats 1600000 in
theorem held_any (w : World) (k5 : Blk w g5 [.int .u64 bi, .int .u64 bt, .slice A na ca, .slice B nb cb, .slice D nd cd, .slice O n c]) (k6 : Blk w g6 [.int .u64 cm]) (k16 : Blk w g16 [fOther g5]) (h : IsEs w O n xs) (hr : Right bi xs) (hn : n ≤ 140737488355328) (cs : List Value) (x : Ent) (he : IsE w cs x) :
    Calls Try.prog 35 #[.agg cs.toArray, .pointer (some ⟨g6, 0, none⟩), .pointer (some ⟨g16, 0, none⟩)] w fun e w' => e = .returned (.bool (heldB cm bi bt xs x)) ∧ Below w.heap.size w w' := by
  have H := Lib.hid h
  have HR := Lib.hid hr
  have HE := Lib.hid he
  obtain ⟨i, t, k, ds, vs, ls⟩ := x
  obtain ⟨D', dc, V, vc, L, lc, rfl, _, _⟩ := he
  obtain ⟨r, hrr⟩ : ∃ r, r = heldB cm bi bt xs (i, t, k, ds, vs, ls) := ⟨_, rfl⟩
  rw [← hrr]
  have HRR := Lib.hid hrr
  dsimp only
  have c6 := k6.cell
  have c16 := k16.cell
  clear h hr hrr
  go_enter Try.func35, Try.ntmps35
  by_cases hle : i ≤ cm
  · go_wp2_with fail
    refine name_calls (fun w1 hw1 => ?_)
    have hb1 : Below w.heap.size w w1 := by rw [hw1]; exact (by (repeat first | refine Below.setCell ?_ (by first | omega | (dsimp only; omega) | (simp only [heap_drew, World.size_alloc, Gz.size_setCell]; omega)) _ | refine Below.alloc ?_ (by first | omega | (dsimp only; omega) | (simp only [heap_drew, World.size_alloc, Gz.size_setCell]; omega)) _ | refine Below.drew ?_); exact Below.refl _ _)
    clear hw1 c6 c16
    refine (other_any bi bt A na ca B nb cb D nd cd O n c xs g5 w1 (k5.ext hb1) (H.out.below hb1) HR.out hn _ (i, t, k, ds, vs, ls) (HE.out.below hb1)).mono ?_
    rintro e w3 ⟨rfl, hb3⟩
    obtain ⟨b, hb⟩ : ∃ b, b = otherB bi bt xs (i, t, k, ds, vs, ls) := ⟨_, rfl⟩
    rw [← hb]
    have HB := Lib.hid (show r = b by rw [HRR.out, heldB, ← hb]; simp [hle])
    clear hb
    go_wp2
    go_ret
    exact ⟨(by rw [HB.out] : Ending.returned (.bool b) = .returned (.bool r)), hb1.trans (hb3.mono hb1.size)⟩
  · go_wp2
    go_ret
    exact ⟨(by rw [HRR.out, heldB, decide_eq_false (by omega)]; rfl : Ending.returned (.bool false) = .returned (.bool r)), (by (repeat first | refine Below.setCell ?_ (by first | omega | (dsimp only; omega) | (simp only [heap_drew, World.size_alloc, Gz.size_setCell]; omega)) _ | refine Below.alloc ?_ (by first | omega | (dsimp only; omega) | (simp only [heap_drew, World.size_alloc, Gz.size_setCell]; omega)) _ | refine Below.drew ?_); exact Below.refl _ _)⟩

/-- Of none it holds. -/
def AllNot (P : Ent → Bool) (ys : List Ent) : Prop := ∀ y ∈ ys, P y = false
/-- The place of the first of which it holds; -1: of none. -/
def FirstIs (P : Ent → Bool) (more : List Ent) (e : Ending) : Prop := (∃ (i : Nat) (x : Ent), e = .returned (.int .i64 i) ∧ more[i]? = some x ∧ P x = true ∧ AllNot P (more.take i)) ∨ (e = .returned (.int .i64 (-1)) ∧ AllNot P more)
theorem AllNot.snoc {P : Ent → Bool} {more : List Ent} {j : Nat} {x : Ent} (h : AllNot P (more.take j)) (hx : more[j]? = some x) (hp : P x = false) : AllNot P (more.take (j + 1)) := fun y hy => by
  rw [List.take_add_one, hx] at hy
  rcases List.mem_append.1 hy with hy | hy
  · exact h y hy
  · simp at hy; subst hy; exact hp

set_option maxHeartbeats 1600000 in
theorem idxFresh_any (M : Option Addr) (m mc : Nat) (more : List Ent) (w : World) (k5 : Blk w g5 [.int .u64 bi, .int .u64 bt, .slice A na ca, .slice B nb cb, .slice D nd cd, .slice O n c]) (k16 : Blk w g16 [fOther g5]) (h : IsEs w O n xs) (hr : Right bi xs) (hn : n ≤ 140737488355328) (hM : IsEs w M m more) (hm : m ≤ 140737488355328) :
    Calls Try.prog 37 #[.slice M m mc, fFresh g5 g16] w fun e w' => Below w.heap.size w w' ∧ FirstIs (freshB bi bt xs) more e := by
  have H := Lib.hid h
  have HR := Lib.hid hr
  have HM := Lib.hid hM
  have hml := hM.len
  clear h hr hM
  go_enter Try.func37, Try.ntmps37
  go_wp2_with fail
  go_loopw [8] (fun s8 wr => ∃ j : Nat, s8 = .int .i64 j ∧ j ≤ m ∧ AllNot (freshB bi bt xs) (more.take j) ∧ Below w.heap.size w wr) (fun s8 _ => (m - intOf s8).toNat)
  case atStart => exact ⟨0, rfl, by omega, fun y hy => (by simp at hy), Below.refl _ _⟩
  case round =>
    obtain ⟨j, rfl, hj, hU, hbr⟩ := hrel
    have HU := Lib.hid hU
    clear hU
    by_cases hlt : j < m
    · have b1 : (j : Int) < (m : Int) := by omega
      cases M with
      | none => obtain ⟨zs, _, h2, h3, _⟩ := HM.out; have := h3.2.1 rfl; omega
      | some ad =>
      obtain ⟨x, D', dc, V, vc, L, lc, hx, hE, _, _, m0, m1, m2, m3, m4, m5⟩ := (HM.out.below hbr).at hlt
      have HX := Lib.hid hx
      have HE := Lib.hid hE
      clear hx hE
      go_wp2_with fail
      refine (fresh_any bi bt A na ca B nb cb D nd cd O n c xs g5 g16 wr (k5.ext hbr) (k16.ext hbr) (H.out.below hbr) HR.out hn _ x HE.out).mono ?_
      rintro e w3 ⟨rfl, hb3⟩
      have hbr3 := hbr.trans (hb3.mono hbr.size)
      obtain ⟨b, hb⟩ : ∃ b, b = freshB bi bt xs x := ⟨_, rfl⟩
      rw [← hb]
      have HB := Lib.hid hb.symm
      clear hb m0 m1 m2 m3 m4 m5
      cases b with
      | true =>
        go_wp2
        go_ret
        exact ⟨hbr3, .inl ⟨j, x, rfl, HX.out, HB.out, HU.out⟩⟩
      | false =>
        have hU := HU.out.snoc HX.out HB.out
        go_wp2
        go_roundw
        case rel => exact ⟨j + 1, by go_num, by omega, hU, hbr3⟩
        case measure => simp [intOf]; omega
    · obtain rfl : j = m := by omega
      have b1 : ¬ (j : Int) < (j : Int) := by omega
      have hU := HU.out
      rw [List.take_of_length_le (by omega)] at hU
      have HU := Lib.hid hU
      clear hU
      go_wp2
      go_ret
      exact ⟨hbr, .inr ⟨rfl, HU.out⟩⟩
set_option maxHeartbeats 1600000 in
theorem idxHeld_any (M : Option Addr) (m mc : Nat) (more : List Ent) (w : World) (k5 : Blk w g5 [.int .u64 bi, .int .u64 bt, .slice A na ca, .slice B nb cb, .slice D nd cd, .slice O n c]) (k6 : Blk w g6 [.int .u64 cm]) (k16 : Blk w g16 [fOther g5]) (h : IsEs w O n xs) (hr : Right bi xs) (hn : n ≤ 140737488355328) (hM : IsEs w M m more) (hm : m ≤ 140737488355328) :
    Calls Try.prog 37 #[.slice M m mc, fHeld g6 g16] w fun e w' => Below w.heap.size w w' ∧ FirstIs (heldB cm bi bt xs) more e := by
  have H := Lib.hid h
  have HR := Lib.hid hr
  have HM := Lib.hid hM
  have hml := hM.len
  clear h hr hM
  go_enter Try.func37, Try.ntmps37
  go_wp2_with fail
  go_loopw [8] (fun s8 wr => ∃ j : Nat, s8 = .int .i64 j ∧ j ≤ m ∧ AllNot (heldB cm bi bt xs) (more.take j) ∧ Below w.heap.size w wr) (fun s8 _ => (m - intOf s8).toNat)
  case atStart => exact ⟨0, rfl, by omega, fun y hy => (by simp at hy), Below.refl _ _⟩
  case round =>
    obtain ⟨j, rfl, hj, hU, hbr⟩ := hrel
    have HU := Lib.hid hU
    clear hU
    by_cases hlt : j < m
    · have b1 : (j : Int) < (m : Int) := by omega
      cases M with
      | none => obtain ⟨zs, _, h2, h3, _⟩ := HM.out; have := h3.2.1 rfl; omega
      | some ad =>
      obtain ⟨x, D', dc, V, vc, L, lc, hx, hE, _, _, m0, m1, m2, m3, m4, m5⟩ := (HM.out.below hbr).at hlt
      have HX := Lib.hid hx
      have HE := Lib.hid hE
      clear hx hE
      go_wp2_with fail
      refine (held_any bi bt A na ca B nb cb D nd cd O n c xs cm g5 g6 g16 wr (k5.ext hbr) (k6.ext hbr) (k16.ext hbr) (H.out.below hbr) HR.out hn _ x HE.out).mono ?_
      rintro e w3 ⟨rfl, hb3⟩
      have hbr3 := hbr.trans (hb3.mono hbr.size)
      obtain ⟨b, hb⟩ : ∃ b, b = heldB cm bi bt xs x := ⟨_, rfl⟩
      rw [← hb]
      have HB := Lib.hid hb.symm
      clear hb m0 m1 m2 m3 m4 m5
      cases b with
      | true =>
        go_wp2
        go_ret
        exact ⟨hbr3, .inl ⟨j, x, rfl, HX.out, HB.out, HU.out⟩⟩
      | false =>
        have hU := HU.out.snoc HX.out HB.out
        go_wp2
        go_roundw
        case rel => exact ⟨j + 1, by go_num, by omega, hU, hbr3⟩
        case measure => simp [intOf]; omega
    · obtain rfl : j = m := by omega
      have b1 : ¬ (j : Int) < (j : Int) := by omega
      have hU := HU.out
      rw [List.take_of_length_le (by omega)] at hU
      have HU := Lib.hid hU
      clear hU
      go_wp2
      go_ret
      exact ⟨hbr, .inr ⟨rfl, HU.out⟩⟩

/-- It holds of one of them, or of none. -/
def SomeIs (P : Ent → Bool) (more : List Ent) (b : Bool) : Prop := if b then ∃ x ∈ more, P x = true else AllNot P more
set_option maxHeartbeats 1600000 in
theorem contains_any (M : Option Addr) (m mc : Nat) (more : List Ent) (w : World) (k5 : Blk w g5 [.int .u64 bi, .int .u64 bt, .slice A na ca, .slice B nb cb, .slice D nd cd, .slice O n c]) (k6 : Blk w g6 [.int .u64 cm]) (k16 : Blk w g16 [fOther g5]) (h : IsEs w O n xs) (hr : Right bi xs) (hn : n ≤ 140737488355328) (hM : IsEs w M m more) (hm : m ≤ 140737488355328) :
    Calls Try.prog 34 #[.slice M m mc, fHeld g6 g16] w fun e w' => Below w.heap.size w w' ∧ Says (SomeIs (heldB cm bi bt xs) more) e := by
  have H := Lib.hid h
  have HR := Lib.hid hr
  have HM := Lib.hid hM
  clear h hr hM
  go_enter Try.func34, Try.ntmps34
  go_wp2_with fail
  refine (idxHeld_any bi bt A na ca B nb cb D nd cd O n c xs cm g5 g6 g16 M m mc more w k5 k6 k16 H.out HR.out hn HM.out hm).mono ?_
  rintro e w2 ⟨hb2, hF⟩
  rcases hF with ⟨i, x, rfl, hx, hp, hU⟩ | ⟨rfl, hU⟩
  · have HX := Lib.hid hx
    have HP := Lib.hid hp
    clear hx hp hU
    have b1 : (0 : Int) ≤ (i : Int) := by omega
    go_wp2
    go_ret
    exact ⟨hb2, Says.mk true ⟨x, List.mem_of_getElem? HX.out, HP.out⟩⟩
  · have HU := Lib.hid hU
    clear hU
    go_wp2
    go_ret
    exact ⟨hb2, Says.mk false HU.out⟩
end
end Go.Proofs.Ytglabhfmeinogaa

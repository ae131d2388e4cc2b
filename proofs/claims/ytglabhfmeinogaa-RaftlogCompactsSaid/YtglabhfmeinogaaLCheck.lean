/- Contracts of the document's Check: of a log that it calls right the indexes are one behind the other. -/
import Derived.Test.YtglabhfmeinogaaLRead
namespace Go.Proofs.Ytglabhfmeinogaa
open Go.RowKit Go.Gz
attribute [local go_sem] World.cell?_alloc_some frozen?_alloc_some

/-- The indexes of a log that is right. -/
def Right (bi : Int) (xs : List Ent) : Prop := bi + xs.length < 4611686018427387904 ∧ ∀ (j : Nat) (x : Ent), xs[j]? = some x → x.1 = bi + j + 1
/-- The answer true says that the index is that one. -/
def FineB (i ix : Int) (b : Bool) : Prop := b = true → i = ix
theorem FineB.self (i : Int) (b : Bool) : FineB i i b := fun _ => rfl
theorem FineB.no (i ix : Int) : FineB i ix false := fun h => by cases h

/-- It answers a truth value of which Q holds. -/
def Says (Q : Bool → Prop) (e : Ending) : Prop := ∃ b : Bool, e = .returned (.bool b) ∧ Q b
theorem Says.mk {Q : Bool → Prop} (b : Bool) (h : Q b) : Says Q (.returned (.bool b)) := ⟨b, rfl, h⟩

set_option maxHeartbeats 1600000 in
theorem fine_any (cs : List Value) (x : Ent) (ix tm : Int) (w : World) (h : IsE w cs x) :
    Calls Try.prog 49 #[.agg cs.toArray, .int .u64 ix, .int .u64 tm] w fun e w' => Below w.heap.size w w' ∧ Says (FineB x.1 ix) e := by
  obtain ⟨i, t, k, ds, vs, ls⟩ := x
  obtain ⟨D, dc, V, vc, L, lc, rfl, _, _⟩ := h
  dsimp only
  go_enter Try.func49, Try.ntmps49
  by_cases hix : i = ix
  · subst hix
    go_wp2
    all_goals go_ret
    all_goals exact ⟨(by (repeat first | refine Below.setCell ?_ (by first | omega | (dsimp only; omega) | (simp only [heap_drew, World.size_alloc, Gz.size_setCell]; omega)) _ | refine Below.alloc ?_ (by first | omega | (dsimp only; omega) | (simp only [heap_drew, World.size_alloc, Gz.size_setCell]; omega)) _ | refine Below.drew ?_); exact Below.refl _ _), Says.mk _ (FineB.self _ _)⟩
  · have e0 : (i != ix) = true := bne_iff_ne.2 hix
    go_wp2
    go_ret
    exact ⟨(by (repeat first | refine Below.setCell ?_ (by first | omega | (dsimp only; omega) | (simp only [heap_drew, World.size_alloc, Gz.size_setCell]; omega)) _ | refine Below.alloc ?_ (by first | omega | (dsimp only; omega) | (simp only [heap_drew, World.size_alloc, Gz.size_setCell]; omega)) _ | refine Below.drew ?_); exact Below.refl _ _), Says.mk false (FineB.no _ _)⟩

/-- The answer true says that the indexes are right. -/
def RightB (bi : Int) (xs : List Ent) (b : Bool) : Prop := b = true → Right bi xs
theorem RightB.no (bi : Int) (xs : List Ent) : RightB bi xs false := fun h => by cases h
/-- The first ones are right. -/
def Upto (bi : Int) (xs : List Ent) (j : Nat) : Prop := ∀ (i : Nat) (x : Ent), i < j → xs[i]? = some x → x.1 = bi + i + 1

set_option maxHeartbeats 1600000 in
theorem entriesRef_any (bi bt : Int) (O : Option Addr) (n c : Nat) (xs : List Ent) (w : World) (h : IsEs w O n xs) (hn : n ≤ 140737488355328) (hb0 : 0 ≤ bi) (hb1 : bi < 18446744073709551616) :
    Calls Try.prog 27 #[.int .u64 bi, .int .u64 bt, .slice O n c] w fun e w' => Below w.heap.size w w' ∧ Says (RightB bi xs) e := by
  have H := Lib.hid h
  have hxl := h.len
  clear h
  go_enter Try.func27, Try.ntmps27
  by_cases g1 : 4611686018427387904 ≤ bi
  · go_wp2
    go_ret
    exact ⟨Below.refl _ _, Says.mk false (RightB.no _ _)⟩
  by_cases g2 : 4611686018427387904 - bi ≤ (n : Int)
  · go_wp2
    go_ret
    exact ⟨Below.refl _ _, Says.mk false (RightB.no _ _)⟩
  go_wp2_with fail
  go_loopw [1, 7] (fun s1 s7 wr => ∃ (j : Nat) (tm : Int), s1 = .int .u64 tm ∧ s7 = .int .i64 j ∧ j ≤ n ∧ Upto bi xs j ∧ Below w.heap.size w wr) (fun _ s7 _ => (n - intOf s7).toNat)
  case atStart => exact ⟨0, bt, rfl, rfl, by omega, fun i x hi => by omega, Below.refl _ _⟩
  case round =>
    obtain ⟨j, tm, rfl, rfl, hj, hU, hbr⟩ := hrel
    have HU := Lib.hid hU
    clear hU
    by_cases hlt : j < n
    · have b1 : (j : Int) < (n : Int) := by omega
      cases O with
      | none => obtain ⟨zs, _, h2, h3, _⟩ := H.out; have := h3.2.1 rfl; omega
      | some ad =>
      obtain ⟨x, D, dc, V, vc, L, lc, hx, hE, _, _, m0, m1, m2, m3, m4, m5⟩ := (H.out.below hbr).at hlt
      have HX := Lib.hid hx
      have HE := Lib.hid hE
      clear hx hE
      go_wp2_with fail
      refine (fine_any _ x (bi + j + 1) tm wr HE.out).mono ?_
      rintro e w3 ⟨hb3, b, rfl, hb⟩
      have hbr3 := hbr.trans (hb3.mono hbr.size)
      have HB := Lib.hid hb
      clear hb m0 m1 m2 m3 m4 m5
      obtain ⟨_, _, _, _, _, _, _, hx', _, _, _, m0, m1, m2, m3, m4, m5⟩ := (H.out.below hbr3).at hlt
      rw [HX.out] at hx'
      obtain rfl := Option.some.inj hx'
      cases b with
      | false =>
        go_wp2
        go_ret
        exact ⟨hbr3, Says.mk false (RightB.no _ _)⟩
      | true =>
        have hU : Upto bi xs (j + 1) := fun i y hi hy => by
          by_cases e : i = j
          · subst e
            rw [HX.out] at hy
            obtain rfl := Option.some.inj hy
            exact HB.out rfl
          · exact HU.out i y (by omega) hy
        go_wp2
        go_roundw
        case rel => exact ⟨j + 1, _, rfl, by go_num, by omega, hU, hbr3⟩
        case measure => simp [intOf]; omega
    · obtain rfl : j = n := by omega
      have b1 : ¬ (j : Int) < (j : Int) := by omega
      go_wp2
      go_ret
      exact ⟨hbr, Says.mk true (fun _ => ⟨by rw [hxl]; omega, fun i x hx => HU.out i x (by have := (List.getElem?_eq_some_iff.1 hx).1; omega) hx⟩)⟩

set_option maxHeartbeats 1600000 in
theorem checkRef_any (bi bt : Int) (A : Option Addr) (na ca : Nat) (B : Option Addr) (nb cb : Nat) (D : Option Addr) (nd cd : Nat) (O : Option Addr) (n c : Nat) (xs : List Ent) (w : World) (h : IsEs w O n xs) (hn : n ≤ 140737488355328) (hb0 : 0 ≤ bi) (hb1 : bi < 18446744073709551616) :
    Calls Try.prog 10 #[lg bi bt A na ca B nb cb D nd cd O n c] w fun e w' => Below w.heap.size w w' ∧ Says (RightB bi xs) e := by
  have H := Lib.hid h
  clear h
  go_enter Try.func10, Try.ntmps10
  by_cases g1 : bt < 4611686018427387904
  · go_wp2_with fail
    refine name_calls (fun w1 hw1 => ?_)
    have hb1' : Below w.heap.size w w1 := by rw [hw1]; exact (by (repeat first | refine Below.setCell ?_ (by first | omega | (dsimp only; omega) | (simp only [heap_drew, World.size_alloc, Gz.size_setCell]; omega)) _ | refine Below.alloc ?_ (by first | omega | (dsimp only; omega) | (simp only [heap_drew, World.size_alloc, Gz.size_setCell]; omega)) _ | refine Below.drew ?_); exact Below.refl _ _)
    clear hw1
    refine (entriesRef_any bi bt O n c xs w1 (H.out.below hb1') hn hb0 hb1).mono ?_
    rintro e w2 ⟨hb2, b, rfl, hb⟩
    have HB := Lib.hid hb
    clear hb
    go_wp2
    go_ret
    exact ⟨hb1'.trans (hb2.mono hb1'.size), Says.mk b HB.out⟩
  · go_wp2
    go_ret
    exact ⟨(by (repeat first | refine Below.setCell ?_ (by first | omega | (dsimp only; omega) | (simp only [heap_drew, World.size_alloc, Gz.size_setCell]; omega)) _ | refine Below.alloc ?_ (by first | omega | (dsimp only; omega) | (simp only [heap_drew, World.size_alloc, Gz.size_setCell]; omega)) _ | refine Below.drew ?_); exact Below.refl _ _), Says.mk false (RightB.no _ _)⟩
end Go.Proofs.Ytglabhfmeinogaa

/- Contract of Term: the term of an index, of a log whose indexes follow one another. -/
import Derived.Test.YtglabhfmeinogaaLCheck
namespace Go.Proofs.Ytglabhfmeinogaa
open Go.RowKit Go.Gz
attribute [local go_sem] World.cell?_alloc_some frozen?_alloc_some

/-- The term of an index, if there is an entry of it. -/
def termO (bi bt : Int) (xs : List Ent) (ix : Int) : Option Int := if ix = bi then some bt else if bi < ix then (xs[(ix - bi - 1).toNat]?).map (·.2.1) else none
/-- So Term answers, of a log that is right. -/
def TermIs (bi bt : Int) (xs : List Ent) (ix t : Int) (b : Bool) : Prop := Right bi xs → termO bi bt xs ix = if b then some t else none
theorem termIs_base (bi bt : Int) (xs : List Ent) : TermIs bi bt xs bi bt true := fun _ => by simp [termO]
theorem termIs_at {bi bt ix : Int} {xs : List Ent} {p : Nat} {x : Ent} (hx : xs[p]? = some x) (he : x.1 = ix) : TermIs bi bt xs ix x.2.1 true := fun hr => by
  have := hr.2 p x hx
  have h1 : ¬ ix = bi := by omega
  have h2 : bi < ix := by omega
  have h3 : (ix - bi - 1).toNat = p := by omega
  simp [termO, h1, h2, h3, hx]
theorem termIs_not {bi bt ix : Int} {xs : List Ent} {p : Nat} {x : Ent} (hx : xs[p]? = some x) (hA : AtLeast xs p ix) (hU : Under xs p ix) (hb : ¬ ix = bi) (he : ¬ x.1 = ix) : TermIs bi bt xs ix 0 false := fun hr => by
  have h1 := hr.2 p x hx
  have h2 := hA _ hx
  have h3 : ¬ bi < ix := by
    intro h3
    have hpl := (List.getElem?_eq_some_iff.1 hx).1
    by_cases hp : p = 0
    · subst hp; omega
    · have hy := List.getElem?_eq_getElem (show p - 1 < xs.length by omega)
      have hy1 := hU _ (by omega) hy
      have hy2 := hr.2 _ _ hy
      omega
  simp [termO, hb, h3]
theorem termIs_end {bi bt ix : Int} {xs : List Ent} {p : Nat} (hp : p = xs.length) (hU : Under xs p ix) (hb : ¬ ix = bi) : TermIs bi bt xs ix 0 false := fun hr => by
  by_cases h3 : bi < ix
  · have h4 : xs.length ≤ (ix - bi - 1).toNat := by
      by_cases h0 : p = 0
      · omega
      · have hy := List.getElem?_eq_getElem (show p - 1 < xs.length by omega)
        have hy1 := hU _ (by omega) hy
        have hy2 := hr.2 _ _ hy
        omega
    simp only [termO, hb, h3, if_false, if_true, List.getElem?_eq_none h4, Option.map_none]
    rfl
  · simp [termO, hb, h3]

set_option maxHeartbeats 1600000 in
theorem term_any (bi bt : Int) (A : Option Addr) (na ca : Nat) (B : Option Addr) (nb cb : Nat) (D : Option Addr) (nd cd : Nat) (O : Option Addr) (n c : Nat) (xs : List Ent) (ix : Int) (w : World) (h : IsEs w O n xs) (hn : n ≤ 140737488355328) :
    Calls Try.prog 16 #[lg bi bt A na ca B nb cb D nd cd O n c, .int .u64 ix] w fun e w' => Below w.heap.size w w' ∧ ∃ t b, e = .returned (.tuple #[.int .u64 t, .bool b]) ∧ TermIs bi bt xs ix t b := by
  have H := Lib.hid h
  have hxl := h.len
  clear h
  go_enter Try.func16, Try.ntmps16
  by_cases hb : ix = bi
  · subst hb
    go_wp2
    refine bodyPost_ret (v := .tuple #[.int .u64 bt, .bool true]) ?_ rfl ⟨(below_alloc_one _ _), _, _, rfl, termIs_base _ _ _⟩
    simp [results, Try.results16, go_sem]
  have hb0 : (ix == bi) = false := beq_eq_false_iff_ne.2 hb
  go_wp2_with fail
  refine name_calls (fun w1 hw1 => ?_)
  have k2 : Blk w1 w.heap.size [.int .u64 bi, .int .u64 bt, .slice A na ca, .slice B nb cb, .slice D nd cd, .slice O n c] := by rw [hw1]; exact Blk.new _ _ _ _ rfl
  have hb1 : Below w.heap.size w w1 := by rw [hw1]; exact (by (repeat first | refine Below.setCell ?_ (by first | omega | (dsimp only; omega) | (simp only [heap_drew, World.size_alloc, Gz.size_setCell]; omega)) _ | refine Below.alloc ?_ (by first | omega | (dsimp only; omega) | (simp only [heap_drew, World.size_alloc, Gz.size_setCell]; omega)) _ | refine Below.drew ?_); exact Below.refl _ _)
  clear hw1
  refine (place_any bi bt A na ca B nb cb D nd cd O n c xs ix w1 (H.out.below hb1) hn).mono ?_
  rintro e w2 ⟨hb2, p, rfl, hp, hA, hU⟩
  have HA := Lib.hid hA
  have HU := Lib.hid hU
  clear hA hU
  have c2 := (k2.ext hb2).cell
  have hb2 := hb1.trans (hb2.mono hb1.size)
  by_cases hlt : p < n
  · have b1 : (p : Int) < (n : Int) := by omega
    cases O with
    | none => obtain ⟨zs, _, h2, h3, _⟩ := H.out; have := h3.2.1 rfl; omega
    | some ad =>
    obtain ⟨x, D', dc, V, vc, L, lc, hx, _, _, _, m0, m1, m2, m3, m4, m5⟩ := (H.out.below hb2).at hlt
    have HX := Lib.hid hx
    clear hx
    by_cases he : x.1 = ix
    · have he0 : (x.1 == ix) = true := beq_iff_eq.2 he
      have HE := Lib.hid he
      clear he
      go_wp2
      refine bodyPost_ret (v := .tuple #[.int .u64 x.2.1, .bool true]) ?_ rfl ⟨hb2, _, _, rfl, termIs_at HX.out HE.out⟩
      simp [results, Try.results16, go_sem]
    · have he0 : (x.1 == ix) = false := beq_eq_false_iff_ne.2 he
      go_wp2
      refine bodyPost_ret (v := .tuple #[.int .u64 0, .bool false]) ?_ rfl ⟨hb2, _, _, rfl, termIs_not HX.out HA.out HU.out hb he⟩
      simp [results, Try.results16, go_sem]
  · have b1 : ¬ (p : Int) < (n : Int) := by omega
    go_wp2
    refine bodyPost_ret (v := .tuple #[.int .u64 0, .bool false]) ?_ rfl ⟨hb2, _, _, rfl, termIs_end (by omega) HU.out hb⟩
    simp [results, Try.results16, go_sem]
end Go.Proofs.Ytglabhfmeinogaa

/- Contracts of Whole, the program's and the document's. -/
import Derived.Test.YtbpmpnifelbaaaaKFn
import Derived.Test.YtbpmpnifelbaaaaKLaw2
namespace Go.Gz
/-- Pairs of strings, as cells. -/
def rcells (l : List (ByteArray × ByteArray)) : List Value := l.flatMap fun r => [.string r.1, .string r.2]
theorem rcells_len (l : List (ByteArray × ByteArray)) : (rcells l).length = l.length * 2 := by
  induction l with
  | nil => rfl
  | cons r l ih => simp only [rcells, List.flatMap_cons, List.length_append, List.length_cons, List.length_nil] at *; omega
theorem rcells_get : ∀ (l : List (ByteArray × ByteArray)) (j : Nat) (h : j < l.length), (rcells l)[j * 2]? = some (.string (l[j]).1) ∧ (rcells l)[j * 2 + 1]? = some (.string (l[j]).2)
  | r :: l, 0, _ => ⟨rfl, rfl⟩
  | r :: l, j + 1, h => by
    have ih := rcells_get l j (by simpa using h)
    have e : rcells (r :: l) = .string r.1 :: .string r.2 :: rcells l := rfl
    rw [e, show (j + 1) * 2 = j * 2 + 1 + 1 by omega]
    simpa using ih
theorem SlA.rlen {w : World} {n : Nat} {A : Option Addr} {l : List (ByteArray × ByteArray)} (h : SlA w 2 A n (rcells l)) : l.length = n := by have := h.1; rw [rcells_len] at this; omega
theorem add_of (ad : Addr) (m k : Nat) (hk : 0 < k) : (⟨(ad.add m).block, (ad.add m).off + k, none⟩ : Addr) = ad.add (m + k) := by
  obtain ⟨b, o, s⟩ := ad
  cases k with
  | zero => omega
  | succ k => cases m <;> simp [Addr.add] <;> omega
theorem SlA.rg {w : World} {n : Nat} {ad : Addr} {l : List (ByteArray × ByteArray)} (h : SlA w 2 (some ad) n (rcells l)) {j : Nat} (hj : j < l.length) :
    w.cell? (ad.add (j * 2)) = some (.string (l[j]).1) ∧ w.cell? { block := (ad.add (j * 2)).block, off := (ad.add (j * 2)).off + 1 } = some (.string (l[j]).2) :=
  ⟨h.2.2 ad rfl _ _ (rcells_get l j hj).1, by rw [add_of ad (j * 2) 1 (by omega)]; exact h.2.2 ad rfl _ _ (rcells_get l j hj).2⟩
end Go.Gz
namespace Go.Proofs.Ytbpmpnifelbaaaa
open Go.RowKit Go.Gz Go.Lib
attribute [local go_sem] World.cell?_alloc_some frozen?_alloc_some

set_option maxHeartbeats 1600000 in
theorem whole_any (O : Option Addr) (n c : Nat) (l : List (ByteArray × ByteArray)) (w : World) (h : SlA w 2 O n (rcells l)) (hn : n ≤ 140737488355328) :
    Calls Try.prog 20 #[.slice O n c] w fun e w' => e = .returned (.tuple #[.int .i64 (wholeGo n es 0 l).1, .int .i64 (wholeGo n es 0 l).2]) ∧ Below w.heap.size w w' := by
  obtain ⟨W, hW⟩ : ∃ W, W = wholeGo n es 0 l := ⟨_, rfl⟩
  rw [← hW]
  have H := Lib.hid h
  clear h
  have hl := H.out.rlen
  go_enter Try.func20, Try.ntmps20
  go_wp2_with fail
  go_loopw [4, 10] (fun s4 s10 wr => ∃ (j : Nat) (e : ByteArray), s4 = .string e ∧ s10 = .int .i64 j ∧ j ≤ n ∧ W = wholeGo n e j (l.drop j) ∧ Below w.heap.size w wr) (fun _ s10 _ => (n - RowKit.intOf s10).toNat)
  case atStart => exact ⟨0, es, rfl, rfl, by omega, by rw [hW]; rfl, Below.refl _ _⟩
  case round =>
    obtain ⟨j, e, rfl, rfl, hj, hE, hbr⟩ := hrel
    have HE := Lib.hid hE
    clear hE hW
    by_cases hlt : j < n
    · have b1 : (j : Int) < (n : Int) := by omega
      cases O with
      | none => have := H.out.2.1 rfl; omega
      | some ad =>
      obtain ⟨lo, hi, hr⟩ : ∃ lo hi, l[j]'(by omega) = (lo, hi) := ⟨_, _, rfl⟩
      have cc := (H.out.below hbr).rg (j := j) (by omega)
      rw [hr] at cc
      have HD := Lib.hid (show l.drop j = (lo, hi) :: l.drop (j + 1) by rw [← hr]; exact List.drop_eq_getElem_cons (by omega))
      have cc1 := cc.1
      have cc2 := cc.2
      clear hr cc
      dsimp only at cc1 cc2
      go_wp2_with fail
      refine name_calls (fun w2 hw2 => ?_)
      have k6 : Blk w2 wr.heap.size [.string lo, .string hi] := by rw [hw2]; exact Blk.new _ _ _ _ rfl
      have hbr2 : Below w.heap.size w w2 := by rw [hw2]; exact hbr.alloc hbr.size _
      clear hw2
      refine (check_any lo hi w2).mono ?_
      rintro x w3 ⟨rfl, hb3⟩
      have c6 := (k6.ext hb3).cell
      have hbr3 := hbr2.trans (hb3.mono hbr2.size)
      by_cases h0 : chk lo hi = 0
      · have HW := Lib.hid (show W = if ¬ bl lo = bl e ∨ (bl hi = [] ∧ j + 1 < n) then (133, j) else wholeGo n hi (j + 1) (l.drop (j + 1)) by rw [HE.out, HD.out]; conv => lhs; unfold wholeGo; rw [if_neg (by simp [h0])])
        rw [h0]
        clear h0
        by_cases g1 : bl lo = bl e
        · have e1 := eqT g1
          by_cases g2 : bl hi = []
          · have e2 := emT g2
            by_cases g3 : j + 1 < n
            · have b3 : (j : Int) + 1 < (n : Int) := by omega
              have b4 : (j : Int) < (n : Int) - 1 := by omega
              have HV := Lib.hid (show W = (133, j) by rw [HW.out, if_pos (.inr ⟨g2, g3⟩)])
              go_wp2
              refine bodyPost_ret (v := .tuple #[.int .i64 133, .int .i64 (j : Int)]) ?_ rfl ⟨by rw [HV.out]; try rfl, hbr3⟩
              simp [results, Try.results20, go_sem]
            · have b3 : ¬ (j : Int) + 1 < (n : Int) := by omega
              have b4 : ¬ (j : Int) < (n : Int) - 1 := by omega
              have hN : W = wholeGo n hi (j + 1) (l.drop (j + 1)) := by rw [HW.out, if_neg (by simp [g1, g3])]
              have HN := Lib.hid hN
              clear hN
              go_wp2
              go_roundw
              case rel => exact ⟨j + 1, hi, rfl, by go_num, by omega, HN.out, hbr3⟩
              case measure => simp [RowKit.intOf]; omega
          · have e2 := emF g2
            by_cases g3 : j + 1 < n
            · have b3 : (j : Int) + 1 < (n : Int) := by omega
              have b4 : (j : Int) < (n : Int) - 1 := by omega
              have hN : W = wholeGo n hi (j + 1) (l.drop (j + 1)) := by rw [HW.out, if_neg (by simp [g1, g2])]
              have HN := Lib.hid hN
              clear hN
              go_wp2
              go_roundw
              case rel => exact ⟨j + 1, hi, rfl, by go_num, by omega, HN.out, hbr3⟩
              case measure => simp [RowKit.intOf]; omega
            · have b3 : ¬ (j : Int) + 1 < (n : Int) := by omega
              have b4 : ¬ (j : Int) < (n : Int) - 1 := by omega
              have hN : W = wholeGo n hi (j + 1) (l.drop (j + 1)) := by rw [HW.out, if_neg (by simp [g1, g2])]
              have HN := Lib.hid hN
              clear hN
              go_wp2
              go_roundw
              case rel => exact ⟨j + 1, hi, rfl, by go_num, by omega, HN.out, hbr3⟩
              case measure => simp [RowKit.intOf]; omega
        · have e1 := eqF g1
          have HV := Lib.hid (show W = (133, j) by rw [HW.out, if_pos (.inl g1)])
          go_wp2
          refine bodyPost_ret (v := .tuple #[.int .i64 133, .int .i64 (j : Int)]) ?_ rfl ⟨by rw [HV.out]; try rfl, hbr3⟩
          simp [results, Try.results20, go_sem]
      · have e0 : (chk lo hi == 0) = false := by simp [h0]
        have e0' : (chk lo hi != 0) = true := by simp [h0]
        have HV := Lib.hid (show W = (chk lo hi, j) by rw [HE.out, HD.out]; conv => lhs; unfold wholeGo; rw [if_pos h0])
        clear h0
        go_wp2
        refine bodyPost_ret (v := .tuple #[.int .i64 (chk lo hi), .int .i64 (j : Int)]) ?_ rfl ⟨by rw [HV.out]; try rfl, hbr3⟩
        simp [results, Try.results20, go_sem]
    · obtain rfl : j = n := by omega
      have b1 : ¬ (j : Int) < (j : Int) := by omega
      have HW := Lib.hid (show W = if j = 0 ∨ ¬ bl e = [] then (133, j) else (0, 0) by rw [HE.out, List.drop_eq_nil_of_le (by omega)]; unfold wholeGo; rfl)
      by_cases g0 : j = 0
      · have z0 : ((j : Int) == 0) = true := by subst g0; rfl
        have HV := Lib.hid (show W = (133, 0) by rw [HW.out, if_pos (.inl g0)]; rw [g0])
        subst g0
        go_wp2
        refine bodyPost_ret (v := .tuple #[.int .i64 133, .int .i64 0]) ?_ rfl ⟨by rw [HV.out]; try rfl, hbr⟩
        simp [results, Try.results20, go_sem]
      have z0 : ((j : Int) == 0) = false := by rw [beq_eq_false_iff_ne]; omega
      by_cases g1 : bl e = []
      · have e1 := emT g1
        have HV := Lib.hid (show W = (0, 0) by rw [HW.out, if_neg (by simp [g0, g1])])
        go_wp2
        refine bodyPost_ret (v := .tuple #[.int .i64 0, .int .i64 0]) ?_ rfl ⟨by rw [HV.out]; try rfl, hbr⟩
        simp [results, Try.results20, go_sem]
      · have e1 := emF g1
        have HV := Lib.hid (show W = (133, j) by rw [HW.out, if_pos (.inr g1)])
        go_wp2
        refine bodyPost_ret (v := .tuple #[.int .i64 133, .int .i64 (j : Int)]) ?_ rfl ⟨by rw [HV.out]; try rfl, hbr⟩
        simp [results, Try.results20, go_sem]

set_option maxHeartbeats 1600000 in
theorem wholeRef_any (O : Option Addr) (n c : Nat) (l : List (ByteArray × ByteArray)) (w : World) (h : SlA w 2 O n (rcells l)) (hn : n ≤ 140737488355328) :
    Calls Try.prog 21 #[.slice O n c] w fun e w' => e = .returned (.tuple #[.int .i64 (wholeGo n es 0 l).1, .int .i64 (wholeGo n es 0 l).2]) ∧ Below w.heap.size w w' := by
  obtain ⟨W, hW⟩ : ∃ W, W = wholeGo n es 0 l := ⟨_, rfl⟩
  rw [← hW]
  have H := Lib.hid h
  clear h
  have hl := H.out.rlen
  go_enter Try.func21, Try.ntmps21
  go_wp2_with fail
  go_loopw [4, 5] (fun s4 s10 wr => ∃ (j : Nat) (e : ByteArray), s4 = .string e ∧ s10 = .int .i64 j ∧ j ≤ n ∧ W = wholeGo n e j (l.drop j) ∧ Below w.heap.size w wr) (fun _ s10 _ => (n - RowKit.intOf s10).toNat)
  case atStart => exact ⟨0, es, rfl, rfl, by omega, by rw [hW]; rfl, Below.refl _ _⟩
  case round =>
    obtain ⟨j, e, rfl, rfl, hj, hE, hbr⟩ := hrel
    have HE := Lib.hid hE
    clear hE hW
    by_cases hlt : j < n
    · have b1 : (j : Int) < (n : Int) := by omega
      cases O with
      | none => have := H.out.2.1 rfl; omega
      | some ad =>
      obtain ⟨lo, hi, hr⟩ : ∃ lo hi, l[j]'(by omega) = (lo, hi) := ⟨_, _, rfl⟩
      have cc := (H.out.below hbr).rg (j := j) (by omega)
      rw [hr] at cc
      have HD := Lib.hid (show l.drop j = (lo, hi) :: l.drop (j + 1) by rw [← hr]; exact List.drop_eq_getElem_cons (by omega))
      have cc1 := cc.1
      have cc2 := cc.2
      clear cc
      dsimp only at cc1 cc2
      go_wp2_with fail
      refine (checkRef_any lo hi wr).mono ?_
      rintro x w3 ⟨rfl, hb3⟩
      have hbr3 := hbr.trans (hb3.mono hbr.size)
      clear cc1 cc2
      have cc := (H.out.below hbr3).rg (j := j) (by omega)
      rw [hr] at cc
      have cc1 := cc.1
      have cc2 := cc.2
      dsimp only at cc1 cc2
      clear cc
      by_cases h0 : chk lo hi = 0
      · have HW := Lib.hid (show W = if ¬ bl lo = bl e ∨ (bl hi = [] ∧ j + 1 < n) then (133, j) else wholeGo n hi (j + 1) (l.drop (j + 1)) by rw [HE.out, HD.out]; conv => lhs; unfold wholeGo; rw [if_neg (by simp [h0])])
        rw [h0]
        clear h0
        by_cases g1 : bl lo = bl e
        · have e1 := eqT g1
          by_cases g2 : bl hi = []
          · have e2 := emT g2
            by_cases g3 : j + 1 < n
            · have b3 : (j : Int) + 1 < (n : Int) := by omega
              have b4 : (j : Int) < (n : Int) - 1 := by omega
              have HV := Lib.hid (show W = (133, j) by rw [HW.out, if_pos (.inr ⟨g2, g3⟩)])
              go_wp2
              refine bodyPost_ret (v := .tuple #[.int .i64 133, .int .i64 (j : Int)]) ?_ rfl ⟨by rw [HV.out]; try rfl, hbr3⟩
              simp [results, Try.results21, go_sem]
            · have b3 : ¬ (j : Int) + 1 < (n : Int) := by omega
              have b4 : ¬ (j : Int) < (n : Int) - 1 := by omega
              have hN : W = wholeGo n hi (j + 1) (l.drop (j + 1)) := by rw [HW.out, if_neg (by simp [g1, g3])]
              have HN := Lib.hid hN
              clear hN
              go_wp2
              go_roundw
              case rel => exact ⟨j + 1, hi, rfl, by go_num, by omega, HN.out, hbr3⟩
              case measure => simp [RowKit.intOf]; omega
          · have e2 := emF g2
            by_cases g3 : j + 1 < n
            · have b3 : (j : Int) + 1 < (n : Int) := by omega
              have b4 : (j : Int) < (n : Int) - 1 := by omega
              have hN : W = wholeGo n hi (j + 1) (l.drop (j + 1)) := by rw [HW.out, if_neg (by simp [g1, g2])]
              have HN := Lib.hid hN
              clear hN
              go_wp2
              go_roundw
              case rel => exact ⟨j + 1, hi, rfl, by go_num, by omega, HN.out, hbr3⟩
              case measure => simp [RowKit.intOf]; omega
            · have b3 : ¬ (j : Int) + 1 < (n : Int) := by omega
              have b4 : ¬ (j : Int) < (n : Int) - 1 := by omega
              have hN : W = wholeGo n hi (j + 1) (l.drop (j + 1)) := by rw [HW.out, if_neg (by simp [g1, g2])]
              have HN := Lib.hid hN
              clear hN
              go_wp2
              go_roundw
              case rel => exact ⟨j + 1, hi, rfl, by go_num, by omega, HN.out, hbr3⟩
              case measure => simp [RowKit.intOf]; omega
        · have e1 := eqF g1
          have HV := Lib.hid (show W = (133, j) by rw [HW.out, if_pos (.inl g1)])
          go_wp2
          refine bodyPost_ret (v := .tuple #[.int .i64 133, .int .i64 (j : Int)]) ?_ rfl ⟨by rw [HV.out]; try rfl, hbr3⟩
          simp [results, Try.results21, go_sem]
      · have e0 : (chk lo hi == 0) = false := by simp [h0]
        have e0' : (chk lo hi != 0) = true := by simp [h0]
        have HV := Lib.hid (show W = (chk lo hi, j) by rw [HE.out, HD.out]; conv => lhs; unfold wholeGo; rw [if_pos h0])
        clear h0
        go_wp2
        refine bodyPost_ret (v := .tuple #[.int .i64 (chk lo hi), .int .i64 (j : Int)]) ?_ rfl ⟨by rw [HV.out]; try rfl, hbr3⟩
        simp [results, Try.results21, go_sem]
    · obtain rfl : j = n := by omega
      have b1 : ¬ (j : Int) < (j : Int) := by omega
      have HW := Lib.hid (show W = if j = 0 ∨ ¬ bl e = [] then (133, j) else (0, 0) by rw [HE.out, List.drop_eq_nil_of_le (by omega)]; unfold wholeGo; rfl)
      by_cases g0 : j = 0
      · have z0 : ((j : Int) == 0) = true := by subst g0; rfl
        have HV := Lib.hid (show W = (133, 0) by rw [HW.out, if_pos (.inl g0)]; rw [g0])
        subst g0
        go_wp2
        refine bodyPost_ret (v := .tuple #[.int .i64 133, .int .i64 0]) ?_ rfl ⟨by rw [HV.out]; try rfl, hbr⟩
        simp [results, Try.results21, go_sem]
      have z0 : ((j : Int) == 0) = false := by rw [beq_eq_false_iff_ne]; omega
      by_cases g1 : bl e = []
      · have e1 := emT g1
        have HV := Lib.hid (show W = (0, 0) by rw [HW.out, if_neg (by simp [g0, g1])])
        go_wp2
        refine bodyPost_ret (v := .tuple #[.int .i64 0, .int .i64 0]) ?_ rfl ⟨by rw [HV.out]; try rfl, hbr⟩
        simp [results, Try.results21, go_sem]
      · have e1 := emF g1
        have HV := Lib.hid (show W = (133, j) by rw [HW.out, if_pos (.inr g1)])
        go_wp2
        refine bodyPost_ret (v := .tuple #[.int .i64 133, .int .i64 (j : Int)]) ?_ rfl ⟨by rw [HV.out]; try rfl, hbr⟩
        simp [results, Try.results21, go_sem]
end Go.Proofs.Ytbpmpnifelbaaaa

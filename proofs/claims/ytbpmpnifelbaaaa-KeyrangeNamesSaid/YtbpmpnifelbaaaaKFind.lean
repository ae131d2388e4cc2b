/- Contracts of Find, the program's and the document's. -/
import Derived.Test.YtbpmpnifelbaaaaKWhole
namespace Go.Proofs.Ytbpmpnifelbaaaa
open Go.RowKit Go.Gz Go.Lib
attribute [local go_sem] World.cell?_alloc_some frozen?_alloc_some

theorem in_any (lo hi k : ByteArray) (w : World) : Calls Try.prog 25 #[.string k, rg lo hi] w fun e w' => e = .returned (.bool (has lo hi k)) ∧ Below w.heap.size w w' := by
  go_enter Try.func25, Try.ntmps25
  go_wp2_with fail
  refine name_calls (fun w1 hw1 => ?_)
  have hb1 : Below w.heap.size w w1 := by rw [hw1]; exact (by (repeat first | refine Below.setCell ?_ (by first | omega | (dsimp only; omega) | (simp only [heap_drew, World.size_alloc, Gz.size_setCell]; omega)) _ | refine Below.alloc ?_ (by first | omega | (dsimp only; omega) | (simp only [heap_drew, World.size_alloc, Gz.size_setCell]; omega)) _ | refine Below.drew ?_); exact Below.refl _ _)
  clear hw1
  refine (has_any lo hi k w1).mono ?_
  rintro e w2 ⟨rfl, hb2⟩
  go_wp2
  go_ret
  exact ⟨rfl, hb1.trans (hb2.mono hb1.size)⟩

/-- The place of the first range that has the key, or -1. -/
def findI (k : ByteArray) (i : Nat) (l : List (ByteArray × ByteArray)) : Int := if (findGo k i l).2 = true then ((findGo k i l).1 : Int) else -1

set_option maxHeartbeats 1600000 in
theorem index_any (k : ByteArray) (O : Option Addr) (n c : Nat) (l : List (ByteArray × ByteArray)) (w : World) (h : SlA w 2 O n (rcells l)) (hn : n ≤ 140737488355328) :
    Calls Try.prog 26 #[.slice O n c, .func (.func 25) #[.string k] #[]] w fun e w' => e = .returned (.int .i64 (findI k 0 l)) ∧ Below w.heap.size w w' := by
  obtain ⟨W, hW⟩ : ∃ W, W = findGo k 0 l := ⟨_, rfl⟩
  obtain ⟨R, hR⟩ : ∃ R, R = findI k 0 l := ⟨_, rfl⟩
  rw [← hR]
  have HR := Lib.hid (show R = if W.2 = true then (W.1 : Int) else -1 by rw [hR, hW]; rfl)
  clear hR
  have H := Lib.hid h
  clear h
  have hl := H.out.rlen
  go_enter Try.func26, Try.ntmps26
  go_wp2_with fail
  go_loopw [8] (fun s8 wr => ∃ j : Nat, s8 = .int .i64 j ∧ j ≤ n ∧ W = findGo k j (l.drop j) ∧ Below w.heap.size w wr) (fun s8 _ => (n - RowKit.intOf s8).toNat)
  case atStart => exact ⟨0, rfl, by omega, by rw [hW]; rfl, Below.refl _ _⟩
  case round =>
    obtain ⟨j, rfl, hj, hE, hbr⟩ := hrel
    have HE := Lib.hid hE
    clear hE hW
    by_cases hlt : j < n
    · have b1 : (j : Int) < (n : Int) := by omega
      cases O with
      | none => have := H.out.2.1 rfl; omega
      | some ad =>
      obtain ⟨lo, hi, hr⟩ : ∃ lo hi, l[j]'(by omega) = (lo, hi) := ⟨_, _, rfl⟩
      have cc := (H.out.below hbr).rg (j := j) (by omega)
      rw [hr] at cc
      have HD := Lib.hid (show l.drop j = (lo, hi) :: l.drop (j + 1) by rw [← hr]; exact List.drop_eq_getElem_cons (by omega))
      have cc1 := cc.1
      have cc2 := cc.2
      clear hr cc
      dsimp only at cc1 cc2
      go_wp2_with fail
      refine (in_any lo hi k wr).mono ?_
      rintro x w3 ⟨rfl, hb3⟩
      have hbr3 := hbr.trans (hb3.mono hbr.size)
      cases hh : has lo hi k with
      | true =>
        have HV := Lib.hid (show W = (j, true) by rw [HE.out, HD.out]; conv => lhs; unfold findGo; rw [if_pos hh])
        go_wp2
        go_ret
        exact ⟨by rw [HR.out, HV.out]; rfl, hbr3⟩
      | false =>
        have HV := Lib.hid (show W = findGo k (j + 1) (l.drop (j + 1)) by rw [HE.out, HD.out]; conv => lhs; unfold findGo; rw [if_neg (by simp [hh])])
        go_wp2
        go_roundw
        case rel => exact ⟨j + 1, by go_num, by omega, HV.out, hbr3⟩
        case measure => simp [RowKit.intOf]; omega
    · obtain rfl : j = n := by omega
      have b1 : ¬ (j : Int) < (j : Int) := by omega
      have HV := Lib.hid (show W = (0, false) by rw [HE.out, List.drop_eq_nil_of_le (by omega)]; rfl)
      go_wp2
      go_ret
      exact ⟨by rw [HR.out, HV.out]; rfl, hbr⟩

/-- Find's answer. -/
def findV (k : ByteArray) (l : List (ByteArray × ByteArray)) : Value := .tuple #[.int .i64 (findGo k 0 l).1, .bool (findGo k 0 l).2]
theorem findGo_no {k : ByteArray} : ∀ (l : List (ByteArray × ByteArray)) (i : Nat), (findGo k i l).2 = false → findGo k i l = (0, false)
  | [], _, _ => rfl
  | r :: l, i, h => by
    unfold findGo at *
    by_cases hh : has r.1 r.2 k = true
    · simp [hh] at h
    · simp only [hh, Bool.false_eq_true, if_false] at *
      exact findGo_no l (i + 1) h

theorem find_any (k : ByteArray) (O : Option Addr) (n c : Nat) (l : List (ByteArray × ByteArray)) (w : World) (h : SlA w 2 O n (rcells l)) (hn : n ≤ 140737488355328) :
    Calls Try.prog 22 #[.slice O n c, .string k] w fun e w' => e = .returned (findV k l) ∧ Below w.heap.size w w' := by
  obtain ⟨V, hV⟩ : ∃ V, V = findV k l := ⟨_, rfl⟩
  rw [← hV]
  have HV := Lib.hid hV
  have H := Lib.hid h
  clear h hV
  go_enter Try.func22, Try.ntmps22
  go_wp2_with fail
  refine (index_any k O n c l w H.out hn).mono ?_
  rintro e w2 ⟨rfl, hb2⟩
  cases hh : (findGo k 0 l).2 with
  | true =>
    obtain ⟨m, hm⟩ : ∃ m, m = (findGo k 0 l).1 := ⟨_, rfl⟩
    have e1 : findI k 0 l = (m : Int) := by unfold findI; rw [if_pos hh, hm]
    have HX := Lib.hid (show V = .tuple #[.int .i64 (m : Int), .bool true] by rw [HV.out]; unfold findV; rw [hh, hm])
    rw [e1]
    clear e1 hh hm
    have i1 : ¬ (m : Int) < 0 := by omega
    have i2 : (0 : Int) ≤ (m : Int) := by omega
    go_wp2
    refine bodyPost_ret (v := .tuple #[.int .i64 (m : Int), .bool true]) ?_ rfl ⟨by rw [HX.out], hb2⟩
    simp [results, Try.results22, go_sem]
  | false =>
    have e1 : findI k 0 l = -1 := by unfold findI; rw [if_neg (by simp [hh])]
    have HX := Lib.hid (show V = .tuple #[.int .i64 0, .bool false] by rw [HV.out]; unfold findV; rw [findGo_no l 0 hh]; rfl)
    rw [e1]
    clear e1 hh
    go_wp2
    refine bodyPost_ret (v := .tuple #[.int .i64 0, .bool false]) ?_ rfl ⟨by rw [HX.out], hb2⟩
    simp [results, Try.results22, go_sem]
    decide

set_option maxHeartbeats 1600000 in
theorem findRef_any (k : ByteArray) (O : Option Addr) (n c : Nat) (l : List (ByteArray × ByteArray)) (w : World) (h : SlA w 2 O n (rcells l)) (hn : n ≤ 140737488355328) :
    Calls Try.prog 23 #[.slice O n c, .string k] w fun e w' => e = .returned (findV k l) ∧ Below w.heap.size w w' := by
  obtain ⟨W, hW⟩ : ∃ W, W = findGo k 0 l := ⟨_, rfl⟩
  unfold findV
  rw [← hW]
  have H := Lib.hid h
  clear h
  have hl := H.out.rlen
  go_enter Try.func23, Try.ntmps23
  go_wp2_with fail
  go_loopw [6] (fun s8 wr => ∃ j : Nat, s8 = .int .i64 j ∧ j ≤ n ∧ W = findGo k j (l.drop j) ∧ Below w.heap.size w wr) (fun s8 _ => (n - RowKit.intOf s8).toNat)
  case atStart => exact ⟨0, rfl, by omega, by rw [hW]; rfl, Below.refl _ _⟩
  case round =>
    obtain ⟨j, rfl, hj, hE, hbr⟩ := hrel
    have HE := Lib.hid hE
    clear hE hW
    by_cases hlt : j < n
    · have b1 : (j : Int) < (n : Int) := by omega
      cases O with
      | none => have := H.out.2.1 rfl; omega
      | some ad =>
      obtain ⟨lo, hi, hr⟩ : ∃ lo hi, l[j]'(by omega) = (lo, hi) := ⟨_, _, rfl⟩
      have cc := (H.out.below hbr).rg (j := j) (by omega)
      rw [hr] at cc
      have HD := Lib.hid (show l.drop j = (lo, hi) :: l.drop (j + 1) by rw [← hr]; exact List.drop_eq_getElem_cons (by omega))
      have cc1 := cc.1
      have cc2 := cc.2
      clear hr cc
      dsimp only at cc1 cc2
      go_wp2_with fail
      refine (hasRef_any lo hi k wr).mono ?_
      rintro x w3 ⟨rfl, hb3⟩
      have hbr3 := hbr.trans (hb3.mono hbr.size)
      cases hh : has lo hi k with
      | true =>
        have HV := Lib.hid (show W = (j, true) by rw [HE.out, HD.out]; conv => lhs; unfold findGo; rw [if_pos hh])
        go_wp2
        refine bodyPost_ret (v := .tuple #[.int .i64 (j : Int), .bool true]) ?_ rfl ⟨by rw [HV.out], hbr3⟩
        simp [results, Try.results23, go_sem]
      | false =>
        have HV := Lib.hid (show W = findGo k (j + 1) (l.drop (j + 1)) by rw [HE.out, HD.out]; conv => lhs; unfold findGo; rw [if_neg (by simp [hh])])
        go_wp2
        go_roundw
        case rel => exact ⟨j + 1, by go_num, by omega, HV.out, hbr3⟩
        case measure => simp [RowKit.intOf]; omega
    · obtain rfl : j = n := by omega
      have b1 : ¬ (j : Int) < (j : Int) := by omega
      have HV := Lib.hid (show W = (0, false) by rw [HE.out, List.drop_eq_nil_of_le (by omega)]; rfl)
      go_wp2
      refine bodyPost_ret (v := .tuple #[.int .i64 0, .bool false]) ?_ rfl ⟨by rw [HV.out]; try rfl, hbr⟩
      simp [results, Try.results23, go_sem]
end Go.Proofs.Ytbpmpnifelbaaaa

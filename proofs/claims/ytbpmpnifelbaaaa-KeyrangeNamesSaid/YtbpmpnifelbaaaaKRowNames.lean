/- KeyrangeNames: the law answers true. No condition. -/
import Derived.Test.YtbpmpnifelbaaaaKLives
import Derived.Test.YtbpmpnifelbaaaaKFind
import Derived.Test.YtbpmpnifelbaaaaKOpen
import Derived.Test.YtbpmpnifelbaaaaKLawWhole
namespace Go.Proofs.Ytbpmpnifelbaaaa
open Go.RowKit Go.Gz Go.Lib Go.ChangeShapes Go.WideShapes Go.ChangeAt
attribute [local go_sem] World.cell?_alloc_some frozen?_alloc_some

theorem sl_at (w : World) (g : Nat) (ys : Array Value) (hg : g = w.heap.size) (t : TypeId) (xs : List Value) (size n : Nat) (h : xs.length = n * size) (hy : ys = xs.toArray := by rfl) : SlA (w.alloc (.cells ys t)) size (some ⟨g, 0, none⟩) n xs := by
  subst hg hy; exact sl_new w t xs size n h

set_option maxHeartbeats 1600000 in
theorem lawNames_any (w : World) : Calls Try.prog 8 #[] w fun e w' => e = .returned (.bool true) ∧ Below w.heap.size w w' := by
  have F1 := Lib.hid (show has ⟨#[98]⟩ ⟨#[100]⟩ ⟨#[98]⟩ = true from by decide +kernel)
  have F2 := Lib.hid (show has ⟨#[98]⟩ ⟨#[100]⟩ ⟨#[99, 57]⟩ = true from by decide +kernel)
  have F3 := Lib.hid (show has ⟨#[98]⟩ ⟨#[100]⟩ ⟨#[100]⟩ = false from by decide +kernel)
  have F4 := Lib.hid (show has ⟨#[98]⟩ ⟨#[100]⟩ ⟨#[97]⟩ = false from by decide +kernel)
  have F5 := Lib.hid (show has es es es = true from by decide +kernel)
  have F6 := Lib.hid (show splitV ⟨#[98]⟩ ⟨#[100]⟩ ⟨#[98]⟩ = .tuple #[rg es es, rg es es, .int .i64 132] from splitV_no (by decide +kernel) (by decide))
  have F7 := Lib.hid (show mergeV ⟨#[97]⟩ ⟨#[99]⟩ ⟨#[99]⟩ es = .tuple #[rg ⟨#[97]⟩ es, .int .i64 0] from mergeV_ok (by decide +kernel))
  have F8 := Lib.hid (show mergeV ⟨#[97]⟩ es es ⟨#[98]⟩ = .tuple #[rg es es, .int .i64 133] from mergeV_no (by decide +kernel) (by decide))
  have F9 := Lib.hid (show meetV ⟨#[97]⟩ ⟨#[109]⟩ ⟨#[102]⟩ es = .tuple #[rg ⟨#[102]⟩ ⟨#[109]⟩, .bool true] from by unfold meetV; rw [show meet ⟨#[97]⟩ ⟨#[109]⟩ ⟨#[102]⟩ es = (⟨#[102]⟩, ⟨#[109]⟩, true) by decide +kernel])
  have F10 := Lib.hid (show meetV ⟨#[97]⟩ ⟨#[99]⟩ ⟨#[99]⟩ ⟨#[100]⟩ = .tuple #[rg es es, .bool false] from by unfold meetV; rw [show meet ⟨#[97]⟩ ⟨#[99]⟩ ⟨#[99]⟩ ⟨#[100]⟩ = (es, es, false) by decide +kernel])
  have F11 := Lib.hid (show wholeGo 2 es 0 [(es, ⟨#[103]⟩), (⟨#[104]⟩, es)] = (133, 1) from by decide +kernel)
  have F12 := Lib.hid (show wholeGo 1 es 0 [(es, ⟨#[103]⟩)] = (133, 1) from by decide +kernel)
  have F13 := Lib.hid (show chk ⟨#[97, 98, 99, 100, 101, 102, 103, 104, 105, 106, 107, 108, 109, 110, 111, 112, 113, 114, 115, 116, 117, 118, 119, 120, 121, 122, 97, 98, 99, 100, 101, 102, 103]⟩ es = 131 from by decide +kernel)
  go_enter Try.func8, Try.ntmps8
  have hb := Below.refl w.heap.size w
  have hz : w.heap.size ≤ w.heap.size := Nat.le_refl _
  go_wp2_with fail
  refine (lives_any w).mono ?_
  rintro e w1 ⟨rfl, hbn⟩
  have hb := hb.trans (hbn.mono hb.size)
  have hz := hb.size
  go_wp2_with fail
  refine name_calls (fun w2 hw2 => ?_)
  have k2 : Blk w2 w1.heap.size [.string ⟨#[98]⟩, .string ⟨#[100]⟩] := by rw [hw2]; exact Blk.new _ _ _ _ rfl
  have hb : Below w.heap.size w w2 := by rw [hw2]; exact (by (repeat first | refine Below.setCell ?_ (by first | omega | (dsimp only; omega) | (simp only [heap_drew, World.size_alloc, Gz.size_setCell]; omega)) _ | refine Below.alloc ?_ (by first | omega | (dsimp only; omega) | (simp only [heap_drew, World.size_alloc, Gz.size_setCell]; omega)) _ | refine Below.drew ?_); exact hb)
  have hz := hb.size
  clear hw2
  refine (has_any ⟨#[98]⟩ ⟨#[100]⟩ ⟨#[98]⟩ w2).mono ?_
  rintro e w3 ⟨rfl, hbn⟩
  rw [F1.out]
  have k2 := k2.ext hbn
  have hb := hb.trans (hbn.mono hb.size)
  have hz := hb.size
  have c2 := k2.cell
  go_wp2_with fail
  refine (has_any ⟨#[98]⟩ ⟨#[100]⟩ ⟨#[99, 57]⟩ w3).mono ?_
  rintro e w4 ⟨rfl, hbn⟩
  rw [F2.out]
  have k2 := k2.ext hbn
  clear c2
  have hb := hb.trans (hbn.mono hb.size)
  have hz := hb.size
  have c2 := k2.cell
  go_wp2_with fail
  refine (has_any ⟨#[98]⟩ ⟨#[100]⟩ ⟨#[100]⟩ w4).mono ?_
  rintro e w5 ⟨rfl, hbn⟩
  rw [F3.out]
  have k2 := k2.ext hbn
  clear c2
  have hb := hb.trans (hbn.mono hb.size)
  have hz := hb.size
  have c2 := k2.cell
  go_wp2_with fail
  refine (has_any ⟨#[98]⟩ ⟨#[100]⟩ ⟨#[97]⟩ w5).mono ?_
  rintro e w6 ⟨rfl, hbn⟩
  rw [F4.out]
  have k2 := k2.ext hbn
  clear c2
  have hb := hb.trans (hbn.mono hb.size)
  have hz := hb.size
  have c2 := k2.cell
  go_wp2_with fail
  refine (has_any es es es w6).mono ?_
  rintro e w7 ⟨rfl, hbn⟩
  rw [F5.out]
  have k2 := k2.ext hbn
  clear c2
  have hb := hb.trans (hbn.mono hb.size)
  have hz := hb.size
  have c2 := k2.cell
  go_wp2_with fail
  refine (split_any ⟨#[98]⟩ ⟨#[100]⟩ ⟨#[98]⟩ w7).mono ?_
  rintro e w8 ⟨rfl, hbn⟩
  rw [F6.out]
  clear c2 k2
  have hb := hb.trans (hbn.mono hb.size)
  have hz := hb.size
  go_wp2_with fail
  refine name_calls (fun w9 hw9 => ?_)
  have hb : Below w.heap.size w w9 := by rw [hw9]; exact (by (repeat first | refine Below.setCell ?_ (by first | omega | (dsimp only; omega) | (simp only [heap_drew, World.size_alloc, Gz.size_setCell]; omega)) _ | refine Below.alloc ?_ (by first | omega | (dsimp only; omega) | (simp only [heap_drew, World.size_alloc, Gz.size_setCell]; omega)) _ | refine Below.drew ?_); exact hb)
  have hz := hb.size
  clear hw9
  refine (merge_any ⟨#[97]⟩ ⟨#[99]⟩ ⟨#[99]⟩ es w9).mono ?_
  rintro e w10 ⟨rfl, hbn⟩
  rw [F7.out]
  have hb := hb.trans (hbn.mono hb.size)
  have hz := hb.size
  go_wp2_with fail
  refine name_calls (fun w11 hw11 => ?_)
  have hb : Below w.heap.size w w11 := by rw [hw11]; exact (by (repeat first | refine Below.setCell ?_ (by first | omega | (dsimp only; omega) | (simp only [heap_drew, World.size_alloc, Gz.size_setCell]; omega)) _ | refine Below.alloc ?_ (by first | omega | (dsimp only; omega) | (simp only [heap_drew, World.size_alloc, Gz.size_setCell]; omega)) _ | refine Below.drew ?_); exact hb)
  have hz := hb.size
  have k7 : Blk w11 w10.heap.size [.string ⟨#[97]⟩, .string es] := by rw [hw11]; exact (by (repeat first | exact k7 | exact Blk.new _ _ _ _ rfl | refine Blk.alloc ?_ _))
  clear hw11
  refine (merge_any ⟨#[97]⟩ es es ⟨#[98]⟩ w11).mono ?_
  rintro e w12 ⟨rfl, hbn⟩
  rw [F8.out]
  have k7 := k7.ext hbn
  have hb := hb.trans (hbn.mono hb.size)
  have hz := hb.size
  go_wp2_with fail
  refine name_calls (fun w13 hw13 => ?_)
  have hb : Below w.heap.size w w13 := by rw [hw13]; exact (by (repeat first | refine Below.setCell ?_ (by first | omega | (dsimp only; omega) | (simp only [heap_drew, World.size_alloc, Gz.size_setCell]; omega)) _ | refine Below.alloc ?_ (by first | omega | (dsimp only; omega) | (simp only [heap_drew, World.size_alloc, Gz.size_setCell]; omega)) _ | refine Below.drew ?_); exact hb)
  have hz := hb.size
  have k7 : Blk w13 w10.heap.size [.string ⟨#[97]⟩, .string es] := by rw [hw13]; exact (by (repeat first | exact k7 | exact Blk.new _ _ _ _ rfl | refine Blk.alloc ?_ _))
  clear hw13
  refine (meet_any ⟨#[97]⟩ ⟨#[109]⟩ ⟨#[102]⟩ es w13).mono ?_
  rintro e w14 ⟨rfl, hbn⟩
  rw [F9.out]
  have k7 := k7.ext hbn
  have hb := hb.trans (hbn.mono hb.size)
  have hz := hb.size
  go_wp2_with fail
  refine name_calls (fun w15 hw15 => ?_)
  have hb : Below w.heap.size w w15 := by rw [hw15]; exact (by (repeat first | refine Below.setCell ?_ (by first | omega | (dsimp only; omega) | (simp only [heap_drew, World.size_alloc, Gz.size_setCell]; omega)) _ | refine Below.alloc ?_ (by first | omega | (dsimp only; omega) | (simp only [heap_drew, World.size_alloc, Gz.size_setCell]; omega)) _ | refine Below.drew ?_); exact hb)
  have hz := hb.size
  have k7 : Blk w15 w10.heap.size [.string ⟨#[97]⟩, .string es] := by rw [hw15]; exact (by (repeat first | exact k7 | exact Blk.new _ _ _ _ rfl | refine Blk.alloc ?_ _))
  have k11 : Blk w15 w14.heap.size [.string ⟨#[102]⟩, .string ⟨#[109]⟩] := by rw [hw15]; exact (by (repeat first | exact k11 | exact Blk.new _ _ _ _ rfl | refine Blk.alloc ?_ _))
  clear hw15
  refine (meet_any ⟨#[97]⟩ ⟨#[99]⟩ ⟨#[99]⟩ ⟨#[100]⟩ w15).mono ?_
  rintro e w16 ⟨rfl, hbn⟩
  rw [F10.out]
  have k7 := k7.ext hbn
  have k11 := k11.ext hbn
  have hb := hb.trans (hbn.mono hb.size)
  have hz := hb.size
  go_wp2_with fail
  refine name_calls (fun w17 hw17 => ?_)
  have hb : Below w.heap.size w w17 := by rw [hw17]; exact (by (repeat first | refine Below.setCell ?_ (by first | omega | (dsimp only; omega) | (simp only [heap_drew, World.size_alloc, Gz.size_setCell]; omega)) _ | refine Below.alloc ?_ (by first | omega | (dsimp only; omega) | (simp only [heap_drew, World.size_alloc, Gz.size_setCell]; omega)) _ | refine Below.drew ?_); exact hb)
  have hz := hb.size
  have k7 : Blk w17 w10.heap.size [.string ⟨#[97]⟩, .string es] := by rw [hw17]; exact (by (repeat first | exact k7 | refine Blk.alloc ?_ _))
  have k11 : Blk w17 w14.heap.size [.string ⟨#[102]⟩, .string ⟨#[109]⟩] := by rw [hw17]; exact (by (repeat first | exact k11 | refine Blk.alloc ?_ _))
  have hs : SlA w17 2 (some ⟨w16.heap.size + 1, 0, none⟩) 2 (rcells [(es, ⟨#[103]⟩), (⟨#[104]⟩, es)]) := by rw [hw17]; exact sl_at _ _ _ (by simp) _ (rcells [(es, ⟨#[103]⟩), (⟨#[104]⟩, es)]) 2 2 rfl
  clear hw17
  refine (whole_any _ 2 2 _ w17 hs (by omega)).mono ?_
  rintro e w18 ⟨rfl, hbn⟩
  rw [F11.out]
  clear hs
  have k7 := k7.ext hbn
  have k11 := k11.ext hbn
  have hb := hb.trans (hbn.mono hb.size)
  have hz := hb.size
  go_wp2_with fail
  refine name_calls (fun w19 hw19 => ?_)
  have hb : Below w.heap.size w w19 := by rw [hw19]; exact (by (repeat first | refine Below.setCell ?_ (by first | omega | (dsimp only; omega) | (simp only [heap_drew, World.size_alloc, Gz.size_setCell]; omega)) _ | refine Below.alloc ?_ (by first | omega | (dsimp only; omega) | (simp only [heap_drew, World.size_alloc, Gz.size_setCell]; omega)) _ | refine Below.drew ?_); exact hb)
  have hz := hb.size
  have k7 : Blk w19 w10.heap.size [.string ⟨#[97]⟩, .string es] := by rw [hw19]; exact (by (repeat first | exact k7 | refine Blk.alloc ?_ _))
  have k11 : Blk w19 w14.heap.size [.string ⟨#[102]⟩, .string ⟨#[109]⟩] := by rw [hw19]; exact (by (repeat first | exact k11 | refine Blk.alloc ?_ _))
  have hs : SlA w19 2 (some ⟨w18.heap.size, 0, none⟩) 1 (rcells [(es, ⟨#[103]⟩)]) := by rw [hw19]; exact sl_at _ _ _ (by simp) _ (rcells [(es, ⟨#[103]⟩)]) 2 1 rfl
  clear hw19
  refine (whole_any _ 1 1 _ w19 hs (by omega)).mono ?_
  rintro e w20 ⟨rfl, hbn⟩
  rw [F12.out]
  clear hs
  have k7 := k7.ext hbn
  have k11 := k11.ext hbn
  have hb := hb.trans (hbn.mono hb.size)
  have hz := hb.size
  go_wp2_with fail
  refine (check_any ⟨#[97, 98, 99, 100, 101, 102, 103, 104, 105, 106, 107, 108, 109, 110, 111, 112, 113, 114, 115, 116, 117, 118, 119, 120, 121, 122, 97, 98, 99, 100, 101, 102, 103]⟩ es w20).mono ?_
  rintro e w21 ⟨rfl, hbn⟩
  rw [F13.out]
  have k7 := k7.ext hbn
  have k11 := k11.ext hbn
  have hb := hb.trans (hbn.mono hb.size)
  have hz := hb.size
  have c7 := k7.cell
  have c11 := k11.cell
  go_wp2
  go_ret
  exact ⟨rfl, hb⟩

set_option maxRecDepth 100000 in
theorem names_lifted (os : Os) (started : os.Started) (H : Type) (enc : TypeId × Value → H) :
    ReturnsInHanded {} Try.checked os 8 .any (Rows.keyrangeNamesSpec.pre6 enc Try.prog Try.f8 Rows.keyrangeNamesRow.domain false) (Rows.keyrangeNamesSpec.post enc Try.prog Try.f8 false true false false) := by
  refine returnsInHanded_of_change_sized (C := Try.checked) ownKn started (by kernel_rfl) Try.func8
    (ChangeSpec.witness6 (enc := enc) (C := Try.checked) false ⟨#[], #[], []⟩ 8 (by kernel_rfl) (by kernel_rfl) (by kernel_rfl) (by kernel_rfl)) ?_
  intro W base args ds gs before hval0 hW hcnd hsz0 _
  have hW' := hW
  obtain ⟨p, q, hA0, hV, rfl, hfz, hnd⟩ := hW
  have hA : DataW.TrodAll enc Try.prog W 0 (fun _ => true) true Try.f8.params.toList args.toList ds p := hA0
  rw [Try.params8] at hA
  obtain ⟨hargs, rfl, rfl⟩ := trodAll_nil hA
  obtain rfl : args = #[] := by cases args; simp_all
  obtain ⟨rfl, rfl⟩ := trodVars_none hV
  refine (lawNames_any W).mono fun e W' ⟨he, bel⟩ => ?_
  subst he
  exact ⟨_, rfl, _, _, _, [], _, [], hW', trodAll_mk1 (shut_bool Try.underlying4 _), trodAll_mk0, rfl, bel.frame _, fun h => by cases h⟩

/-- THE STATEMENT. -/
theorem knames_holds : Rows.KeyrangeNamesSaid :=
  OpenClaim.holds_of_wide 8 Try.f8 rfl rfl rfl rfl rfl rfl rfl ⟨rfl, rfl, rfl, rfl, rfl⟩ rfl rfl rfl rfl rfl (by kernel_rfl) Try.func8 (by kernel_rfl)
    (of_decide_eq_true (by kernel_rfl)) (by unfold Func.isWrapper; first | (rw [if_pos (by decide +kernel)]; kernel_rfl) | (rw [if_neg (by decide +kernel)]; exact ⟨rfl, rfl⟩))
    (fun os started H enc _ => names_lifted os started H enc)
end Go.Proofs.Ytbpmpnifelbaaaa

/- The document's net: node, link, copied. -/
import Derived.Test.YtjihiohmemmabaaNRef
namespace Go.Proofs.Ytjihiohmemmabaa
open Go.RowKit Go.Gz
attribute [local go_sem] World.cell?_alloc_some frozen?_alloc_some

theorem node_any (w : World) (G : Nat → Prop) (r n : Nat) (f : Int → Int → List Pkt) (S : Int → Bool) (i : Int) (h : RefIs w G r n f S) :
    Calls Try.prog 43 #[.pointer (some ⟨r, 0, none⟩), .int .i64 i] w fun e w' => e = .returned (.bool (decide (1 ≤ i) && decide (i ≤ n))) ∧ Below w.heap.size w w' := by
  obtain ⟨B, sd, sl, h1, _⟩ := h
  have cr := h1.blk.cell
  go_enter Try.func43, Try.ntmps43
  by_cases h1 : 1 ≤ i
  · go_wp2
    go_ret
    refine ⟨congrArg (fun b => Ending.returned (.bool b)) (?_ : decide (i ≤ n) = _), Below.refl _ _⟩
    rw [decide_eq_true h1, Bool.true_and]
  · go_wp2
    go_ret
    refine ⟨congrArg (fun b => Ending.returned (.bool b)) (?_ : false = _), Below.refl _ _⟩
    rw [decide_eq_false (by omega), Bool.false_and]

theorem slot_div {n i j : Nat} (hj : j < n) : (i * n + j) / n = i ∧ (i * n + j) % n = j := by
  rw [Nat.add_comm]
  exact ⟨by rw [Nat.add_mul_div_right _ _ (by omega), Nat.div_eq_of_lt hj, Nat.zero_add], by rw [Nat.add_mul_mod_self_right, Nat.mod_eq_of_lt hj]⟩
theorem slot_lt {n i j : Nat} (hi : i < n) (hj : j < n) : i * n + j < n * n := by
  have h1 : (i + 1) * n ≤ n * n := Nat.mul_le_mul_right _ hi
  rw [Nat.succ_mul] at h1
  omega
/-- What link answers. -/
def LinkIs (n : Nat) (a b : Int) (e : Ending) : Prop := (okWay n a b ∧ ∃ p : Nat, e = .returned (.tuple #[.int .i64 p, .bool true]) ∧ p < n * n ∧ a = (p / n : Nat) + 1 ∧ b = (p % n : Nat) + 1) ∨ (¬ okWay n a b ∧ e = .returned (.tuple #[.int .i64 0, .bool false]))
set_option maxHeartbeats 1600000 in
theorem link_any (w : World) (G : Nat → Prop) (r n : Nat) (f : Int → Int → List Pkt) (S : Int → Bool) (a b : Int) (h : RefIs w G r n f S) (hn : n ≤ 7) :
    Calls Try.prog 40 #[.pointer (some ⟨r, 0, none⟩), .int .i64 a, .int .i64 b] w fun e w' => Below w.heap.size w w' ∧ LinkIs n a b e := by
  have H := Lib.hid h
  clear h
  go_enter Try.func40, Try.ntmps40
  go_wp2_with fail
  refine (node_any w G r n f S a H.out).mono ?_
  rintro e w1 ⟨rfl, hb1⟩
  go_wp2_with fail
  refine (node_any w1 G r n f S b (H.out.below hb1)).mono ?_
  rintro e w2 ⟨rfl, hb2⟩
  have hb2 := hb1.trans (hb2.mono hb1.size)
  obtain ⟨B, sd, sl, hr, _⟩ := (Lib.hid (H.out.below hb2)).out
  have cr := hr.blk.cell
  by_cases ha : 1 ≤ a ∧ a ≤ n
  rotate_left 1
  · have e1 : (decide (1 ≤ a) && decide (a ≤ (n : Int))) = false := by simp; omega
    rw [e1]
    have HNO := Lib.hid (show ¬ okWay n a b from fun q => ha q.1)
    clear ha e1
    go_wp2
    refine bodyPost_ret (v := .tuple #[.int .i64 0, .bool false]) ?_ rfl ⟨hb2, .inr ⟨HNO.out, rfl⟩⟩
    simp [results, Try.results40, go_sem]
  have e1 : (decide (1 ≤ a) && decide (a ≤ (n : Int))) = true := by simp; omega
  rw [e1]
  clear e1
  by_cases hb : 1 ≤ b ∧ b ≤ n
  rotate_left 1
  · have e1 : (decide (1 ≤ b) && decide (b ≤ (n : Int))) = false := by simp; omega
    rw [e1]
    have HNO := Lib.hid (show ¬ okWay n a b from fun q => hb q.2.1)
    clear hb e1
    go_wp2
    refine bodyPost_ret (v := .tuple #[.int .i64 0, .bool false]) ?_ rfl ⟨hb2, .inr ⟨HNO.out, rfl⟩⟩
    simp [results, Try.results40, go_sem]
  have e1 : (decide (1 ≤ b) && decide (b ≤ (n : Int))) = true := by simp; omega
  rw [e1]
  clear e1
  by_cases hab : a = b
  · have HNO := Lib.hid (show ¬ okWay n a b from fun q => q.2.2 hab)
    have e2 : (a == b) = true := beq_iff_eq.2 hab
    clear hab
    go_wp2
    refine bodyPost_ret (v := .tuple #[.int .i64 0, .bool false]) ?_ rfl ⟨hb2, .inr ⟨HNO.out, rfl⟩⟩
    simp [results, Try.results40, go_sem]
  have HOK := Lib.hid (show okWay n a b from ⟨ha, hb, hab⟩)
  have e2 : (a == b) = false := beq_eq_false_iff_ne.2 hab
  obtain ⟨i, hi⟩ : ∃ i : Nat, a - 1 = i := ⟨(a - 1).toNat, by omega⟩
  obtain ⟨j, hj⟩ : ∃ j : Nat, b - 1 = j := ⟨(b - 1).toNat, by omega⟩
  have hin : i < n := by omega
  have hjn : j < n := by omega
  have hp : (a - 1) * (n : Int) = ((i * n : Nat) : Int) := by rw [hi]; simp
  have hpl : i * n ≤ 49 := Nat.le_trans (Nat.mul_le_mul (by omega : i ≤ 7) hn) (by decide)
  obtain ⟨P, hP⟩ : ∃ P : Nat, P = i * n := ⟨_, rfl⟩
  rw [← hP] at hp hpl
  have HP := Lib.hid hP
  have HI := Lib.hid hi
  have HJ := Lib.hid hj
  clear hab hP hi hj
  go_wp2
  refine bodyPost_ret (v := .tuple #[.int .i64 ((P : Int) + b - 1), .bool true]) ?_ rfl ⟨hb2, .inl ⟨HOK.out, i * n + j, ?_, slot_lt hin hjn, ?_, ?_⟩⟩
  · simp [results, Try.results40, go_sem]
  · have hj := HJ.out
    rw [← HP.out, show ((P : Int) + b - 1) = ((P + j : Nat) : Int) by omega]
  · rw [(slot_div hjn).1]; have := HI.out; omega
  · rw [(slot_div hjn).2]; have := HJ.out; omega

theorem infoByte : (Try.prog.info? 5).map (fun i => (i.zero, i.size, i.bytes)) = some (some (.int .u8 0), 1, 1) := by kernel_rfl
set_option maxHeartbeats 1600000 in
theorem rcopied_any (cs : List Value) (x : Pkt) (w : World) (h : IsP w cs x) (hf : x.2.2.2.length ≤ 140737488355328) :
    Calls Try.prog 41 #[.agg cs.toArray] w fun e w' => Below w.heap.size w w' ∧ ∃ cs' : List Value, e = .returned (.agg cs'.toArray) ∧ RdP w' (fun b => w.heap.size ≤ b ∧ b < w'.heap.size) cs' x := by
  obtain ⟨i0, hi0, hz0, hz1', hz2'⟩ := info_parts infoByte
  obtain ⟨i, t, k, ds⟩ := x
  obtain ⟨D, dc, rfl, hs⟩ := h
  dsimp only at hs hf
  have H := Lib.hid hs
  clear hs
  dsimp only
  go_enter Try.func41, Try.ntmps41
  go_wp2_with (with_reducible refine stop_at (d := 6) ?_)
  refine hide (name_list (fun w1 hw1 => ?_))
  have k1 : Blk w1 w.heap.size [.int .i64 i, .int .i64 t, .int .i64 k, .slice D ds.length dc] := by rw [hw1]; exact ((Blk.new _ _ _ _ rfl).alloc _).alloc _
  have k2 : Blk w1 (w.heap.size + 1) [.int .i64 0, .int .i64 0, .int .i64 0, .slice none 0 0] := by rw [hw1]; exact (Blk.new _ _ _ _ (by simp)).alloc _
  have hb1 : Below w.heap.size w w1 := by rw [hw1]; exact (by (repeat first | refine Below.setCell ?_ (by first | omega | (dsimp only; omega) | (simp only [heap_drew, World.size_alloc, Gz.size_setCell]; omega)) _ | refine Below.alloc ?_ (by first | omega | (dsimp only; omega) | (simp only [heap_drew, World.size_alloc, Gz.size_setCell]; omega)) _ | refine Below.drew ?_); exact Below.refl _ _)
  have hz1 : w1.heap.size = w.heap.size + 3 := by rw [hw1]; simp
  clear hw1
  refine hide (wpList_append_own_sl rfl (.tmp 3) (.tmp 5) 22 rfl (w.heap.size + 2) 5 i0 _ 1 1 Try.underlying22 hi0 hz0 hz1' hz2' rfl (by omega) (some ⟨w.heap.size + 1 + 1, 0, none⟩) 0 0 [] rfl (.inl ⟨rfl, rfl, rfl⟩) D ds.length dc (nums .u8 ds) rfl (H.out.below hb1) (fun u hu => by
    obtain ⟨q, _, rfl⟩ := List.mem_map.1 hu
    rfl) (by omega) (by omega) (by omega) ?_)
  intro A2 c2 w2 ho2 hb2 hg2
  rw [Nat.zero_add, List.nil_append] at ho2
  rw [Nat.zero_add]
  have k1 := k1.grown hg2 (fun e => by simp [Value.ownBlock] at e; omega)
  have k2 := k2.grown hg2 (fun e => by simp [Value.ownBlock] at e)
  have hz2 := hb2.size
  have hb2' := hb1.trans (hb2.mono (by omega))
  clear hg2
  go_wp2_with (with_reducible refine stop_store ?_)
  refine hide (wpList_store_part rfl 22 (.tmp 7) (.tmp 6) rfl w.heap.size 3 _ [.slice A2 ds.length c2] rfl rfl rfl _ k1 (by simp) (by kernel_rfl) rfl _ rfl ?_)
  intro w3 k1 hg3 hz3
  simp only [List.take_succ_cons, List.take_zero, List.drop_succ_cons, List.drop_zero, List.cons_append, List.nil_append, List.length_cons, List.length_nil] at k1
  have k2 := blk_grown k2 hg3 (by omega)
  have hb3 := below_grown hb2' hg3 (Nat.le_refl _) (by omega)
  have ho3 := ho2.grown hg3 (fun r e => by injection e with e; omega)
  have c1 := k1.cell
  go_wp2_with (with_reducible refine stop_store ?_)
  refine hide (wpList_store_blk rfl 29 (.tmp 2) (.tmp 8) rfl (w.heap.size + 1) [.int .i64 i, .int .i64 t, .int .i64 k, .slice A2 ds.length c2] rfl rfl _ k2 rfl (by kernel_rfl) rfl ?_)
  intro w4 k2 hg4 hz4
  have ho4 := ho3.grown hg4 (fun r e => by injection e with e; omega)
  go_wp2
  refine bodyPost_ret (v := .agg #[.int .i64 i, .int .i64 t, .int .i64 k, .slice A2 ds.length c2]) ?_ rfl ⟨below_grown hb3 hg4 (by omega) (by omega), [.int .i64 i, .int .i64 t, .int .i64 k, .slice A2 ds.length c2], rfl, A2, c2, rfl, ?_⟩
  · simp [results, Try.results41, go_sem, k2.cell]
  · rcases ho4 with ⟨h1, h2, h3⟩ | h4
    · exact .inl ⟨h1, h2, nums_eq_nil h3⟩
    · refine .inr ⟨⟨h4.1, ?_⟩, fun ad e => ?_⟩
      · rcases h4.2 with hn | ⟨g, cap, cur, hv, hbg, rest⟩
        · exact .inl hn
        · exact .inr ⟨g, cap, cur, hv, Nat.zero_le _, rest⟩
      · have := h4.lt ad.block (by rw [e]; rfl)
        exact ⟨by omega, this.2⟩
end Go.Proofs.Ytjihiohmemmabaa

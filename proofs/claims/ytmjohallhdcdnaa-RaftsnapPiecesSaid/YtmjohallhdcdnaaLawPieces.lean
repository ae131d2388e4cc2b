/- RaftsnapPieces: the law's walk. -/
import Derived.Test.YtmjohallhdcdnaaHead
namespace Go.Proofs.Ytmjohallhdcdnaa
open Go.RowKit Go.Gz
attribute [local go_sem] World.cell?_alloc_some frozen?_alloc_some

/-- What a round that spoils the piece keeps: all that was there before the piece was made; the piece's own variable; its lists are its own still. -/
def Spoil (w4 : World) (g9 : Nat) (cs : List Value) (D A : Option Addr) (q f n c : Nat) (wr : World) : Prop :=
  Below w4.heap.size w4 wr ∧ Blk wr g9 cs ∧ (∃ zs, Own wr w4.heap.size 5 1 D q f (nums .u8 zs)) ∧ (∃ ls, Own wr w4.heap.size 3 1 A n c (nums .i64 ls))

set_option maxHeartbeats 4000000 in
theorem lawPieces_ok (i t nn : Int) (A B D : Option Addr) (n c m d p f k : Nat) (l k' z : List Int) (w : World) (h : IsSnap w A B D n m p l k' z) (hn : n * 8 ≤ 140737488355328) (hm : m * 8 ≤ 140737488355328)
    (hpf : p ≤ f) (hf : p ≤ 140737488355328) (hk : k ≤ p) (hN : -9223372036854775808 ≤ nn) (hN2 : nn ≤ 9223372036854775807) :
    Calls Try.prog 3 #[.agg #[.int .u64 i, .int .u64 t, .slice A n c, .slice B m d, .slice D p f], .int .u64 k, .int .i64 nn] w fun e w' => e = .returned (.bool true) ∧ Below w.heap.size w w' := by
  obtain ⟨q, hq, hq2, hq3⟩ : ∃ q, q ≤ 64 ∧ q ≤ p - k ∧ (q = 64 ∨ q = p - k) := by
    by_cases e : 64 ≤ p - k
    · exact ⟨64, by omega, e, .inl rfl⟩
    · exact ⟨p - k, by omega, by omega, .inr rfl⟩
  have HQ := hide hq3
  have H := Lib.hid h
  clear h hq3
  go_enter Try.func3, Try.ntmps3
  go_wp2_with fail
  refine name_calls (fun w1 hw1 => ?_)
  have k3 : Blk w1 w.heap.size [.int .u64 i, .int .u64 t, .slice A n c, .slice B m d, .slice D p f] := by rw [hw1]; exact Blk.new w _ _ _ rfl
  have hb1 : Below w.heap.size w w1 := by rw [hw1]; exact (by (repeat first | refine Below.setCell ?_ (by first | omega | (dsimp only; omega) | (simp only [heap_drew, World.size_alloc, Gz.size_setCell]; omega)) _ | refine Below.alloc ?_ (by first | omega | (dsimp only; omega) | (simp only [heap_drew, World.size_alloc, Gz.size_setCell]; omega)) _ | refine Below.drew ?_); exact Below.refl _ _)
  have hz1 := hb1.size
  clear hw1
  refine (head_any w1).mono ?_
  rintro e w2 ⟨rfl, hb2⟩
  have k3 := k3.ext hb2
  have c3 := k3.cell
  have hb2 := hb1.trans (hb2.mono hb1.size)
  go_wp2_with fail
  refine (cloneSnap_any i t A B D n c m d p f l k' z w2 (H.out.below hb2) hn hm (by omega)).mono ?_
  rintro e w3 ⟨hb3, A3, c3', B3, d3, D3, f3, rfl, ho3⟩
  have k3 := k3.ext hb3
  have hz3 := hb3.size
  have hz2 := hb2.size
  have hb3 := hb2.trans (hb3.mono hb2.size)
  clear c3
  go_wp2_with fail
  refine name_calls (fun w4 hw4 => ?_)
  have k3 : Blk w4 w.heap.size [.int .u64 i, .int .u64 t, .slice A n c, .slice B m d, .slice D p f] := by rw [hw4]; exact k3.alloc _
  have k8 : Blk w4 w3.heap.size [.int .u64 i, .int .u64 t, .slice A3 n c3', .slice B3 m d3, .slice D3 p f3] := by rw [hw4]; exact Blk.new w3 _ _ _ rfl
  have hb4 : Below w3.heap.size w3 w4 := by rw [hw4]; exact (by (repeat first | refine Below.setCell ?_ (by first | omega | (dsimp only; omega) | (simp only [heap_drew, World.size_alloc, Gz.size_setCell]; omega)) _ | refine Below.alloc ?_ (by first | omega | (dsimp only; omega) | (simp only [heap_drew, World.size_alloc, Gz.size_setCell]; omega)) _ | refine Below.drew ?_); exact Below.refl _ _)
  have ho4 := ho3.below hb4
  have hb4 := hb3.trans (hb4.mono hb3.size)
  have hz4 : w4.heap.size = w3.heap.size + 1 := by rw [hw4]; simp
  have hle := ho4.2.le
  have K3 := hide k3
  have K8 := hide k8
  clear hw4 ho3
  refine (piece_any i t A3 B3 D3 n c3' m d3 p f3 k q l k' z w4 ho4.is hn hm hle hf hk hq hq2 HQ.out).mono ?_
  rintro e w5 ⟨hb5, A5, c5, B5, d5, D5, f5, rfl, ho5⟩
  have k3 := k3.ext hb5
  have k8 := k8.ext hb5
  have hz5 := hb5.size
  have c3 := k3.cell
  have HD := hide (fun (g : Nat) (hg : D5 = some ⟨g, 0, none⟩) (hq : 0 < q) => ho5.2.addr_lt hg hq)
  have HA := hide (fun (g : Nat) (hg : A5 = some ⟨g, 0, none⟩) (hq : 0 < n) => ho5.1.1.addr_lt hg hq)
  have hb45 := hb5
  have hb5 := hb4.trans (hb5.mono hb4.size)
  unfold msgCells
  go_wp2_with fail
  refine name_calls (fun w6 hw6 => ?_)
  have k3 : Blk w6 w.heap.size [.int .u64 i, .int .u64 t, .slice A n c, .slice B m d, .slice D p f] := by rw [hw6]; exact k3.alloc _
  have k8 : Blk w6 w3.heap.size [.int .u64 i, .int .u64 t, .slice A3 n c3', .slice B3 m d3, .slice D3 p f3] := by rw [hw6]; exact k8.alloc _
  have k9 : Blk w6 w5.heap.size (msgG 7 i t k A5 B5 D5 n c5 m d5 q f5 (decide (q = p - k))) := by rw [hw6]; exact Blk.new w5 _ _ _ rfl
  have hb6 : Below w5.heap.size w5 w6 := by rw [hw6]; exact (by (repeat first | refine Below.setCell ?_ (by first | omega | (dsimp only; omega) | (simp only [heap_drew, World.size_alloc, Gz.size_setCell]; omega)) _ | refine Below.alloc ?_ (by first | omega | (dsimp only; omega) | (simp only [heap_drew, World.size_alloc, Gz.size_setCell]; omega)) _ | refine Below.drew ?_); exact Below.refl _ _)
  have ho6 := ho5.below hb6
  have hz6 : w6.heap.size = w5.heap.size + 1 := by rw [hw6]; simp
  have hb46 := hb45.trans (hb6.mono hb45.size)
  have hb6 := hb5.trans (hb6.mono hb5.size)
  clear hw6 ho5 c3
  refine (piece_ref_any i t A B D n c m d p f k q l k' z w6 (H.out.below hb6) hn hm hpf hf hk hq hq2 HQ.out).mono ?_
  rintro e w7 ⟨hb7, A7, c7, B7, d7, D7, f7, rfl, ho7⟩
  have k3 := k3.ext hb7
  have k8 := k8.ext hb7
  have k9 := k9.ext hb7
  have ho6 := ho6.below hb7
  have hz7 := hb7.size
  have hb47 := hb46.trans (hb7.mono hb46.size)
  have hb7 := hb6.trans (hb7.mono hb6.size)
  have c9 := k9.cell
  unfold msgCells
  unfold msgG at c9
  go_wp2_with fail
  refine name_calls (fun w8 hw8 => ?_)
  have k3 : Blk w8 w.heap.size [.int .u64 i, .int .u64 t, .slice A n c, .slice B m d, .slice D p f] := by rw [hw8]; exact k3.alloc _
  have k8 : Blk w8 w3.heap.size [.int .u64 i, .int .u64 t, .slice A3 n c3', .slice B3 m d3, .slice D3 p f3] := by rw [hw8]; exact k8.alloc _
  have k9 : Blk w8 w5.heap.size (msgG 7 i t k A5 B5 D5 n c5 m d5 q f5 (decide (q = p - k))) := by rw [hw8]; exact k9.alloc _
  have hb8 : Below w7.heap.size w7 w8 := by rw [hw8]; exact (by (repeat first | refine Below.setCell ?_ (by first | omega | (dsimp only; omega) | (simp only [heap_drew, World.size_alloc, Gz.size_setCell]; omega)) _ | refine Below.alloc ?_ (by first | omega | (dsimp only; omega) | (simp only [heap_drew, World.size_alloc, Gz.size_setCell]; omega)) _ | refine Below.drew ?_); exact Below.refl _ _)
  have ho6 := ho6.below hb8
  have ho8 := ho7.below hb8
  have hz8 : w8.heap.size = w7.heap.size + 1 := by rw [hw8]; simp
  have hb48 := hb47.trans (hb8.mono hb47.size)
  have hb8 := hb7.trans (hb8.mono hb7.size)
  clear hw8 ho7 c9 hb47 hb46 hb7 hb6 hb5 hb45 hb3 hb2 hb1
  refine (sameMsg_any 7 i t k A5 B5 D5 A7 B7 D7 n c5 m d5 q f5 c7 d7 f7 _ l k' _ w8 ho6.is ho8.is (by omega) (by omega)).mono ?_
  rintro e w9 ⟨rfl, hb9⟩
  have k3 := k3.ext hb9
  have k8 := k8.ext hb9
  have k9 := k9.ext hb9
  have ho6 := ho6.below hb9
  have hz9 := hb9.size
  have hb49 := hb48.trans (hb9.mono hb48.size)
  have hb9 := hb8.trans (hb9.mono hb8.size)
  clear hb48 hb8 ho8
  go_wp2_with fail
  have hS9 : Spoil w4 w5.heap.size (msgG 7 i t k A5 B5 D5 n c5 m d5 q f5 (decide (q = p - k))) D5 A5 q f5 n c5 w9 := ⟨hb49, k9, ⟨_, ho6.2⟩, ⟨_, ho6.1.1⟩⟩
  clear k3 k8 k9 ho6 hb49
  go_loopw [14] (fun iv wr => ∃ j : Nat, j ≤ q ∧ iv = .int .i64 j ∧ Spoil w4 w5.heap.size (msgG 7 i t k A5 B5 D5 n c5 m d5 q f5 (decide (q = p - k))) D5 A5 q f5 n c5 wr) (fun iv _ => q - (intOf iv).toNat)
  case atStart => exact ⟨0, Nat.zero_le _, rfl, hS9⟩
  case round =>
    clear hS9
    obtain ⟨j, hj, rfl, hbr, k9, ⟨zs, hoD⟩, ⟨ls, hoA⟩⟩ := hrel
    have c9 := k9.cell
    unfold msgG at c9
    by_cases hlt : j < q
    · obtain ⟨g, rfl, hg, cur, hcur⟩ := hoD.addr (by omega)
      have hput := fun v => hoD.put hlt v
      have e1 := (hput 0).1
      have e2 := (hput 0).2.1
      have hput := fun v => (hput v).2.2
      have hg9 : g < w5.heap.size := HD.out g rfl (by omega)
      go_wp2
      go_roundw
      case rel => exact ⟨j + 1, by omega, by go_num, hbr.setCell (by exact hg) _, k9.far (by show w5.heap.size ≠ g; omega) _, ⟨_, hput _⟩, ⟨_, hoA.setOther (p := ⟨g, j, none⟩) hcur (by decide) _⟩⟩
      case measure => simp [intOf]; omega
    · have hS9 : Spoil w4 w5.heap.size (msgG 7 i t k A5 B5 D5 n c5 m d5 q f5 (decide (q = p - k))) D5 A5 q f5 n c5 wr := ⟨hbr, k9, ⟨_, hoD⟩, ⟨_, hoA⟩⟩
      clear k9 hoD hoA hbr
      go_wp2_with fail
      obtain ⟨wo, rfl⟩ : ∃ wo : World, wo = wr := ⟨_, rfl⟩
      clear c9
      go_loopw [15] (fun iv wr => ∃ j : Nat, j ≤ n ∧ iv = .int .i64 j ∧ Spoil w4 w5.heap.size (msgG 7 i t k A5 B5 D5 n c5 m d5 q f5 (decide (q = p - k))) D5 A5 q f5 n c5 wr) (fun iv _ => n - (intOf iv).toNat)
      case atStart => exact ⟨0, Nat.zero_le _, rfl, hS9⟩
      case round =>
        clear hS9
        obtain ⟨j2, hj2, rfl, hbr, k9, ⟨zs, hoD⟩, ⟨ls, hoA⟩⟩ := hrel
        have c9 := k9.cell
        unfold msgG at c9
        by_cases hlt2 : j2 < n
        · obtain ⟨g, rfl, hg, cur, hcur⟩ := hoA.addr (by omega)
          have hput := fun v => hoA.put hlt2 v
          have e1 := (hput 0).1
          have e2 := (hput 0).2.1
          have hput := fun v => (hput v).2.2
          have hg9 : g < w5.heap.size := HA.out g rfl (by omega)
          go_wp2
          go_roundw
          case rel => exact ⟨j2 + 1, by omega, by go_num, hbr.setCell (by exact hg) _, k9.far (by show w5.heap.size ≠ g; omega) _, ⟨_, hoD.setOther (p := ⟨g, j2, none⟩) hcur (by decide) _⟩, ⟨_, hput _⟩⟩
          case measure => simp [intOf]; omega
        · have k3 := K3.out.ext hbr
          have k8 := K8.out.ext hbr
          have c3 := k3.cell
          have c8 := k8.cell
          have hx := ho4.is.below hbr
          have hs := H.out.below (hb4.trans (hbr.mono hb4.size))
          go_wp2_with fail
          refine (sameSnap_any i t A3 B3 A B D3 D n c3' c m d3 d p f3 f l k' z _ hx hs (by omega) (by omega)).mono ?_
          rintro e wa ⟨rfl, hba⟩
          go_wp2_with fail
          refine (pieces_prog nn _ hN hN2).mono ?_
          rintro e _ ⟨rfl, rfl⟩
          go_wp2_with fail
          refine (pieces_ref nn _ hN hN2).mono ?_
          rintro e _ ⟨rfl, rfl⟩
          go_wp2
          go_ret
          exact ⟨by simp, (hb4.trans (hbr.mono hb4.size)).trans (hba.mono (by have := hbr.size; omega))⟩

theorem slNil (w : World) (size : Nat) : SlA w size none 0 [] := ⟨by simp, fun _ => rfl, fun ad e => (by cases e)⟩
theorem isSnapNil (w : World) : IsSnap w none none none 0 0 0 [] [] [] := ⟨⟨slNil w 1, slNil w 1⟩, slNil w 1⟩

set_option maxHeartbeats 4000000 in
theorem lawPieces_err (i t nn : Int) (A B D : Option Addr) (n c m d p f k : Nat) (l k' z : List Int) (w : World) (h : IsSnap w A B D n m p l k' z) (hn : n * 8 ≤ 140737488355328) (hm : m * 8 ≤ 140737488355328)
    (hf : p ≤ 140737488355328) (hk : p < k) (hk2 : k < 18446744073709551616) (hN : -9223372036854775808 ≤ nn) (hN2 : nn ≤ 9223372036854775807) :
    Calls Try.prog 3 #[.agg #[.int .u64 i, .int .u64 t, .slice A n c, .slice B m d, .slice D p f], .int .u64 k, .int .i64 nn] w fun e w' => e = .returned (.bool true) ∧ Below w.heap.size w w' := by
  have H := Lib.hid h
  clear h
  go_enter Try.func3, Try.ntmps3
  go_wp2_with fail
  refine name_calls (fun w1 hw1 => ?_)
  have k3 : Blk w1 w.heap.size [.int .u64 i, .int .u64 t, .slice A n c, .slice B m d, .slice D p f] := by rw [hw1]; exact Blk.new w _ _ _ rfl
  have hb1 : Below w.heap.size w w1 := by rw [hw1]; exact (by (repeat first | refine Below.setCell ?_ (by first | omega | (dsimp only; omega) | (simp only [heap_drew, World.size_alloc, Gz.size_setCell]; omega)) _ | refine Below.alloc ?_ (by first | omega | (dsimp only; omega) | (simp only [heap_drew, World.size_alloc, Gz.size_setCell]; omega)) _ | refine Below.drew ?_); exact Below.refl _ _)
  have hz1 := hb1.size
  clear hw1
  refine (head_any w1).mono ?_
  rintro e w2 ⟨rfl, hb2⟩
  have k3 := k3.ext hb2
  have c3 := k3.cell
  have hb2 := hb1.trans (hb2.mono hb1.size)
  go_wp2_with fail
  refine (cloneSnap_any i t A B D n c m d p f l k' z w2 (H.out.below hb2) hn hm (by omega)).mono ?_
  rintro e w3 ⟨hb3, A3, c3', B3, d3, D3, f3, rfl, ho3⟩
  have k3 := k3.ext hb3
  have hz3 := hb3.size
  have hz2 := hb2.size
  have hb3 := hb2.trans (hb3.mono hb2.size)
  clear c3
  go_wp2_with fail
  refine name_calls (fun w4 hw4 => ?_)
  have k3 : Blk w4 w.heap.size [.int .u64 i, .int .u64 t, .slice A n c, .slice B m d, .slice D p f] := by rw [hw4]; exact k3.alloc _
  have k8 : Blk w4 w3.heap.size [.int .u64 i, .int .u64 t, .slice A3 n c3', .slice B3 m d3, .slice D3 p f3] := by rw [hw4]; exact Blk.new w3 _ _ _ rfl
  have hb4 : Below w3.heap.size w3 w4 := by rw [hw4]; exact (by (repeat first | refine Below.setCell ?_ (by first | omega | (dsimp only; omega) | (simp only [heap_drew, World.size_alloc, Gz.size_setCell]; omega)) _ | refine Below.alloc ?_ (by first | omega | (dsimp only; omega) | (simp only [heap_drew, World.size_alloc, Gz.size_setCell]; omega)) _ | refine Below.drew ?_); exact Below.refl _ _)
  have ho4 := ho3.below hb4
  have hb4 := hb3.trans (hb4.mono hb3.size)
  have hz4 : w4.heap.size = w3.heap.size + 1 := by rw [hw4]; simp
  clear hw4 ho3
  refine (piece_err i t A3 B3 D3 n c3' m d3 p f3 k w4 hk hf hk2).mono ?_
  rintro e w5 ⟨rfl, hb5⟩
  have k3 := k3.ext hb5
  have k8 := k8.ext hb5
  have hz5 := hb5.size
  have c3 := k3.cell
  have hb45 := hb5
  have hb5 := hb4.trans (hb5.mono hb4.size)
  unfold noMsg
  go_wp2_with fail
  refine name_calls (fun w6 hw6 => ?_)
  have k3 : Blk w6 w.heap.size [.int .u64 i, .int .u64 t, .slice A n c, .slice B m d, .slice D p f] := by rw [hw6]; exact k3.alloc _
  have k8 : Blk w6 w3.heap.size [.int .u64 i, .int .u64 t, .slice A3 n c3', .slice B3 m d3, .slice D3 p f3] := by rw [hw6]; exact k8.alloc _
  have k9 : Blk w6 w5.heap.size noMsg.toList := by rw [hw6]; exact Blk.new w5 _ _ _ rfl
  have hb6 : Below w5.heap.size w5 w6 := by rw [hw6]; exact (by (repeat first | refine Below.setCell ?_ (by first | omega | (dsimp only; omega) | (simp only [heap_drew, World.size_alloc, Gz.size_setCell]; omega)) _ | refine Below.alloc ?_ (by first | omega | (dsimp only; omega) | (simp only [heap_drew, World.size_alloc, Gz.size_setCell]; omega)) _ | refine Below.drew ?_); exact Below.refl _ _)
  have hz6 : w6.heap.size = w5.heap.size + 1 := by rw [hw6]; simp
  have hb46 := hb45.trans (hb6.mono hb45.size)
  clear hw6 c3
  refine (piece_err_ref i t A B D n c m d p f k w6 hk hf hk2).mono ?_
  rintro e w7 ⟨rfl, hb7⟩
  have k3 := k3.ext hb7
  have k8 := k8.ext hb7
  have k9 := k9.ext hb7
  have hz7 := hb7.size
  have hb47 := hb46.trans (hb7.mono hb46.size)
  have c9 := k9.cell
  unfold noMsg at c9 ⊢
  go_wp2_with fail
  refine name_calls (fun w8 hw8 => ?_)
  have k3 : Blk w8 w.heap.size [.int .u64 i, .int .u64 t, .slice A n c, .slice B m d, .slice D p f] := by rw [hw8]; exact k3.alloc _
  have k8 : Blk w8 w3.heap.size [.int .u64 i, .int .u64 t, .slice A3 n c3', .slice B3 m d3, .slice D3 p f3] := by rw [hw8]; exact k8.alloc _
  have k9 : Blk w8 w5.heap.size noMsg.toList := by rw [hw8]; exact k9.alloc _
  have hb8 : Below w7.heap.size w7 w8 := by rw [hw8]; exact (by (repeat first | refine Below.setCell ?_ (by first | omega | (dsimp only; omega) | (simp only [heap_drew, World.size_alloc, Gz.size_setCell]; omega)) _ | refine Below.alloc ?_ (by first | omega | (dsimp only; omega) | (simp only [heap_drew, World.size_alloc, Gz.size_setCell]; omega)) _ | refine Below.drew ?_); exact Below.refl _ _)
  have hb48 := hb47.trans (hb8.mono hb47.size)
  clear hw8 c9 hb47 hb46 hb7 hb6 hb45 hb3 hb2 hb1
  refine (sameMsg_any 0 0 0 0 none none none none none none 0 0 0 0 0 0 0 0 0 false [] [] [] w8 (isSnapNil w8) (isSnapNil w8) (by omega) (by omega)).mono ?_
  rintro e w9 ⟨rfl, hb9⟩
  have k3 := k3.ext hb9
  have k8 := k8.ext hb9
  have k9 := k9.ext hb9
  have hb49 := hb48.trans (hb9.mono hb48.size)
  have c3 := k3.cell
  have c8 := k8.cell
  have c9 := k9.cell
  unfold noMsg at c9
  have hx := ho4.is.below hb49
  have hs := H.out.below (hb4.trans (hb49.mono hb4.size))
  have hz9 := hb49.size
  go_wp2_with fail
  refine wp_loop_rounds 1 ?_
  rw [rounds_succ]
  go_wp2_with fail
  refine wp_loop_rounds 1 ?_
  rw [rounds_succ]
  go_wp2_with fail
  refine (sameSnap_any i t A3 B3 A B D3 D n c3' c m d3 d p f3 f l k' z _ hx hs (by omega) (by omega)).mono ?_
  rintro e wa ⟨rfl, hba⟩
  go_wp2_with fail
  refine (pieces_prog nn _ hN hN2).mono ?_
  rintro e _ ⟨rfl, rfl⟩
  go_wp2_with fail
  refine (pieces_ref nn _ hN hN2).mono ?_
  rintro e _ ⟨rfl, rfl⟩
  go_wp2
  go_ret
  exact ⟨by simp, (hb4.trans (hb49.mono hb4.size)).trans (hba.mono (by omega))⟩
end Go.Proofs.Ytmjohallhdcdnaa

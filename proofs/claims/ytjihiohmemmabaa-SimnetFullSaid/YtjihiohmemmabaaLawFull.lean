/- SimnetFull: the law's walk. -/
import Derived.Test.YtjihiohmemmabaaNHead
namespace Go.Proofs.Ytjihiohmemmabaa
open Go.RowKit Go.Gz
attribute [local go_sem] World.cell?_alloc_some frozen?_alloc_some

/-- The net with so many packets in its one bag. -/
def FullAt (w1 wr : World) (g q : Nat) (cs : List Value) (x : Pkt) (N n : Nat) : Prop := ∃ (F : Nat → Prop) (l : List Pkt), Live w1 wr F g 2 N (updF (fun _ _ => []) 2 1 l) (fun _ => false) ∧ Blk wr q cs ∧ ¬ F q ∧ l.length = n ∧ ∀ y ∈ l, y = x
theorem FullAt.step {w1 w w' : World} {g q N : Nat} {cs : List Value} {x : Pkt} {F : Nat → Prop} {l l' : List Pkt} {n' : Nat} (h : Live w1 w F g 2 N (updF (fun _ _ => []) 2 1 l) (fun _ => false)) (k : Blk w q cs) (hq : ¬ F q) (hb : Beside F w w') (hn : NetIs w' (grow F w w') g 2 (N + 1) (updF (fun _ _ => []) 2 1 l') (fun _ => false)) (hl : l'.length = n') (hy : ∀ y ∈ l', y = x) : FullAt w1 w' g q cs x (N + 1) n' :=
  ⟨grow F w w', l', h.step hb hn, hb.blk k hq, fun hh => hh.elim hq (fun hh => by have := k.lt; omega), hl, hy⟩
theorem ok21 : okWay 2 2 1 := by unfold okWay; decide

/-- Send of the packet: it goes in, or the bag is full. -/
theorem full_send {w1 wr : World} {g q N n : Nat} {x : Pkt} {cs : List Value} {qc : List Value} (h : FullAt w1 wr g q qc x N n) (hN : N < maxLen) (hx : IsP wr cs x) (h1 : x.1 = 2) (h2 : x.2.1 = 1) (hxl : x.2.2.2.length ≤ 140737488355328) :
    Calls Try.prog 10 #[.pointer (some ⟨g, 0, none⟩), .agg cs.toArray] wr fun e w' => (n < 64 ∧ e = .returned (.int .i64 0) ∧ FullAt w1 w' g q qc x (N + 1) (n + 1)) ∨ (64 ≤ n ∧ e = .returned (.int .i64 32) ∧ FullAt w1 w' g q qc x (N + 1) n) := by
  obtain ⟨F, l, hl, k, hq, hln, hy⟩ := h
  refine (send_any wr F g 2 N _ _ cs x hl.1 hl.lt (by decide) hN hx hxl).mono ?_
  rintro e w' ⟨hbes, f', hsf, hnet⟩
  unfold SendF at hsf
  rw [h1, h2, updF_same, hln] at hsf
  rcases hsf with ⟨hno, _⟩ | ⟨_, hs, _⟩ | ⟨_, _, hge, rfl, rfl⟩ | ⟨_, _, hlt, rfl, rfl⟩
  · exact absurd ok21 hno
  · exact absurd rfl hs
  · exact .inr ⟨hge, rfl, FullAt.step hl k hq hbes hnet hln hy⟩
  · rw [updF_upd] at hnet
    refine .inl ⟨hlt, rfl, FullAt.step hl k hq hbes hnet (by simp [hln]) (fun y hy' => ?_)⟩
    rcases List.mem_append.1 hy' with h | h
    · exact hy y h
    · simpa using h
theorem full_double {w1 wr : World} {g q N n : Nat} {x : Pkt} {qc : List Value} (h : FullAt w1 wr g q qc x N n) (hN : N < maxLen) (hn : n = 64) (hxl : x.2.2.2.length ≤ 140737488355328) :
    Calls Try.prog 11 #[.pointer (some ⟨g, 0, none⟩), .int .i64 2, .int .i64 1, .int .i64 0] wr fun e w' => e = .returned (.int .i64 32) ∧ FullAt w1 w' g q qc x (N + 1) n := by
  obtain ⟨F, l, hl, k, hq, hln, hy⟩ := h
  refine (double_any wr F g 2 N _ _ 2 1 0 hl.1 hl.lt (by decide) hN (by rw [updF_same]; omega) (fun y hy' => by rw [updF_same] at hy'; rw [hy y hy']; exact hxl)).mono ?_
  rintro e w' ⟨hbes, E, f', rfl, hdf, hnet⟩
  unfold DoubF at hdf
  rw [updF_same, hln] at hdf
  rcases hdf with ⟨hno, _⟩ | ⟨_, hout, _⟩ | ⟨_, m, y, _, _, hh⟩
  · exact absurd ok21 hno
  · omega
  · rcases hh with ⟨_, rfl, rfl⟩ | ⟨hlt, _⟩
    · exact ⟨rfl, FullAt.step hl k hq hbes hnet hln hy⟩
    · omega
theorem full_drop {w1 wr : World} {g q N n m : Nat} {x : Pkt} {qc : List Value} (h : FullAt w1 wr g q qc x N n) (hN : N < maxLen) (hn : n = 64) (hm : m < 64) :
    Calls Try.prog 13 #[.pointer (some ⟨g, 0, none⟩), .int .i64 2, .int .i64 1, .int .i64 m] wr fun e w' => e = .returned (.int .i64 0) ∧ FullAt w1 w' g q qc x (N + 1) 63 := by
  obtain ⟨F, l, hl, k, hq, hln, hy⟩ := h
  refine (drop_any wr F g 2 N _ _ 2 1 m hl.1 hl.lt (by decide) hN (by rw [updF_same]; omega)).mono ?_
  rintro e w' ⟨hbes, E, f', rfl, hdf, hnet⟩
  unfold DropF at hdf
  rw [updF_same, hln] at hdf
  rcases hdf with ⟨hno, _⟩ | ⟨_, hout, _⟩ | ⟨_, m', hmm, _, rfl, rfl⟩
  · exact absurd ok21 hno
  · omega
  · rw [updF_upd] at hnet
    refine ⟨rfl, FullAt.step hl k hq hbes hnet (by rw [List.length_eraseIdx, if_pos (by omega)]; omega) (fun y hy' => hy y (List.mem_of_mem_eraseIdx hy'))⟩
theorem full_len {w1 wr : World} {g q N n : Nat} {x : Pkt} {qc : List Value} (h : FullAt w1 wr g q qc x N n) (hn : n ≤ 64) :
    Calls Try.prog 12 #[.pointer (some ⟨g, 0, none⟩)] wr fun e w' => e = .returned (.int .i64 n) ∧ FullAt w1 w' g q qc x N n := by
  obtain ⟨F, l, hl, k, hq, hln, hy⟩ := h
  refine (len_any wr F g 2 N _ _ hl.1 (fun i j _ _ => by unfold updF; dsimp only; by_cases hij : i = 2 ∧ j = 1 <;> simp [hij] <;> omega)).mono ?_
  rintro e w' ⟨rfl, hb⟩
  rw [total_upd ⟨by decide, by decide⟩ ⟨by decide, by decide⟩, hln]
  exact ⟨rfl, F, l, hl.below hb, k.ext hb, hq, hln, hy⟩
theorem FullAt.blk {w1 wr : World} {g q N n : Nat} {x : Pkt} {qc : List Value} (h : FullAt w1 wr g q qc x N n) : Blk wr q qc := by
  obtain ⟨_, _, _, k, _⟩ := h
  exact k
theorem FullAt.bel {w1 wr : World} {g q N n : Nat} {x : Pkt} {qc : List Value} (h : FullAt w1 wr g q qc x N n) : Below w1.heap.size w1 wr := by
  obtain ⟨_, _, hl, _⟩ := h
  exact hl.2.2

set_option maxHeartbeats 8000000 in
theorem lawFull_any (D : Option Addr) (n c : Nat) (ds : List Int) (at_ : Int) (w : World) (hd : SlA w 1 D n (nums .u8 ds)) (hn : n ≤ 140737488355328) (ha0 : 0 ≤ at_) (ha1 : at_ < 256) :
    Calls Try.prog 3 #[.slice D n c, .int .u8 at_] w fun e w' => e = .returned (.bool true) ∧ Below w.heap.size w w' := by
  have hdl : ds.length = n := hd.len
  subst hdl
  have HD := Lib.hid hd
  clear hd
  go_enter Try.func3, Try.ntmps3
  go_wp2_with fail
  refine (head_any w).mono ?_
  rintro e w1 ⟨rfl, hb1⟩
  go_wp2_with fail
  refine (new_any 2 w1).mono ?_
  rintro e w2 ⟨hb2, hnew⟩
  rcases hnew with ⟨hno, _⟩ | ⟨_, g, rfl, hnet⟩
  · exact absurd ⟨by decide, by decide⟩ hno
  have HL := Lib.hid (Live.start hb2 hnet)
  clear hnet
  go_wp2_with fail
  refine name_world (fun w3 hw3 => ?_)
  have hb3 : Below w2.heap.size w2 w3 := by rw [hw3]; exact (by (repeat first | refine Below.setCell ?_ (by first | omega | (dsimp only; omega) | (simp only [heap_drew, World.size_alloc, Gz.size_setCell]; omega)) _ | refine Below.alloc ?_ (by first | omega | (dsimp only; omega) | (simp only [heap_drew, World.size_alloc, Gz.size_setCell]; omega)) _ | refine Below.drew ?_); exact Below.refl _ _)
  have k8 : Blk w3 w2.heap.size [.int .i64 2, .int .i64 1, .int .i64 0, .slice D ds.length c] := by rw [hw3]; exact Blk.new _ _ _ _ rfl
  clear hw3
  have f0 : (fun _ _ => [] : Int → Int → List Pkt) = updF (fun _ _ => []) 2 1 [] := by funext a b; simp [updF]
  have HFA := Lib.hid (show FullAt w1 w3 g w2.heap.size [.int .i64 2, .int .i64 1, .int .i64 0, .slice D ds.length c] (2, 1, 0, ds) 0 0 from
    ⟨_, [], by rw [← f0]; exact HL.out.below hb3, k8, fun hh => by simp at hh, rfl, fun y hy => (by cases hy)⟩)
  have HX := Lib.hid (show ∀ wr, Below w1.heap.size w1 wr → IsP wr [.int .i64 2, .int .i64 1, .int .i64 0, .slice D ds.length c] (2, 1, 0, ds) from fun wr hb => ⟨D, c, rfl, HD.out.below (hb1.trans (hb.mono hb1.size))⟩)
  have hml : (200 : Nat) ≤ maxLen := by decide
  clear k8 hb3 HL f0
  go_loopw [9] (fun s9 wr => ∃ i : Nat, s9 = .int .i64 i ∧ i ≤ 64 ∧ FullAt w1 wr g w2.heap.size [.int .i64 2, .int .i64 1, .int .i64 0, .slice D ds.length c] (2, 1, 0, ds) i i) (fun s9 _ => (64 - intOf s9).toNat)
  case atStart => exact ⟨0, rfl, by omega, HFA.out⟩
  case round =>
    clear HFA
    obtain ⟨i, rfl, hi, hfa⟩ := hrel
    have c8 := hfa.blk.cell
    have HA := Lib.hid hfa
    clear hfa
    by_cases hlt : i < 64
    · have q1 : (i : Int) < 64 := by omega
      go_wp2_with fail
      refine (full_send HA.out (by omega) (HX.out _ HA.out.bel) rfl rfl hn).mono ?_
      rintro e wa (⟨_, rfl, hfa⟩ | ⟨hge, _⟩)
      · have HB := Lib.hid hfa
        clear hfa
        go_wp2
        go_roundw
        case rel => exact ⟨i + 1, by go_num, by omega, HB.out⟩
        case measure => simp [intOf]; omega
      · omega
    · obtain rfl : i = 64 := by omega
      have q1 : ¬ ((64 : Nat) : Int) < 64 := by omega
      go_wp2_with fail
      refine (full_send HA.out (by omega) (HX.out _ HA.out.bel) rfl rfl hn).mono ?_
      rintro e wa (⟨hlt', _⟩ | ⟨_, rfl, hfa⟩)
      · omega
      have HB := Lib.hid hfa
      clear hfa c8
      go_wp2_with fail
      refine (full_double HB.out (by omega) rfl hn).mono ?_
      rintro e wb ⟨rfl, hfa⟩
      have HC := Lib.hid hfa
      clear hfa
      go_wp2_with fail
      refine (full_len HC.out (by omega)).mono ?_
      rintro e wc ⟨rfl, hfa⟩
      have HE := Lib.hid hfa
      clear hfa
      go_wp2_with fail
      obtain ⟨m, hm⟩ : ∃ m : Nat, at_ % 64 = m := ⟨(at_ % 64).toNat, by omega⟩
      rw [hm]
      refine (full_drop (m := m) HE.out (by omega) rfl (by omega)).mono ?_
      rintro e wd ⟨rfl, hfa⟩
      have c8 := hfa.blk.cell
      have HG := Lib.hid hfa
      clear hfa hm
      go_wp2_with fail
      refine (full_send HG.out (by omega) (HX.out _ HG.out.bel) rfl rfl hn).mono ?_
      rintro e we (⟨_, rfl, hfa⟩ | ⟨hge, _⟩)
      rotate_left 1
      · omega
      clear c8
      have c8 := hfa.blk.cell
      have HH := Lib.hid hfa
      clear hfa
      go_wp2_with fail
      refine (full_send HH.out (by omega) (HX.out _ HH.out.bel) rfl rfl hn).mono ?_
      rintro e wf (⟨hlt', _⟩ | ⟨_, rfl, hfa⟩)
      · omega
      have HI := Lib.hid hfa
      clear hfa c8
      go_wp2
      go_ret
      exact ⟨rfl, hb1.trans (HI.out.bel.mono hb1.size)⟩
end Go.Proofs.Ytjihiohmemmabaa

/- SimnetPlays: the law's walk. -/
import Derived.Test.YtjihiohmemmabaaNStep
namespace Go.Proofs.Ytjihiohmemmabaa
open Go.RowKit Go.Gz
attribute [local go_sem] World.cell?_alloc_some frozen?_alloc_some

/-- Both nets between two steps. -/
def PlayAt (w0 wr : World) (g r n i : Nat) : Prop := ∃ (F G : Nat → Prop) (f : Bags) (S : Sides), Two w0 wr F G g r n (17592186044416 + i) f S f S ∧ Sane n f
theorem PlayAt.bel {w0 wr : World} {g r n i : Nat} (h : PlayAt w0 wr g r n i) : Below w0.heap.size w0 wr := by
  obtain ⟨F, G, f, S, h, _⟩ := h
  exact h.bel
theorem PlayAt.start {w1 w2 w3 : World} {g r n : Nat} (hb2 : Below w1.heap.size w1 w2) (hb3 : Below w2.heap.size w2 w3) (h : NetIs w2 (fun b => w1.heap.size ≤ b ∧ b < w2.heap.size) g n 0 (fun _ _ => []) (fun _ => false)) (h' : RefIs w3 (fun b => w2.heap.size ≤ b ∧ b < w3.heap.size) r n (fun _ _ => []) (fun _ => false)) : PlayAt w1 w3 g r n 0 := by
  have := hb2.size
  have := hb3.size
  exact ⟨_, _, _, _, { net := (h.below hb3).mono (fun _ h => h) (by omega), ref := h', fin := fun b hb => ⟨hb.1, by omega⟩, gin := fun b hb => ⟨by omega, hb.2⟩, apart := fun b h1 h2 => by omega, bel := hb2.trans (hb3.mono hb2.size) }, Sane.nil n⟩
/-- A step keeps both nets alike. -/
theorem play_step {w0 wr : World} {g r n i : Nat} {cs : List Value} {o : OpV} (h : PlayAt w0 wr g r n i) (hn : n ≤ 7) (hi : i < 140737488355328) (ho : IsO w0 cs o) (hgo : GoodO o) (hdl : o.2.2.2.2.2.1.length ≤ 140737488351232) :
    Calls Try.prog 21 #[.pointer (some ⟨g, 0, none⟩), .pointer (some ⟨r, 0, none⟩), .agg cs.toArray] wr fun e w' => e = .returned (.bool true) ∧ PlayAt w0 w' g r n (i + 1) := by
  obtain ⟨F, G, f, S, h1, hs⟩ := h
  refine (step_any w0 wr _ g r n _ f S cs o (TS.start h1) hs hn (by omega) (by simp only [maxLen]; omega) ho hgo hdl).mono ?_
  rintro e w' ⟨rfl, f', S', ⟨_, F', G', h2, _⟩, hs', _⟩
  exact ⟨rfl, F', G', f', S', h2, hs'⟩
theorem play_alike {w0 wr : World} {g r n i : Nat} (h : PlayAt w0 wr g r n i) (h1 : 1 ≤ n) (hn : n ≤ 7) :
    Calls Try.prog 22 #[.pointer (some ⟨g, 0, none⟩), .pointer (some ⟨r, 0, none⟩)] wr fun e w' => e = .returned (.bool true) ∧ Below wr.heap.size wr w' := by
  obtain ⟨F, G, f, S, h2, hs⟩ := h
  exact alike_any w0 wr _ g r n _ f S (TS.start h2) hs h1 hn
set_option maxHeartbeats 4000000 in
theorem lawPlays_any (nodes : Int) (O : Option Addr) (n c : Nat) (ops : List OpV) (w : World) (ho : IsOs w O n ops) (hg : ∀ o ∈ ops, GoodO o ∧ o.2.2.2.2.2.1.length ≤ 140737488351232) (hn : n ≤ 140737488355328) :
    Calls Try.prog 6 #[.int .i64 nodes, .slice O n c] w fun e w' => e = .returned (.bool true) ∧ Below w.heap.size w w' := by
  have HO := Lib.hid ho
  have HG := Lib.hid hg
  clear ho hg
  go_enter Try.func6, Try.ntmps6
  go_wp2_with fail
  refine (head_any w).mono ?_
  rintro e w1 ⟨rfl, hb1⟩
  go_wp2_with fail
  refine (new_any nodes w1).mono ?_
  rintro e w2 ⟨hb2, hnew⟩
  rcases hnew with ⟨hno, rfl⟩ | ⟨hok, g, rfl, hnet⟩
  · go_wp2_with fail
    refine (rnew_any nodes w2).mono ?_
    rintro e w3 ⟨hb3, hnew⟩
    rcases hnew with ⟨_, rfl⟩ | ⟨hok, _⟩
    rotate_left 1
    · exact absurd hok hno
    have HB := Lib.hid ((hb1.trans (hb2.mono hb1.size)).trans (hb3.mono (hb1.trans (hb2.mono hb1.size)).size))
    clear hno hb2 hb3
    go_wp2
    go_ret
    exact ⟨rfl, HB.out⟩
  have HOK := Lib.hid hok
  obtain ⟨m, rfl⟩ : ∃ m : Nat, nodes = m := ⟨nodes.toNat, by omega⟩
  have hm1 : 1 ≤ m := by omega
  have hm7 : m ≤ 7 := by omega
  have HN := Lib.hid hnet
  clear hok hnet
  go_wp2_with fail
  refine (rnew_any m w2).mono ?_
  rintro e w3 ⟨hb3, hnew⟩
  rcases hnew with ⟨hno, _⟩ | ⟨_, r, rfl, href⟩
  · exact absurd HOK.out hno
  rw [Int.toNat_natCast] at href
  have HPL := Lib.hid (PlayAt.start hb2 hb3 HN.out href)
  clear href hb2 hb3 HN
  go_wp2_with fail
  go_loopw [10] (fun s10 wr => ∃ i : Nat, s10 = .int .i64 i ∧ i ≤ n ∧ PlayAt w1 wr g r m i) (fun s10 _ => (n - RowKit.intOf s10).toNat)
  case atStart => exact ⟨0, rfl, Nat.zero_le _, HPL.out⟩
  case round =>
    clear HPL
    obtain ⟨i, rfl, hi, hpl⟩ := hrel
    have HPL := Lib.hid hpl
    have hbr := hpl.bel
    have hbw := hb1.trans (hbr.mono hb1.size)
    clear hpl
    by_cases hlt : i < n
    · have b0 : (0 : Int) ≤ (i : Int) := by omega
      have b1 : (i : Int) < (n : Int) := by omega
      obtain ⟨ad, rfl⟩ := HO.out.addr (by omega)
      obtain ⟨o, D, dc, E, ec, hox, hO, hD, hE, m0, m1, m2, m3, m4, m5, m6⟩ := (HO.out.below hb1).at hlt
      have m0 := kc_below hbr m0
      have m1 := kc_below hbr m1
      have m2 := kc_below hbr m2
      have m3 := kc_below hbr m3
      have m4 := kc_below hbr m4
      have m5 := kc_below hbr m5
      have m6 := kc_below hbr m6
      have HGO := Lib.hid (HG.out o (List.mem_of_getElem? hox))
      have HIO := Lib.hid hO
      clear hox hO hD hE
      go_wp2_with fail
      refine (play_step HPL.out hm7 (by omega) HIO.out HGO.out.1 HGO.out.2).mono ?_
      rintro e w4 ⟨rfl, hpl⟩
      have HPL4 := Lib.hid hpl
      clear hpl m0 m1 m2 m3 m4 m5 m6
      go_wp2
      go_roundw
      case rel => exact ⟨i + 1, by go_num, by omega, HPL4.out⟩
      case measure => simp [RowKit.intOf]; omega
    · obtain rfl : i = n := by omega
      have b1 : ¬ (i : Int) < (i : Int) := by omega
      go_wp2_with fail
      refine (play_alike HPL.out hm1 hm7).mono ?_
      rintro e w4 ⟨rfl, hb4⟩
      have HB4 := Lib.hid (hbw.trans (hb4.mono hbw.size))
      clear hb4
      go_wp2
      go_ret
      exact ⟨rfl, HB4.out⟩
end Go.Proofs.Ytjihiohmemmabaa

/- Bag: copies of a link's packets. -/
import Derived.Test.YtjihiohmemmabaaNSame
namespace Go.Proofs.Ytjihiohmemmabaa
open Go.RowKit Go.Gz
attribute [local go_sem] World.cell?_alloc_some frozen?_alloc_some

theorem own_same {w w' : World} {base size n c : Nat} {e : TypeId} {A : Option Addr} {ys : List Value} (h : Gz.Own w base e size A n c ys) (hA : A = none ∨ 0 < n) (hg : w.grownBy w' (Value.slice A n c).ownBlock) : SameBut e w w' := fun b u cur hb hne => (hg.block b (Array.getElem?_eq_some_iff.1 hb).1 (fun eq => by
  rcases hA with rfl | hpos
  · cases eq
  · rcases h with ⟨h0, _⟩ | h
    · omega
    · obtain ⟨cur', hc⟩ : ∃ cur', w.heap[b]? = some (.cells cur' e (0, 0)) := by
        rcases h.2 with ⟨hv, _⟩ | ⟨g, cap, cur', hv, _, hgg, _⟩
        · rw [hv] at eq; cases eq
        · rw [hv] at eq
          simp only [Value.ownBlock, Option.some.injEq] at eq
          subst eq
          exact ⟨cur', hgg⟩
      rw [hb] at hc
      injection hc with hc
      injection hc with _ hc
      exact hne hc)).trans hb
theorem ok_smalls {n a b : Int} (h : okWay n a b) (hn : n ≤ 7) : Small a ∧ Small b := by
  obtain ⟨⟨h1, h2⟩, ⟨h3, h4⟩, _⟩ := h
  exact ⟨⟨by omega, by omega⟩, ⟨by omega, by omega⟩⟩
/-- Packets in own memory, from 'base' on. -/
def OwnL (w : World) (base : Nat) (A : Option Addr) (n c : Nat) (xs : List Pkt) : Prop := ∃ zs : List (List Value × Pkt), zs.map (·.2) = xs ∧ zs.length = n ∧ Gz.Own w base 29 4 A n c (zs.flatMap (·.1)) ∧ ∀ z ∈ zs, RdP w (fun b => base ≤ b) z.1 z.2
theorem OwnL.is {w : World} {base n c : Nat} {A : Option Addr} {xs : List Pkt} (h : OwnL w base A n c xs) : IsPs w A n xs := by
  obtain ⟨zs, h1, h2, h3, h4⟩ := h
  exact ⟨zs, h1, h2, h3.sl, fun z hz => (h4 z hz).is⟩
theorem OwnL.below {w w' : World} {base n c : Nat} {A : Option Addr} {xs : List Pkt} (h : OwnL w base A n c xs) (hb : Below w.heap.size w w') : OwnL w' base A n c xs := by
  obtain ⟨zs, h1, h2, h3, h4⟩ := h
  exact ⟨zs, h1, h2, h3.below hb, fun z hz => (h4 z hz).grown (Spared.of_below hb)⟩
theorem OwnL.lower {w : World} {base base' n c : Nat} {A : Option Addr} {xs : List Pkt} (h : OwnL w base A n c xs) (hb : base' ≤ base) : OwnL w base' A n c xs := by
  obtain ⟨zs, h1, h2, h3, h4⟩ := h
  exact ⟨zs, h1, h2, h3.lower hb, fun z hz => (h4 z hz).mono (fun _ hh => Nat.le_trans hb hh)⟩
theorem OwnL.nil (w : World) (base : Nat) : OwnL w base none 0 0 [] := ⟨[], rfl, rfl, .inl ⟨rfl, rfl, rfl⟩, fun z hz => (by cases hz)⟩
/-- One more. -/
theorem OwnL.snoc {w' : World} {base n c' : Nat} {A' : Option Addr} {xs : List Pkt} {x : Pkt} {zs : List (List Value × Pkt)} {cs : List Value} (h1 : zs.map (·.2) = xs) (h2 : zs.length = n) (h3 : Gz.Own w' base 29 4 A' (n + 1) c' (zs.flatMap (·.1) ++ cs)) (h4 : ∀ z ∈ zs, RdP w' (fun b => base ≤ b) z.1 z.2) (h5 : RdP w' (fun b => base ≤ b) cs x) :
    OwnL w' base A' (n + 1) c' (xs ++ [x]) :=
  ⟨zs ++ [(cs, x)], by simp [h1], by simp [h2], by simpa using h3, fun z hz => by
    rcases List.mem_append.1 hz with hz | hz
    · exact h4 z hz
    · simp at hz; subst hz; exact h5⟩

/-- What Bag answers. -/
def BagIs (w w' : World) (nodes : Int) (f : Int → Int → List Pkt) (a b : Int) (e : Ending) : Prop := Below w.heap.size w w' ∧
  ∃ (A : Option Addr) (c : Nat) (E : Int) (xs : List Pkt), e = .returned (.tuple #[.slice A xs.length c, .int .i64 E]) ∧ OwnL w' w.heap.size A xs.length c xs ∧ (A = none ∨ 0 < xs.length) ∧ ((okWay nodes a b ∧ E = 0 ∧ xs = f a b) ∨ (¬ okWay nodes a b ∧ E = 31 ∧ xs = []))

set_option maxHeartbeats 4000000 in
theorem bag_any (w : World) (F : Nat → Prop) (g : Nat) (nodes : Int) (N : Nat) (f : Int → Int → List Pkt) (S : Int → Bool) (a b : Int) (h : NetIs w F g nodes N f S) (hn : nodes ≤ 7) (h00 : f 0 0 = []) (hlen : (f a b).length ≤ 1000) (hfit : ∀ x ∈ f a b, x.2.2.2.length ≤ 140737488355328) :
    Calls Try.prog 18 #[.pointer (some ⟨g, 0, none⟩), .int .i64 a, .int .i64 b] w fun e w' => BagIs w w' nodes f a b e := by
  obtain ⟨i0, hi, hz0, hz1', hz2'⟩ := info_parts infoPkt
  have H := Lib.hid h
  have HFIT := Lib.hid hfit
  clear h hfit
  go_enter Try.func18, Try.ntmps18
  go_wp2_with fail
  refine (way_any w F g nodes N f S a b H.out).mono ?_
  rintro e w1 ⟨hb1, hway⟩
  obtain ⟨i, j, E, hsi, hsj, rfl, hcase⟩ : ∃ i j E : Int, Small i ∧ Small j ∧ e = .returned (.tuple #[.agg #[.int .i64 i, .int .i64 j], .int .i64 E]) ∧ ((okWay nodes a b ∧ E = 0 ∧ f i j = f a b) ∨ (¬ okWay nodes a b ∧ E = 31 ∧ f i j = [])) := by
    rcases hway with ⟨hok, rfl⟩ | ⟨hno, rfl⟩
    · exact ⟨a, b, 0, (ok_smalls hok hn).1, (ok_smalls hok hn).2, rfl, .inl ⟨hok, rfl, rfl⟩⟩
    · exact ⟨0, 0, 31, ⟨by omega, by omega⟩, ⟨by omega, by omega⟩, rfl, .inr ⟨hno, rfl, h00⟩⟩
  have hlen' : (f i j).length ≤ 1000 := by
    rcases hcase with ⟨_, _, h⟩ | ⟨_, _, h⟩
    · rw [h]; exact hlen
    · rw [h]; simp
  have HFIT' := Lib.hid (show ∀ x ∈ f i j, x.2.2.2.length ≤ 140737488355328 from fun x hx => by
    rcases hcase with ⟨_, _, h⟩ | ⟨_, _, h⟩
    · rw [h] at hx; exact HFIT.out x hx
    · rw [h] at hx; cases hx)
  have HC := Lib.hid hcase
  clear hway hcase hlen HFIT
  obtain ⟨bm, am, kg, _, _, _, ⟨sl, hBM, _, hown, _⟩, _⟩ := H.out
  have hown := hown i j hsi hsj
  obtain ⟨A0, c0, hsl⟩ := hown.slice
  obtain ⟨xs, hxs⟩ : ∃ xs, xs = f i j := ⟨_, rfl⟩
  rw [← hxs] at hsl hlen' HFIT' HC
  rw [hsl, ← hxs] at hown
  have HO := Lib.hid hown
  have HLK := Lib.hid (show ∀ W, Below w.heap.size w W → (Instr.lookup 55 (.map (some bm)) (.agg #[.int .i64 i, .int .i64 j]) false).run Try.prog W = .ok (.slice A0 xs.length c0) W from fun W hb => by
    have := bag_lookup (hBM.kept (row := none) (w' := W) ⟨hb.os, hb.tape, hb.output, hb.size, fun k hk _ => hb.block k hk⟩ (by simp)) hsi hsj
    rw [hsl] at this
    exact this)
  have HG := Lib.hid (show ∀ W, Below w.heap.size w W → W.cell? ⟨g, 1, none⟩ = some (.map (some bm)) from fun W hb => (kg.below hb).blk.cell 1)
  clear hown hsl hBM kg hxs hsi hsj
  go_wp2_with fail
  refine name_world (fun w2 hw2 => ?_)
  have hb2 : Below w.heap.size w w2 := by rw [hw2]; exact hb1.alloc hb1.size _
  have k8 : Blk w2 w1.heap.size [.int .i64 i, .int .i64 j] := by rw [hw2]; exact Blk.new _ _ _ _ rfl
  clear hw2
  have hlk := fun a => HLK.out (w2.drewN a) (below_drewN hb2 a)
  have cg := HG.out w2 hb2
  have c8 := k8.cell
  go_quiet (fail)
  have hb3 := below_drewN hb2 nq
  clear hlk cg c8 k8
  go_wp2_with fail
  go_loopw [10, 27] (fun s10 s27 wr => ∃ (k : Nat) (A : Option Addr) (d : Nat), s10 = .slice A k d ∧ s27 = .int .i64 k ∧ k ≤ xs.length ∧ (A = none ∨ 0 < k) ∧ OwnL wr w.heap.size A k d (xs.take k) ∧ Below w.heap.size w wr) (fun _ s27 _ => (xs.length - RowKit.intOf s27).toNat)
  case atStart => exact ⟨0, none, 0, rfl, rfl, by omega, .inl rfl, OwnL.nil _ _, hb3⟩
  case round =>
    clear hb3
    obtain ⟨k, A, d, rfl, rfl, hk, hA, ho, hbr⟩ := hrel
    by_cases hlt : k < xs.length
    · have b0 : (0 : Int) ≤ (k : Int) := by omega
      have b1 : (k : Int) < (xs.length : Int) := by omega
      obtain ⟨ad, rfl⟩ := HO.out.is.addr (by omega)
      obtain ⟨x, D, dc, hx, hD, m0, m1, m2, m3⟩ := (HO.out.is.below hbr).at hlt
      have hxm : x ∈ xs := List.mem_of_getElem? hx
      have HX := Lib.hid hx
      have HD := Lib.hid hD
      clear hx hD
      go_wp2_with fail
      refine name_calls (fun w4 hw4 => ?_)
      have hb4 : Below wr.heap.size wr w4 := by rw [hw4]; exact below_alloc_one _ _
      clear hw4 m0 m1 m2 m3
      refine (copied_any _ x w4 ⟨D, dc, rfl, HD.out.below hb4⟩ (HFIT'.out x hxm)).mono ?_
      rintro e w5 ⟨hb5, cs', rfl, hr5⟩
      obtain ⟨zs, hz1, hz2, hz3, hz4⟩ := ho.below (hb4.trans (hb5.mono hb4.size))
      have hbr5 := hbr.trans ((hb4.trans (hb5.mono hb4.size)).mono hbr.size)
      have hr5 := hr5.mono (G := fun b => w.heap.size ≤ b) (fun b hh => by have := hbr.size; have := hb4.size; omega)
      obtain ⟨D3, d3, rfl, hd3⟩ := hr5
      have hr5 : RdP w5 (fun b => w.heap.size ≤ b) [.int .i64 x.1, .int .i64 x.2.1, .int .i64 x.2.2.1, .slice D3 x.2.2.2.length d3] x := ⟨D3, d3, rfl, hd3⟩
      clear ho hd3
      go_wp2_with (with_reducible refine stop_at (d := 35) ?_)
      refine hide (wpList_append_own_sl rfl (.tmp 31) (.tmp 34) 40 rfl w.heap.size 29 i0 _ 4 48 Try.underlying40 hi hz0 hz1' hz2' rfl (by omega) A k d (zs.flatMap (·.1)) rfl (hz3.alloc _) _ 1 1 _ rfl (sl_new w5 _ _ rfl _ [.int .i64 x.1, .int .i64 x.2.1, .int .i64 x.2.2.1, .slice D3 x.2.2.2.length d3] 4 1 rfl) hr5.one (by omega) (by omega) (by have := hbr5.size; simp; omega) ?_)
      intro A4 c4 w6 ho4 hb6 hg6
      have hsm := own_same (hz3.alloc _) hA hg6
      have hE4 : ∀ z ∈ zs, RdP w6 (fun b => w.heap.size ≤ b) z.1 z.2 := fun z hz => ((hz4 z hz).grown (Spared.of_below (below_alloc_one w5 _))).same hsm (by decide)
      have hx4 : RdP w6 (fun b => w.heap.size ≤ b) _ x := (hr5.grown (Spared.of_below (below_alloc_one w5 _))).same hsm (by decide)
      have hS := OwnL.snoc hz1 hz2 ho4 hE4 hx4
      have hbr6 : Below w.heap.size w w6 := (hbr5.alloc hbr5.size _).trans hb6
      have ht : xs.take k ++ [x] = xs.take (k + 1) := by rw [List.take_add_one, HX.out]; rfl
      rw [ht] at hS
      have HS := Lib.hid hS
      clear hS ho4 hE4 hx4 hg6 hr5 hz3 hz4 hsm
      go_wp2
      go_roundw
      case rel => exact ⟨k + 1, A4, c4, rfl, by go_num, by omega, .inr (by omega), HS.out, hbr6⟩
      case measure => simp [RowKit.intOf]; omega
    · obtain rfl : k = xs.length := by omega
      have b1 : ¬ (xs.length : Int) < (xs.length : Int) := by omega
      rw [List.take_length] at ho
      have HS := Lib.hid ho
      clear ho
      go_wp2
      refine bodyPost_ret (v := .tuple #[.slice A xs.length d, .int .i64 E]) ?_ rfl ⟨hbr, A, d, E, xs, rfl, HS.out, hA, HC.out⟩
      simp [results, Try.results18, go_sem]
end Go.Proofs.Ytjihiohmemmabaa

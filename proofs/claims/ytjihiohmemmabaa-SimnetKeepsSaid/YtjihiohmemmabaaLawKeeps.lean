/- SimnetKeeps: the law's walk. -/
import Derived.Test.YtjihiohmemmabaaNKeep
namespace Go.Proofs.Ytjihiohmemmabaa
open Go.RowKit Go.Gz
attribute [local go_sem] World.cell?_alloc_some frozen?_alloc_some

/-- The law's state between two rounds. -/
def KeepAt (w1 wr : World) (g : Nat) (a b : Int) (i : Nat) (s10 : Value) : Prop := ∃ f ss A c, s10 = .slice A ss.length c ∧ KS w1 wr g i f [(.slice A ss.length c, ss)] [] ∧ Sane 3 f ∧ Way a b f ss
theorem KS.mono {w1 w : World} {g N N' : Nat} {f : Int → Int → List Pkt} {ls : List (Value × List Pkt)} {ks : List (Nat × List Value)} (h : KS w1 w g N f ls ks) (hn : N ≤ N') : KS w1 w g N' f ls ks := by
  obtain ⟨F, h1, h2, h3⟩ := h
  exact ⟨F, ⟨h1.1.mono (fun _ hb => hb) hn, h1.2⟩, h2, h3⟩
theorem KeepAt.bel {w1 wr : World} {g : Nat} {a b : Int} {i : Nat} {s10 : Value} (h : KeepAt w1 wr g a b i s10) : Below w1.heap.size w1 wr := by
  obtain ⟨f, ss, _, _, _, h, _⟩ := h
  exact h.bel

theorem PList.cap {w1 w : World} {F : Nat → Prop} {A : Option Addr} {n c : Nat} {xs : List Pkt} (h : PList w1 w F (.slice A n c) xs) : n ≤ c := by
  obtain ⟨zs, h1, h2, h3, h4⟩ := h
  rcases h2.2 with ⟨hv, h0⟩ | ⟨g, cap, cur, hv, _, _, hc, _⟩
  · injection hv with _ hv _; omega
  · injection hv with _ hn hv; omega
theorem PList.open {w1 w : World} {F : Nat → Prop} {A : Option Addr} {c : Nat} {xs : List Pkt} (h : PList w1 w F (.slice A xs.length c) xs) : ∃ zs : List (List Value × Pkt), zs.map (·.2) = xs ∧ zs.length = xs.length ∧ w.ownsRow 0 29 4 (.slice A xs.length c) xs.length (zs.flatMap (·.1)) ∧ (∀ g, (Value.slice A xs.length c).ownBlock = some g → Free w1 w F g) ∧ ∀ z ∈ zs, IsX w1 w F z.1 z.2 := by
  obtain ⟨zs, h1, h2, h3, h4⟩ := h
  have hl : zs.length = xs.length := by rw [← h1, List.length_map]
  exact ⟨zs, h1, hl, by rw [← hl]; rw [← hl] at h2; exact h2, h3, h4⟩
theorem PList.at {w1 w : World} {F : Nat → Prop} {ad : Addr} {n c : Nat} {xs : List Pkt} (h : PList w1 w F (.slice (some ad) n c) xs) {j : Nat} (hj : j < xs.length) : ∃ x D dc, xs[j]? = some x ∧ IsX w1 w F [.int .i64 x.1, .int .i64 x.2.1, .int .i64 x.2.2.1, .slice D x.2.2.2.length dc] x ∧
    w.cell? (ad.add (j * 4)) = some (.int .i64 x.1) ∧ w.cell? ⟨(ad.add (j * 4)).block, (ad.add (j * 4)).off + 1, none⟩ = some (.int .i64 x.2.1) ∧ w.cell? ⟨(ad.add (j * 4)).block, (ad.add (j * 4)).off + 2, none⟩ = some (.int .i64 x.2.2.1) ∧
    w.cell? ⟨(ad.add (j * 4)).block, (ad.add (j * 4)).off + 3, none⟩ = some (.slice D x.2.2.2.length dc) := by
  obtain ⟨zs, h1, h2, h3, h4⟩ := h
  have hn : n = zs.length := by
    rcases h2.2 with ⟨hv, h0⟩ | ⟨g, cap, cur, hv, _⟩
    · cases hv
    · injection hv
  subst hn
  have hl : xs.length = zs.length := by rw [← h1, List.length_map]
  have hjz : j < zs.length := by omega
  have hz := h4 (zs[j]) (List.getElem_mem hjz)
  have hz2 := hz
  obtain ⟨D, dc, e, hd⟩ := hz
  have cm := fun r hr => flat_cell (fun z : List Value × Pkt => z.1) (ownsRow_sl h2) (fun z hz => (h4 z hz).len) hjz r hr
  rw [e] at cm
  rw [e] at hz2
  refine ⟨(zs[j]).2, D, dc, by rw [← h1]; simp [hjz], hz2, cm 0 (by omega), ?_, ?_, ?_⟩
  · rw [add_of ad (j * 4) 1 (by omega)]; exact cm 1 (by omega)
  · rw [add_of ad (j * 4) 2 (by omega)]; exact cm 2 (by omega)
  · rw [add_of ad (j * 4) 3 (by omega)]; exact cm 3 (by omega)
theorem KS.close {w1 w w' : World} {F : Nat → Prop} {g N n m c c' : Nat} {f : Int → Int → List Pkt} {A A' : Option Addr} {zs rs : List (List Value × Pkt)} {ss : List Pkt} (hl : Live w1 w F g 3 N f (fun _ => false)) (h1 : zs.length = n) (h2 : w.ownsRow 0 29 4 (.slice A n c) n (zs.flatMap (·.1))) (h3 : ∀ g, (Value.slice A n c).ownBlock = some g → Free w1 w F g) (h4 : ∀ z ∈ zs, IsX w1 w F z.1 z.2) (hr : ∀ z ∈ rs, IsX w1 w F z.1 z.2) (hrl : rs.length = m)
    (ho : w'.ownsRow 0 29 4 (.slice A' (n + m) c') (n + m) (zs.flatMap (·.1) ++ rs.flatMap (·.1))) (hg : w.grownBy w' (Value.slice A n c).ownBlock) (hv : (Value.slice A' (n + m) c').ownBlock = (Value.slice A n c).ownBlock ∨ (Value.slice A' (n + m) c').ownBlock = some w.heap.size) (hss : (zs ++ rs).map (·.2) = ss) :
    ∃ A2 c2, (.slice A' (n + m) c' : Value) = .slice A2 ss.length c2 ∧ KS w1 w' g N f [(.slice A2 ss.length c2, ss)] [] := by
  have hsl : ss.length = n + m := by rw [← hss, List.length_map, List.length_append, h1, hrl]
  refine ⟨A', c', by rw [hsl], F, hl.spare hg (fun r e => ⟨(h3 r e).2.2, (h3 r e).1⟩), fun z hz => ?_, fun z hz => (by cases hz)⟩
  simp only [List.mem_singleton] at hz
  subst hz
  have := PList.put h1 h2 h3 h4 hr hrl ho hg hv hl.2.2.size hl.lt
  rw [hss] at this
  dsimp only
  rw [hsl]
  exact this

/-- Where the newest of the like packets lies. -/
def AtRel (ss : List Pkt) (x : Pkt) (k : Nat) (s : Value) : Prop := (s = .int .i64 (-1) ∧ ∀ y ∈ ss.take k, ¬ pk y = pk x) ∨ ∃ (p : Nat) (y : Pkt), s = .int .i64 p ∧ p < k ∧ ss[p]? = some y ∧ pk y = pk x
theorem AtRel.start (ss : List Pkt) (x : Pkt) : AtRel ss x 0 (.int .i64 (-1)) := .inl ⟨rfl, fun y hy => by simp at hy⟩
theorem AtRel.no {ss : List Pkt} {x y : Pkt} {k : Nat} {s : Value} (h : AtRel ss x k s) (hy : ss[k]? = some y) (hne : ¬ pk y = pk x) : AtRel ss x (k + 1) s := by
  rcases h with ⟨h1, h2⟩ | ⟨p, z, h1, h2, h3, h4⟩
  · refine .inl ⟨h1, fun u hu => ?_⟩
    rw [List.take_add_one, hy] at hu
    rcases List.mem_append.1 hu with hu | hu
    · exact h2 u hu
    · simp at hu
      subst hu
      exact hne
  · exact .inr ⟨p, z, h1, by omega, h3, h4⟩
theorem AtRel.yes {ss : List Pkt} {x y : Pkt} {k : Nat} (hy : ss[k]? = some y) (he : pk y = pk x) : AtRel ss x (k + 1) (.int .i64 k) := .inr ⟨k, y, rfl, by omega, hy, he⟩
theorem AtRel.found {ss : List Pkt} {x : Pkt} {s : Value} (h : AtRel ss x ss.length s) (hm : ∃ y ∈ ss, pk y = pk x) : ∃ (p : Nat) (y : Pkt), s = .int .i64 p ∧ p < ss.length ∧ ss[p]? = some y ∧ pk y = pk x := by
  rcases h with ⟨_, h2⟩ | h
  · obtain ⟨y, hy, he⟩ := hm
    rw [List.take_length] at h2
    exact absurd he (h2 y hy)
  · exact h
theorem IsPs.cutTo {w : World} {A : Option Addr} {n c k m : Nat} {xs : List Pkt} (h : IsPs w A n xs) (hk : k ≤ m) (hm : m ≤ n) (hc : n ≤ c) : IsPs w (cutA A c k 4) (m - k) ((xs.drop k).take (m - k)) := by
  obtain ⟨zs, rfl, rfl, h3, h4⟩ := h
  have h5 := (h3.cut (k := k) (by omega) hc).take (k := m - k) (by omega)
  rw [flat_drop _ 4 zs (fun z hz => (h4 z hz).len), flat_take _ 4 (zs.drop k) (fun z hz => (h4 z (List.mem_of_mem_drop hz)).len)] at h5
  exact ⟨(zs.drop k).take (m - k), by simp [List.map_take, List.map_drop], by simp; omega, h5, fun z hz => h4 z (List.mem_of_mem_drop (List.mem_of_mem_take hz))⟩
theorem IsPs.one {w : World} {A : Option Addr} {n c k : Nat} {xs : List Pkt} {y : Pkt} (h : IsPs w A n xs) (hk : k < n) (hc : n ≤ c) (hy : xs[k]? = some y) : IsPs w (cutA A c k 4) 1 [y] := by
  have h1 := h.cutTo (k := k) (m := k + 1) (by omega) (by omega) hc
  rw [Nat.add_sub_cancel_left] at h1
  have e : (xs.drop k).take 1 = [y] := by
    obtain ⟨h2, h3⟩ := List.getElem?_eq_some_iff.1 hy
    rw [List.drop_eq_getElem_cons h2, List.take_succ_cons, List.take_zero, h3]
  rw [e] at h1
  exact h1
theorem IsPs.lit {w : World} {cs : List Value} {x : Pkt} (h : IsP w cs x) (t : TypeId) : IsPs (w.alloc (.cells cs.toArray t)) (some ⟨w.heap.size, 0, none⟩) 1 [x] :=
  ⟨[(cs, x)], rfl, rfl, sl_new w _ _ rfl t _ 4 1 (by simp [h.len]) (by simp), fun z hz => by simp only [List.mem_singleton] at hz; subst hz; exact h.below (below_alloc_one w _)⟩
theorem IsP.lit' {w : World} {cs : List Value} {x : Pkt} (h : IsP w cs x) (arr : Array Value) (t : TypeId) (e : arr = cs.toArray := by rfl) : IsPs (w.alloc (.cells arr t)) (some ⟨w.heap.size, 0, none⟩) 1 [x] := by
  subst e
  exact IsPs.lit h t
theorem BlkT.row {w : World} {g : Nat} {t : TypeId} (h : BlkT w g t []) (size : Nat) : w.ownsRow 0 t size (.slice (some ⟨g, 0, none⟩) 0 0) 0 [] :=
  ⟨by simp, .inr ⟨g, 0, #[], rfl, Nat.zero_le _, h, Nat.le_refl _, Nat.zero_le _, by simp, by simp⟩⟩
theorem PList.stay {w1 w w' : World} {F : Nat → Prop} {v : Value} {xs : List Pkt} {row : Option Nat} (h : PList w1 w F v xs) (hg : w.grownBy w' row) (hr : ∀ r, row = some r → ¬ v.ownBlock = some r) (hs : SameBut 29 w w') : PList w1 w' F v xs := by
  obtain ⟨zs, h1, h2, h3, h4⟩ := h
  exact ⟨zs, h1, row_blocks h2 (fun b e => hg.block b (h3 b e).2.1 (fun e' => hr b e'.symm e)), fun b e => (h3 b e).up hg.size, fun z hz => (h4 z hz).same hs hg.size⟩
set_option maxHeartbeats 16000000 in
set_option maxRecDepth 40000 in
theorem lawKeeps_any (O : Option Addr) (n c : Nat) (ops : List OpV) (a b : Int) (w : World) (ho : IsOs w O n ops) (hg : ∀ o ∈ ops, GoodO o) (hn : n ≤ 140737488355328) :
    Calls Try.prog 5 #[.slice O n c, .int .i64 a, .int .i64 b] w fun e w' => e = .returned (.bool true) ∧ Below w.heap.size w w' := by
  obtain ⟨i0, hi, hz0, hz1', hz2'⟩ := info_parts infoPkt
  have hol := ho.len
  have HO := Lib.hid ho
  have HG := Lib.hid hg
  clear ho hg
  go_enter Try.func5, Try.ntmps5
  go_wp2_with fail
  refine (head_any w).mono ?_
  rintro e w1 ⟨rfl, hb1⟩
  go_wp2_with fail
  refine (new_any 3 w1).mono ?_
  rintro e w2 ⟨hb2, hnew⟩
  rcases hnew with ⟨hno, _⟩ | ⟨_, g, rfl, hnet⟩
  · exact absurd ⟨by decide, by decide⟩ hno
  have HL := Lib.hid (Live.start hb2 hnet)
  clear hnet
  have hml : (140737488355328 : Nat) + 100 ≤ maxLen := by decide
  go_wp2_with fail
  go_loopw [10, 11] (fun s10 s11 wr => ∃ i : Nat, s11 = .int .i64 i ∧ i ≤ n ∧ KeepAt w1 wr g a b i s10) (fun _ s11 _ => (n - RowKit.intOf s11).toNat)
  case atStart => exact ⟨0, rfl, by omega, _, [], none, 0, rfl, ⟨_, HL.out, fun z hz => by simp at hz; subst hz; exact PList.nil _ _ _, fun z hz => by cases hz⟩, Sane.nil 3, by unfold Way; simp⟩
  case round =>
    clear HL
    obtain ⟨i, rfl, hin, hka⟩ := hrel
    by_cases hlt : i < n
    · have b0 : (0 : Int) ≤ (i : Int) := by omega
      have b1 : (i : Int) < (n : Int) := by omega
      obtain ⟨f, ss, ss', c10, rfl, hks, hsane, hway⟩ := hka
      have hbr := hks.bel
      have hbw := hb1.trans (hbr.mono hb1.size)
      obtain ⟨ad, rfl⟩ := HO.out.addr (by omega)
      obtain ⟨o, D, dc, E, ec, hox, hO, hD, hE, m0, m1, m2, m3, m4, m5, m6⟩ := (HO.out.below hb1).at hlt
      have m0 := kc_below hbr m0
      have m1 := kc_below hbr m1
      have m2 := kc_below hbr m2
      have m3 := kc_below hbr m3
      have m4 := kc_below hbr m4
      have m5 := kc_below hbr m5
      have m6 := kc_below hbr m6
      have hgo := HG.out o (List.mem_of_getElem? hox)
      have HGO := Lib.hid hgo
      have hc0 := hgo.call.1
      have hc1 := hgo.call.2
      have hdl := hgo.data
      have HKS := Lib.hid hks
      have HSN := Lib.hid hsane
      have HWY := Lib.hid hway
      have hsl : ss.length ≤ 64 := by rw [hway.len]; exact (hsane.2 a b).1
      clear hks hsane hway hox hgo hO hE
      go_wp2_with fail
      refine name_calls (fun w3 hw3 => ?_)
      have hb3 : Below wr.heap.size wr w3 := by rw [hw3]; exact below_alloc_one _ _
      have k12 : Blk w3 wr.heap.size [.int .i64 o.1, .int .i64 o.2.1, .int .i64 o.2.2.1, .int .i64 o.2.2.2.1, .int .i64 o.2.2.2.2.1, .slice D o.2.2.2.2.2.1.length dc, .slice E o.2.2.2.2.2.2.length ec] := by rw [hw3]; exact Blk.new _ _ _ _ rfl
      clear hw3 m0 m1 m2 m3 m4 m5 m6
      have HK3 := Lib.hid (HKS.out.new hb3 k12 (Nat.le_refl _))
      have HD := Lib.hid hD
      have hbr3 := hbr.trans (hb3.mono hbr.size)
      refine (pick_any o.1 3 w3 (by decide) (by decide) hc0 hc1).mono ?_
      rintro e w3' ⟨rfl, hw3'⟩
      rw [hw3']
      clear hw3' w3'
      obtain ⟨kk, hkk⟩ : ∃ kk, kk = pickI o.1 3 := ⟨_, rfl⟩
      rw [← hkk]
      clear hkk HKS hD
      have c12 := k12.cell
      by_cases k0 : kk = 0
      · have e0 : (kk == 0) = true := beq_iff_eq.2 k0
        clear k0
        go_wp2_with fail
        refine name_calls (fun w4 hw4 => ?_)
        have hb4 : Below w3.heap.size w3 w4 := by rw [hw4]; exact below_alloc_one _ _
        have k13 : Blk w4 w3.heap.size [.int .i64 o.2.1, .int .i64 o.2.2.1, .int .i64 o.2.2.2.2.1, .slice D o.2.2.2.2.2.1.length dc] := by rw [hw4]; exact Blk.new _ _ _ _ rfl
        clear hw4
        have HK4 := Lib.hid (HK3.out.new hb4 k13 (Nat.le_refl _))
        clear c12 k13
        have hbr4 := hbr3.trans (hb4.mono hbr3.size)
        refine (ks_send (x := (o.2.1, o.2.2.1, o.2.2.2.2.1, o.2.2.2.2.2.1)) HK4.out (by omega) ⟨D, dc, rfl, HD.out.below hbr4⟩ hdl).mono ?_
        rintro e w5 ⟨E1, f', rfl, hks, hcase⟩
        have c12 := (hks.blk (q := wr.heap.size) (List.mem_cons_of_mem _ (List.mem_cons_self ..))).cell
        have c13 := (hks.blk (q := w3.heap.size) (List.mem_cons_self ..)).cell
        rcases hcase with ⟨hE, rfl⟩ | ⟨rfl, hok, hl64, rfl⟩
        · have eE : (E1 == 0) = false := beq_eq_false_iff_ne.2 hE
          have HK5 := Lib.hid (hks.sub (ks' := []) (fun z hz => by cases hz) (fun z hz => hz))
          clear hks hE
          go_wp2
          go_roundw
          case rel => exact ⟨i + 1, by go_num, by omega, f', ss, ss', c10, rfl, HK5.out, HSN.out, HWY.out⟩
          case measure => simp [RowKit.intOf]; omega
        dsimp only at hok hl64
        have HOK := Lib.hid hok
        have HL64 := Lib.hid hl64
        have HK5 := Lib.hid (hks.sub (ks' := []) (fun z hz => by cases hz) (fun z hz => hz))
        have HSN5 := Lib.hid (HSN.out.put (x := (o.2.1, o.2.2.1, o.2.2.2.2.1, o.2.2.2.2.2.1)) hok hl64 hdl)
        clear hks hok hl64
        by_cases ha : o.2.1 = a
        rotate_left 1
        · have ea : (o.2.1 == a) = false := beq_eq_false_iff_ne.2 ha
          have HWY5 := Lib.hid (HWY.out.other (i := o.2.1) (j := o.2.2.1) (l := f o.2.1 o.2.2.1 ++ [(o.2.1, o.2.2.1, o.2.2.2.2.1, o.2.2.2.2.2.1)]) (fun e => ha e.1))
          clear ha
          go_wp2
          go_roundw
          case rel => exact ⟨i + 1, by go_num, by omega, _, ss, ss', c10, rfl, HK5.out, HSN5.out, HWY5.out⟩
          case measure => simp [RowKit.intOf]; omega
        have ea : (o.2.1 == a) = true := beq_iff_eq.2 ha
        by_cases hb : o.2.2.1 = b
        rotate_left 1
        · have eb : (o.2.2.1 == b) = false := beq_eq_false_iff_ne.2 hb
          have HWY5 := Lib.hid (HWY.out.other (i := o.2.1) (j := o.2.2.1) (l := f o.2.1 o.2.2.1 ++ [(o.2.1, o.2.2.1, o.2.2.2.2.1, o.2.2.2.2.2.1)]) (fun e => hb e.2))
          clear hb ha
          go_wp2
          go_roundw
          case rel => exact ⟨i + 1, by go_num, by omega, _, ss, ss', c10, rfl, HK5.out, HSN5.out, HWY5.out⟩
          case measure => simp [RowKit.intOf]; omega
        have eb : (o.2.2.1 == b) = true := beq_iff_eq.2 hb
        have HWY5 := Lib.hid (show Way a b (updF f o.2.1 o.2.2.1 (f o.2.1 o.2.2.1 ++ [(o.2.1, o.2.2.1, o.2.2.2.2.1, o.2.2.2.2.2.1)])) (ss ++ [(o.2.1, o.2.2.1, o.2.2.2.2.1, o.2.2.2.2.2.1)]) from by
          rw [ha, hb]; exact HWY.out.put rfl)
        clear ha hb
        go_wp2_with (with_reducible refine stop_at (d := 134) ?_)
        refine hide (name_list (fun w6 hw6 => ?_))
        have hb56 : Below w5.heap.size w5 w6 := by rw [hw6]; exact below_alloc_one _ _
        have k6 : Blk w6 w5.heap.size [.int .i64 o.2.1, .int .i64 o.2.2.1, .int .i64 o.2.2.2.2.1, .slice D o.2.2.2.2.2.1.length dc] := by rw [hw6]; exact Blk.new _ _ _ _ rfl
        clear hw6
        have HKA := Lib.hid (HK5.out.below hb56)
        obtain ⟨F, hl, hls, _⟩ := HKA.out
        obtain ⟨zs, z1, zl, z2, z3, z4⟩ := (hls (.slice ss' ss.length c10, ss) (by simp)).open
        have HLF := Lib.hid hl
        have Z1 := Lib.hid z1
        have Z3 := Lib.hid z3
        have Z4 := Lib.hid z4
        have HLS := Lib.hid hls
        clear hl z1 z3 z4 hls
        refine hide (wpList_append_at rfl (.tmp 131) (.tmp 133) 40 rfl 29 i0 _ 4 48 Try.underlying40 hi hz0 hz1' hz2' rfl (by omega) ss' ss.length c10 (zs.flatMap (·.1)) rfl z2 ⟨w5.heap.size, 0, none⟩ 1 1 [.int .i64 o.2.1, .int .i64 o.2.2.1, .int .i64 o.2.2.2.2.1, .slice D o.2.2.2.2.2.1.length dc] rfl (blk_sl k6 rfl) (IsX.one (⟨D, dc, rfl, .inl HD.out⟩ : IsX w1 w6 F [.int .i64 o.2.1, .int .i64 o.2.2.1, .int .i64 o.2.2.2.2.1, .slice D o.2.2.2.2.2.1.length dc] (o.2.1, o.2.2.1, o.2.2.2.2.1, o.2.2.2.2.2.1))) (by omega) (by omega) ?_)
        intro A7 c7 w7 ho7 hg7 hv7
        obtain ⟨A2, c2, hv2, hks7⟩ := KS.close (rs := [([.int .i64 o.2.1, .int .i64 o.2.2.1, .int .i64 o.2.2.2.2.1, .slice D o.2.2.2.2.2.1.length dc], (o.2.1, o.2.2.1, o.2.2.2.2.1, o.2.2.2.2.2.1))]) (ss := ss ++ [(o.2.1, o.2.2.1, o.2.2.2.2.1, o.2.2.2.2.2.1)]) HLF.out zl z2 Z3.out Z4.out (fun z hz => by simp only [List.mem_singleton] at hz; subst hz; exact ⟨D, dc, rfl, .inl HD.out⟩) rfl (by simpa using ho7) hg7 hv7 (by rw [List.map_append, Z1.out]; rfl)
        have HK7 := Lib.hid hks7
        have HV7 := Lib.hid hv2
        clear hks7 hv2 ho7 hg7 hv7 z2
        go_wp2
        go_roundw
        case rel => exact ⟨i + 1, by go_num, by omega, _, _, A2, c2, HV7.out, HK7.out, HSN5.out, HWY5.out⟩
        case measure => simp [RowKit.intOf]; omega
      · have e0 : (kk == 0) = false := beq_eq_false_iff_ne.2 k0
        clear k0
        by_cases k1 : kk = 1
        · have e1 : (kk == 1) = true := beq_iff_eq.2 k1
          clear k1
          go_wp2_with fail
          refine (ks_bag HK3.out HSN.out).mono ?_
          rintro e w4 ⟨B, d, E1, xs, rfl, hks, hc⟩
          clear c12
          have c12 := (hks.blk (q := wr.heap.size) (List.mem_cons_self ..)).cell
          have HK4 := Lib.hid hks
          have HC := Lib.hid hc
          clear hks hc
          go_wp2_with fail
          refine (ks_double HK4.out HSN.out (by omega)).mono ?_
          rintro e w5 ⟨E2, f', rfl, hks, hcase⟩
          clear c12
          have c12 := (hks.blk (q := wr.heap.size) (List.mem_cons_self ..)).cell
          rcases hcase with ⟨hE, rfl⟩ | ⟨rfl, hok, hl64, m, x, hm, hx, rfl⟩
          · have eE : (E2 == 0) = false := beq_eq_false_iff_ne.2 hE
            have HK5 := Lib.hid (hks.sub (ks' := []) (ls' := [(.slice ss' ss.length c10, ss)]) (fun z hz => by cases hz) (fun z hz => List.mem_cons_of_mem _ hz))
            clear hks hE
            go_wp2
            go_roundw
            case rel => exact ⟨i + 1, by go_num, by omega, f', ss, ss', c10, rfl, HK5.out, HSN.out, HWY.out⟩
            case measure => simp [RowKit.intOf]; omega
          obtain ⟨rfl, rfl⟩ : E1 = 0 ∧ xs = f o.2.1 o.2.2.1 := by
            rcases HC.out with ⟨_, h1, h2⟩ | ⟨hno, _⟩
            · exact ⟨h1, h2⟩
            · exact absurd hok hno
          have hxl := (List.getElem?_eq_some_iff.1 hx).1
          have hfx : x.2.2.2.length ≤ 140737488355328 := (HSN.out.2 _ _).2 x (List.mem_of_getElem? hx)
          have HX := Lib.hid hx
          have HSN5 := Lib.hid (HSN.out.put (x := x) hok hl64 hfx)
          have HK5 := Lib.hid hks
          clear hks hok hl64 hx HC hfx
          by_cases ha : o.2.1 = a
          rotate_left 1
          · have ea : (o.2.1 == a) = false := beq_eq_false_iff_ne.2 ha
            have HWY5 := Lib.hid (HWY.out.other (i := o.2.1) (j := o.2.2.1) (l := f o.2.1 o.2.2.1 ++ [x]) (fun e => ha e.1))
            have HK6 := Lib.hid (HK5.out.sub (ks' := []) (ls' := [(.slice ss' ss.length c10, ss)]) (fun z hz => by cases hz) (fun z hz => List.mem_cons_of_mem _ hz))
            clear ha
            go_wp2
            go_roundw
            case rel => exact ⟨i + 1, by go_num, by omega, _, ss, ss', c10, rfl, HK6.out, HSN5.out, HWY5.out⟩
            case measure => simp [RowKit.intOf]; omega
          have ea : (o.2.1 == a) = true := beq_iff_eq.2 ha
          by_cases hb : o.2.2.1 = b
          rotate_left 1
          · have eb : (o.2.2.1 == b) = false := beq_eq_false_iff_ne.2 hb
            have HWY5 := Lib.hid (HWY.out.other (i := o.2.1) (j := o.2.2.1) (l := f o.2.1 o.2.2.1 ++ [x]) (fun e => hb e.2))
            have HK6 := Lib.hid (HK5.out.sub (ks' := []) (ls' := [(.slice ss' ss.length c10, ss)]) (fun z hz => by cases hz) (fun z hz => List.mem_cons_of_mem _ hz))
            clear hb ha
            go_wp2
            go_roundw
            case rel => exact ⟨i + 1, by go_num, by omega, _, ss, ss', c10, rfl, HK6.out, HSN5.out, HWY5.out⟩
            case measure => simp [RowKit.intOf]; omega
          have eb : (o.2.2.1 == b) = true := beq_iff_eq.2 hb
          have hmi : o.2.2.2.1 < ((f o.2.1 o.2.2.1).length : Int) := by omega
          have hmz : (0 : Int) ≤ o.2.2.2.1 := by omega
          obtain ⟨bd, rfl⟩ : ∃ bd, B = some bd := (HK5.out.is (A := B) (n := (f o.2.1 o.2.2.1).length) (c := d) (xs := f o.2.1 o.2.2.1) (List.mem_cons_self ..)).addr (by omega)
          obtain ⟨x', D5, dc5, hx', _, q0, q1, q2, q3⟩ := (HK5.out.is (A := some bd) (n := (f o.2.1 o.2.2.1).length) (c := d) (xs := f o.2.1 o.2.2.1) (List.mem_cons_self ..)).at (j := m) hxl
          obtain rfl : x = x' := by have := HX.out; rw [hx'] at this; exact (Option.some.inj this).symm
          have hidx : (o.2.2.2.1 : Int).toNat = m := by omega
          have HWY5 := Lib.hid (show Way a b (updF f o.2.1 o.2.2.1 (f o.2.1 o.2.2.1 ++ [x])) (ss ++ [x]) from by
            rw [ha, hb]; exact HWY.out.put rfl)
          rw [hm] at c12 hmi hmz
          clear ha hb hx'
          have Q3 := Lib.hid q3
          go_wp2_with (with_reducible refine stop_at (d := 185) ?_)
          refine hide (name_list (fun w6 hw6 => ?_))
          have hb56 : Below w5.heap.size w5 w6 := by rw [hw6]; exact below_alloc_one _ _
          have k6 : Blk w6 w5.heap.size [.int .i64 x.1, .int .i64 x.2.1, .int .i64 x.2.2.1, .slice D5 x.2.2.2.length dc5] := by rw [hw6]; exact Blk.new _ _ _ _ rfl
          clear hw6
          have HXX := Lib.hid (show ∀ F, PList w1 w6 F (.slice (some bd) (f o.2.1 o.2.2.1).length d) (f o.2.1 o.2.2.1) → IsX w1 w6 F [.int .i64 x.1, .int .i64 x.2.1, .int .i64 x.2.2.1, .slice D5 x.2.2.2.length dc5] x from fun F hp => by
            obtain ⟨x2, D2, dc2, hx2, hX2, p0, p1, p2, p3⟩ := hp.at hxl
            rw [HX.out] at hx2
            obtain rfl := Option.some.inj hx2
            rw [kc_below hb56 Q3.out] at p3
            simp only [Option.some.injEq, Value.slice.injEq, true_and] at p3
            obtain ⟨rfl, rfl⟩ := p3
            exact hX2)
          have HKA := Lib.hid (HK5.out.below hb56)
          obtain ⟨F, hl, hls, _⟩ := HKA.out
          obtain ⟨zs, z1, zl, z2, z3, z4⟩ := (hls (.slice ss' ss.length c10, ss) (by simp)).open
          have HLF := Lib.hid hl
          have Z1 := Lib.hid z1
          have Z3 := Lib.hid z3
          have Z4 := Lib.hid z4
          have HLS := Lib.hid hls
          clear hl z1 z3 z4 hls
          refine hide (wpList_append_at rfl (.tmp 178) (.tmp 184) 40 rfl 29 i0 _ 4 48 Try.underlying40 hi hz0 hz1' hz2' rfl (by omega) ss' ss.length c10 (zs.flatMap (·.1)) rfl z2 ⟨w5.heap.size, 0, none⟩ 1 1 [.int .i64 x.1, .int .i64 x.2.1, .int .i64 x.2.2.1, .slice D5 x.2.2.2.length dc5] rfl (blk_sl k6 rfl) (IsX.one ((HXX.out F (HLS.out _ (List.mem_cons_self ..))) : IsX w1 w6 F [.int .i64 x.1, .int .i64 x.2.1, .int .i64 x.2.2.1, .slice D5 x.2.2.2.length dc5] x)) (by omega) (by omega) ?_)
          intro A7 c7 w7 ho7 hg7 hv7
          obtain ⟨A2, c2, hv2, hks7⟩ := KS.close (rs := [([.int .i64 x.1, .int .i64 x.2.1, .int .i64 x.2.2.1, .slice D5 x.2.2.2.length dc5], x)]) (ss := ss ++ [x]) HLF.out zl z2 Z3.out Z4.out (fun z hz => by simp only [List.mem_singleton] at hz; subst hz; exact (HXX.out F (HLS.out _ (List.mem_cons_self ..)))) rfl (by simpa using ho7) hg7 hv7 (by rw [List.map_append, Z1.out]; rfl)
          have HK7 := Lib.hid hks7
          have HV7 := Lib.hid hv2
          clear hks7 hv2 ho7 hg7 hv7 z2
          go_wp2
          go_roundw
          case rel => exact ⟨i + 1, by go_num, by omega, _, _, A2, c2, HV7.out, HK7.out, HSN5.out, HWY5.out⟩
          case measure => simp [RowKit.intOf]; omega
        · have e1 : (kk == 1) = false := beq_eq_false_iff_ne.2 k1
          clear k1
          go_wp2_with fail
          refine (ks_deliver HK3.out HSN.out (by omega)).mono ?_
          rintro e w4 ⟨d0, d1, d2, d3, E1, f', rfl, hone, hks, hcase⟩
          clear c12
          have HONE := Lib.hid hone
          have HK4 := Lib.hid hks
          have c12 := (hks.blk (q := wr.heap.size) (List.mem_cons_self ..)).cell
          clear hone hks
          go_wp2_with (with_reducible refine stop_store ?_)
          refine hide (name_list (fun w5 hw5 => ?_))
          have hb45 : Below w4.heap.size w4 w5 := by rw [hw5]; exact (by (repeat first | refine Below.setCell ?_ (by first | omega | (dsimp only; omega) | (simp only [heap_drew, World.size_alloc, Gz.size_setCell]; omega)) _ | refine Below.alloc ?_ (by first | omega | (dsimp only; omega) | (simp only [heap_drew, World.size_alloc, Gz.size_setCell]; omega)) _ | refine Below.drew ?_); exact Below.refl _ _)
          have k16 : Blk w5 w4.heap.size [.int .i64 0, .int .i64 0, .int .i64 0, .slice none 0 0] := by rw [hw5]; exact Blk.new _ _ _ _ rfl
          have hz5 : w5.heap.size = w4.heap.size + 1 := by rw [hw5]; simp
          clear hw5
          refine hide (wpList_store_blk rfl 29 (.tmp 16) (.tmp 60) rfl w4.heap.size [d0, d1, d2, d3] rfl rfl _ k16 rfl (by kernel_rfl) (List.all_eq_true.2 HONE.out) ?_)
          intro w6 k16 hg6 hz6
          have hb46 := below_grown hb45 hg6 (Nat.le_refl _) (by omega)
          have HK6 := Lib.hid (HK4.out.new hb46 k16 (Nat.le_refl _))
          clear c12
          have c12 := (HK6.out.blk (q := wr.heap.size) (List.mem_cons_of_mem _ (List.mem_cons_self ..))).cell
          have c16 := k16.cell
          clear hg6 hz6 hz5 hb45 k16
          rcases hcase with ⟨hE, rfl⟩ | ⟨rfl, hok, m, x, hx, hIs, rfl⟩
          · have eE : (E1 != 0) = true := by simp [hE]
            have HK7 := Lib.hid (HK6.out.sub (ks' := []) (fun z hz => by cases hz) (fun z hz => hz))
            clear hE
            go_wp2
            go_roundw
            case rel => exact ⟨i + 1, by go_num, by omega, f', ss, ss', c10, rfl, HK7.out, HSN.out, HWY.out⟩
            case measure => simp [RowKit.intOf]; omega
          have HX := Lib.hid hx
          have HIS := Lib.hid (hIs.below hb46)
          have HSN7 := Lib.hid (HSN.out.drop (m := m) hok)
          clear hx hok hIs
          by_cases ha : o.2.1 = a
          rotate_left 1
          · have ea : (o.2.1 != a) = true := by simp [ha]
            have HWY5 := Lib.hid (HWY.out.other (i := o.2.1) (j := o.2.2.1) (l := (f o.2.1 o.2.2.1).eraseIdx m) (fun e => ha e.1))
            have HK7 := Lib.hid (HK6.out.sub (ks' := []) (fun z hz => by cases hz) (fun z hz => hz))
            clear ha
            go_wp2
            go_roundw
            case rel => exact ⟨i + 1, by go_num, by omega, _, ss, ss', c10, rfl, HK7.out, HSN7.out, HWY5.out⟩
            case measure => simp [RowKit.intOf]; omega
          have ea : (o.2.1 != a) = false := by simp [ha]
          by_cases hb : o.2.2.1 = b
          rotate_left 1
          · have eb : (o.2.2.1 != b) = true := by simp [hb]
            have HWY5 := Lib.hid (HWY.out.other (i := o.2.1) (j := o.2.2.1) (l := (f o.2.1 o.2.2.1).eraseIdx m) (fun e => hb e.2))
            have HK7 := Lib.hid (HK6.out.sub (ks' := []) (fun z hz => by cases hz) (fun z hz => hz))
            clear hb ha
            go_wp2
            go_roundw
            case rel => exact ⟨i + 1, by go_num, by omega, _, ss, ss', c10, rfl, HK7.out, HSN7.out, HWY5.out⟩
            case measure => simp [RowKit.intOf]; omega
          have eb : (o.2.2.1 != b) = false := by simp [hb]
          have HX := Lib.hid (show (f a b)[m]? = some x by rw [← ha, ← hb]; exact HX.out)
          have HAB := Lib.hid (show o.2.1 = a ∧ o.2.2.1 = b from ⟨ha, hb⟩)
          have hcap : ss.length ≤ c10 := by
            obtain ⟨F, _, h2, _⟩ := HK6.out
            exact (h2 (.slice ss' ss.length c10, ss) (by simp)).cap
          clear ha hb
          have K16 := Lib.hid (HK6.out.blk (q := w4.heap.size) (List.mem_cons_self ..))
          clear c16
          go_wp2_with fail
          clear c12
          go_loopw [18, 19] (fun s18 s19 wr => ∃ k : Nat, s19 = .int .i64 k ∧ k ≤ ss.length ∧ AtRel ss x k s18 ∧ Below w6.heap.size w6 wr) (fun _ s19 _ => (ss.length - RowKit.intOf s19).toNat)
          case atStart => exact ⟨0, rfl, by omega, AtRel.start ss x, Below.refl _ _⟩
          case round =>
            obtain ⟨k, rfl, hk, hat, hbx⟩ := hrel
            have HAT := Lib.hid hat
            clear hat
            by_cases hlt2 : k < ss.length
            · have b2 : (k : Int) < (ss.length : Int) := by omega
              obtain ⟨y, hy⟩ : ∃ y, ss[k]? = some y := ⟨ss[k], List.getElem?_eq_getElem hlt2⟩
              have hs := run_slice_low_high (P := Try.prog) 40 29 i0 4 Try.underlying40 hi hz1' .i64 .i64 ss' ss.length c10 k (k + 1) (by omega) (by omega)
              rw [show (((k + 1 : Nat)) : Int) = (k : Int) + 1 from rfl, Nat.add_sub_cancel_left] at hs
              have hw1 : IntKind.i64.wrap ((k : Int) + 1) = (k : Int) + 1 := IntWalk.i64_in _ ⟨by omega, by omega⟩
              have c16 := (K16.out.ext hbx).cell
              have HPS := Lib.hid (show ∀ W, Below wr.heap.size wr W → IsPs W (cutA ss' c10 k 4) 1 [y] from fun W hb => (((HK6.out.is (A := ss') (n := ss.length) (c := c10) (xs := ss) (by simp)).below (hbx.trans (hb.mono hbx.size))).one hlt2 hcap hy))
              have HPX := Lib.hid (show ∀ W, Below wr.heap.size wr W → IsP W [d0, d1, d2, d3] x from fun W hb => HIS.out.below (hbx.trans (hb.mono hbx.size)))
              have HY := Lib.hid hy
              clear hy
              go_wp2_with fail
              refine wp_region_held_drew (S := Ext wr) (by kernel_rfl) Ext.start (fun hS => ?_)
              simp only [List.size_toArray, List.length_cons, List.length_nil]
              refine take_at (i := 0) (oi := _) (dst := some 82) (v := ?_) rfl rfl (by kernel_rfl) (by kernel_rfl) (by kernel_rfl) (fun _ _ _ h => h) (Or.inl ⟨by rfl, by intro w hSw; (try dsimp only at hSw); go_simp; (try with_reducible rfl)⟩) (by assumption) ?_; (try simp only [Act.put, List.setIfInBounds_toArray, List.set_cons_zero, List.set_cons_succ])
              refine take_at (i := 1) (oi := _) (dst := some 83) (v := ?_) rfl rfl (by kernel_rfl) (by kernel_rfl) (by kernel_rfl) (fun _ _ _ h => h) (Or.inl ⟨by rfl, by intro w hSw; (try dsimp only at hSw); go_simp; (try with_reducible rfl)⟩) (by assumption) ?_; (try simp only [Act.put, List.setIfInBounds_toArray, List.set_cons_zero, List.set_cons_succ])
              refine take_at (i := 2) (oi := _) (dst := some 84) (v := ?_) rfl rfl (by kernel_rfl) (by kernel_rfl) (by kernel_rfl) (fun _ _ _ h => h) (Or.inl ⟨by rfl, by intro w hSw; (try dsimp only at hSw); go_simp; (try with_reducible rfl)⟩) (by assumption) ?_; (try simp only [Act.put, List.setIfInBounds_toArray, List.set_cons_zero, List.set_cons_succ])
              refine take_at (i := 3) (oi := _) (dst := some 85) (v := ?_) rfl rfl (by kernel_rfl) (by kernel_rfl) (by kernel_rfl) (fun _ _ _ h => h) (Or.inl ⟨by rfl, by intro w hSw; (try dsimp only at hSw); go_simp; (try with_reducible rfl)⟩) (by assumption) ?_; (try simp only [Act.put, List.setIfInBounds_toArray, List.set_cons_zero, List.set_cons_succ])
              refine take_at (i := 4) (oi := _) (dst := some 86) (v := ?_) rfl rfl (by kernel_rfl) (by kernel_rfl) (by kernel_rfl) (fun _ _ _ h => h) (Or.inl ⟨by rfl, by intro w hSw; (try dsimp only at hSw); go_simp; (try with_reducible rfl)⟩) (by assumption) ?_; (try simp only [Act.put, List.setIfInBounds_toArray, List.set_cons_zero, List.set_cons_succ])
              refine take_at (i := 5) (oi := _) (dst := some 87) (v := ?_) rfl rfl (by kernel_rfl) (by kernel_rfl) (by kernel_rfl) (fun _ _ _ h => h) (Or.inl ⟨by rfl, by intro w hSw; (try dsimp only at hSw); go_simp; (try with_reducible rfl)⟩) (by assumption) ?_; (try simp only [Act.put, List.setIfInBounds_toArray, List.set_cons_zero, List.set_cons_succ])
              refine wpAnyH_ready (rs := [6]) (by kernel_rfl) (by simp) ?_; refine AllReadyH.cons (o := _) rfl (fun K hK => ?_) AllReadyH.nil; go_simp
              refine hK.out _ _ (Ext.alloc hS _) (fun hS2 => ?_)
              clear hK
              refine wpAnyH_ready (rs := [7]) (by kernel_rfl) (by simp) ?_; refine AllReadyH.cons (o := _) rfl (fun K hK => ?_) AllReadyH.nil; go_simp
              refine (same_any _ _ 1 _ 1 1 [y] [x] _ (HPS.out _ hS2.2.2) ((HPX.out _ hS.2.2).lit' _ _) (by decide)).mono ?_
              rintro e w7 ⟨rfl, hb7⟩
              refine hK.out _ _ (Ext.below hS2 hb7) (fun hS3 => ?_)
              clear hK
              refine wpAnyH_done (by kernel_rfl) ?_ _
              have hbx3 := hbx.trans (hS3.2.2.mono hbx.size)
              clear hS hS2 hS3 c16 hs hw1
              by_cases hyx : pk y = pk x
              · have ey : (decide ([y].map pk = [x].map pk)) = true := by simp [hyx]
                have HAT2 := Lib.hid (AtRel.yes HY.out hyx)
                clear hyx
                rw [ey]
                clear ey
                go_wp2
                go_roundw
                case rel => exact ⟨k + 1, by go_num, by omega, HAT2.out, hbx3⟩
                case measure => simp [RowKit.intOf]; omega
              · have ey : (decide ([y].map pk = [x].map pk)) = false := by simp [hyx]
                have HAT2 := Lib.hid (HAT.out.no HY.out hyx)
                clear hyx
                rw [ey]
                clear ey
                go_wp2
                go_roundw
                case rel => exact ⟨k + 1, by go_num, by omega, HAT2.out, hbx3⟩
                case measure => simp [RowKit.intOf]; omega
            · obtain rfl : k = ss.length := by omega
              have b2 : ¬ ((ss.length : Int) < (ss.length : Int)) := by omega
              obtain ⟨p, y, hsp, hp, hy, hye⟩ := HAT.out.found (HWY.out.mem HX.out)
              subst hsp
              have HY := Lib.hid hy
              have HYE := Lib.hid hye
              have HKX := Lib.hid (HK6.out.below hbx)
              obtain ⟨sd, rfl⟩ : ∃ sd, ss' = some sd := (HKX.out.is (A := ss') (n := ss.length) (c := c10) (xs := ss) (by simp)).addr (by omega)
              obtain ⟨sd2, hsd2⟩ : ∃ sd2, cutA (some sd) c10 (p + 1) 4 = some sd2 := by unfold cutA; split <;> exact ⟨_, rfl⟩
              have hs1 := run_slice_high (P := Try.prog) 40 29 i0 Try.underlying40 hi .i64 (some sd) ss.length c10 p (by omega)
              have hs2 := run_slice_low (P := Try.prog) 40 29 i0 4 Try.underlying40 hi hz1' .i64 (some sd) ss.length c10 (p + 1) (by omega)
              rw [show (((p + 1 : Nat)) : Int) = (p : Int) + 1 from rfl, hsd2] at hs2
              have HSD := Lib.hid hsd2
              have b3 : ¬ ((p : Int) < 0) := by omega
              clear hy hye HAT hsd2
              go_wp2_with (with_reducible refine stop_at (d := 97) ?_)
              refine hide (name_list (fun w7 hw7 => ?_))
              have hb7 : Below wr.heap.size wr w7 := by rw [hw7]; exact below_alloc_one _ _
              have k7 : BlkT w7 wr.heap.size 29 [] := by rw [hw7]; exact BlkT.new _ _ _
              clear hw7
              obtain ⟨F, hl, hls, _⟩ := HKX.out
              have hp7 := (hls (.slice (some sd) ss.length c10, ss) (by simp))
              have hl7 := hl.below hb7
              have hfr7 : Free w1 w7 F wr.heap.size := ⟨hl.2.2.size, k7.lt, fun hh => by have := hl.lt _ hh; omega⟩
              have hne7 : ¬ (Value.slice (some sd) ss.length c10).ownBlock = some wr.heap.size := fun e => by
                obtain ⟨_, _, _, h3, _⟩ := hp7
                have := (h3 _ e).2.1
                omega
              have hp7 := hp7.below hb7
              obtain ⟨zs, z1, zl, z2, z3, z4⟩ := hp7.open
              have hk4 : ∀ z ∈ zs, z.1.length = 4 := fun z hz => (z4 z hz).len
              have hst := (ownsRow_sl z2).take (k := p) (by omega)
              rw [flat_take _ 4 zs hk4] at hst
              have Z1 := Lib.hid z1
              have Z4 := Lib.hid z4
              have HP7 := Lib.hid hp7
              have HL7 := Lib.hid hl7
              have HFR := Lib.hid hfr7
              have HNE := Lib.hid hne7
              have K4 := Lib.hid hk4
              clear hl hls hp7 hl7 hfr7 hne7 z1 z3 z4 hk4
              refine hide (wpList_append_at rfl (.tmp 93) (.tmp 96) 40 rfl 29 i0 _ 4 48 Try.underlying40 hi hz0 hz1' hz2' rfl (by omega) (some ⟨wr.heap.size, 0, none⟩) 0 0 [] rfl (BlkT.row k7 4) sd p c10 _ rfl hst (fun u hu => by obtain ⟨z, hz, hu⟩ := List.mem_flatMap.1 hu; exact (Z4.out z (List.mem_of_mem_take hz)).one u hu) (by omega) (by omega) ?_)
              intro A8 c8 w8 ho8 hg8 hv8
              have hpr := PList.put (n := 0) (zs := []) (rs := zs.take p) (F := F) rfl (BlkT.row k7 4) (fun q e => by simp only [Value.ownBlock, Option.some.injEq] at e; subst e; exact HFR.out) (fun z hz => by cases hz) (fun z hz => Z4.out z (List.mem_of_mem_take hz)) (by simp; omega) (by simpa using ho8) hg8 hv8 HL7.out.2.2.size HL7.out.lt
              rw [Nat.zero_add, List.nil_append] at hpr
              have hsm8 := same_of_cells hg8 k7
              have hps := HP7.out.stay hg8 (fun r e => by simp only [Value.ownBlock, Option.some.injEq] at e; subst e; exact HNE.out) hsm8
              have hl8 := HL7.out.spare hg8 (fun r e => by simp only [Value.ownBlock, Option.some.injEq] at e; subst e; exact ⟨HFR.out.2.2, HFR.out.1⟩)
              rw [Nat.zero_add]
              have HPR := Lib.hid hpr
              have HPS := Lib.hid hps
              have HL8 := Lib.hid hl8
              clear hpr hps hl8 hsm8 ho8 hg8 hv8 hst z2 k7
              go_wp2_with (with_reducible refine stop_at (d := 103) ?_)
              obtain ⟨ys, y1, yl, y2, y3, y4⟩ : ∃ ys : List (List Value × Pkt), ys.map (·.2) = ss.take p ∧ ys.length = p ∧ w8.ownsRow 0 29 4 (.slice A8 p c8) p (ys.flatMap (·.1)) ∧ (∀ g, (Value.slice A8 p c8).ownBlock = some g → Free w1 w8 F g) ∧ ∀ z ∈ ys, IsX w1 w8 F z.1 z.2 := by
                have e1 : (zs.take p).map (·.2) = ss.take p := by rw [List.map_take, Z1.out]
                have h := HPR.out
                rw [e1] at h
                have e2 : (ss.take p).length = p := by rw [List.length_take]; omega
                obtain ⟨ys, y1, yl, y2, y3, y4⟩ := PList.open (A := A8) (c := c8) (by rw [e2]; exact h)
                rw [e2] at yl y2 y3
                exact ⟨ys, y1, yl, y2, y3, y4⟩
              obtain ⟨us, u1, ul, u2, u3, u4⟩ := HPS.out.open
              have hk4 : ∀ z ∈ us, z.1.length = 4 := fun z hz => (u4 z hz).len
              have hct := (ownsRow_sl u2).cut (k := p + 1) (by omega) hcap
              rw [flat_drop _ 4 us hk4, HSD.out] at hct
              have U1 := Lib.hid u1
              have U4 := Lib.hid u4
              have Y1 := Lib.hid y1
              have Y3 := Lib.hid y3
              have Y4 := Lib.hid y4
              clear u1 u3 u4 y1 y3 y4 hk4 u2
              refine hide (wpList_append_at rfl (.tmp 98) (.tmp 102) 40 rfl 29 i0 _ 4 48 Try.underlying40 hi hz0 hz1' hz2' rfl (by omega) A8 p c8 _ rfl y2 sd2 (ss.length - (p + 1)) (c10 - (p + 1)) _ rfl hct (fun u hu => by obtain ⟨z, hz, hu⟩ := List.mem_flatMap.1 hu; exact (U4.out z (List.mem_of_mem_drop hz)).one u hu) (by omega) (by omega) ?_)
              intro A9 c9 w9 ho9 hg9 hv9
              obtain ⟨A2, c2, hv2, hks9⟩ := KS.close (rs := us.drop (p + 1)) (ss := ss.eraseIdx p) HL8.out yl y2 Y3.out Y4.out (fun z hz => U4.out z (List.mem_of_mem_drop hz)) (by rw [List.length_drop, ul]) ho9 hg9 hv9 (by rw [List.map_append, Y1.out, List.map_drop, U1.out, List.eraseIdx_eq_take_drop_succ])
              have HK9 := Lib.hid hks9
              have HV9 := Lib.hid hv2
              have HWY9 := Lib.hid (show Way a b (updF f o.2.1 o.2.2.1 ((f o.2.1 o.2.2.1).eraseIdx m)) (ss.eraseIdx p) from by
                rw [HAB.out.1, HAB.out.2]; exact HWY.out.drop HX.out HY.out HYE.out)
              clear hks9 hv2 ho9 hg9 hv9 hct y2
              go_wp2
              go_roundw
              case rel => exact ⟨i + 1, by go_num, by omega, _, _, A2, c2, HV9.out, HK9.out, HSN7.out, HWY9.out⟩
              case measure => simp [RowKit.intOf]; omega
    · obtain rfl : i = n := by omega
      have b1 : ¬ ((i : Int) < (i : Int)) := by omega
      obtain ⟨f, ss, ss', c10, rfl, hks, hsane, hway⟩ := hka
      have HSN := Lib.hid hsane
      have HWY := Lib.hid hway
      have HKS := Lib.hid hks
      clear hks hsane hway
      go_wp2_with fail
      refine (ks_bag HKS.out HSN.out).mono ?_
      rintro e w3 ⟨A, d, E, xs, rfl, hks, hc⟩
      have HBEL := Lib.hid hks.bel
      clear hks
      rcases hc with ⟨_, rfl, rfl⟩ | ⟨_, rfl, rfl⟩
      · have e1 : (((f a b).length : Int) == (ss.length : Int)) = true := beq_iff_eq.2 (by rw [HWY.out.len])
        go_wp2
        go_ret
        exact ⟨rfl, hb1.trans (HBEL.out.mono hb1.size)⟩
      · go_wp2
        go_ret
        exact ⟨rfl, hb1.trans (HBEL.out.mono hb1.size)⟩
end Go.Proofs.Ytjihiohmemmabaa
